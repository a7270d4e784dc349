/-
  Parts of the proof (their names shortened by a program). No condition.
-/
import Derived.Test.YthakgjpejhjaoaaGreatMg01
import Derived.Test.YthakgjpejhjaoaaGreatMg19
import Derived.Test.YthakgjpejhjaoaaGreatMg18
import Derived.Test.YthakgjpejhjaoaaGreatMg08
import Derived.Test.YthakgjpejhjaoaaGreatMg17
import Derived.Test.YthakgjpejhjaoaaGreatMg05
import Derived.Test.YthakgjpejhjaoaaGreatProg
import Derived.Laws.FloatArith
import Derived.Laws.Externs
import Derived.Test.YthakgjpejhjaoaaGreatMg04
import Derived.Test.YthakgjpejhjaoaaGreatMg06
namespace Go.Proofs.YthakgjpejhjaoaaGreat
open Go Go.RowKit
set_option linter.unusedVariables false
set_option linter.unusedSimpArgs false
set_option maxRecDepth 100000
set_option maxHeartbeats 16000000
theorem Ypi (d a pb : Nat) (s : St) (i : Ins) (M : Mem) (w : World) (h : Yq w d a pb s i M) (hc : Ycm M s i.a 4 3 = false) :
  Calls Tryz.prog 84 #[.pointer (some ⟨d, 0, none⟩)] w fun e w' => e = .panicked [{ v := .iface 35 (Yd5 M s i.a 4 3).val, recovered := false }] ∧ Yk w' a pb (M) ∧ Upd [d, pb] w w' := by
 have HD := Yh_ (Dq.of h)
 have HI := Yh_ h.io
 have tok : True := trivial
 have c20 : w.cell? ⟨d, 20, none⟩ = some (.int .i64 i.a.k) := h.cell 20; have c21 : w.cell? ⟨d, 21, none⟩ = some (.int .i64 i.a.r) := h.cell 21; have c22 : w.cell? ⟨d, 22, none⟩ = some (.int .u32 i.a.imm) := h.cell 22; have c23 : w.cell? ⟨d, 23, none⟩ = some (.int .i64 i.a.b) := h.cell 23; have c24 : w.cell? ⟨d, 24, none⟩ = some (.int .i64 i.a.x) := h.cell 24; have c25 : w.cell? ⟨d, 25, none⟩ = some (.int .u32 i.a.sc) := h.cell 25
 have HC := Yh_ hc
 clear hc
 clear h
 go_enter Tryz.func84, Tryz.ntmps84
 go_wp2_with (first | (have _t := tok; clear _t tok; go_at_call 46; refine (Yo5 d a pb s i M i.a _ HD.out.b HC.out).mono ?_; rintro e w4 ⟨rfl, hu⟩; have H4 := Yh_ (HD.out.quiet hu); clear c20 c21 c22 c23 c24 c25; have c20 : w4.cell? ⟨d, 20, none⟩ = some (.int .i64 i.a.k) := H4.out.b.cell 20; have c21 : w4.cell? ⟨d, 21, none⟩ = some (.int .i64 i.a.r) := H4.out.b.cell 21; have c22 : w4.cell? ⟨d, 22, none⟩ = some (.int .u32 i.a.imm) := H4.out.b.cell 22; have c23 : w4.cell? ⟨d, 23, none⟩ = some (.int .i64 i.a.b) := H4.out.b.cell 23; have c24 : w4.cell? ⟨d, 24, none⟩ = some (.int .i64 i.a.x) := H4.out.b.cell 24; have c25 : w4.cell? ⟨d, 25, none⟩ = some (.int .u32 i.a.sc) := H4.out.b.cell 25; clear hu))
 exact ⟨rfl, rfl, H4.out.b.m, H4.out.u⟩
theorem Ypo (d a pb : Nat) (s : St) (i : Ins) (M : Mem) (w : World) (h : Yq w d a pb s i M) (hc : Ycm M s i.a 4 3 = true) (hra : opK M s i.a 4 = true) (hrb : opK M s i.b 4 = false) :
  Calls Tryz.prog 84 #[.pointer (some ⟨d, 0, none⟩)] w fun e w' => e = .panicked [{ v := .iface 35 (opF M s i.b 4).val, recovered := false }] ∧ Yk w' a pb (M) ∧ Upd [d, pb] w w' := by
 have HD := Yh_ (Dq.of h)
 have HI := Yh_ h.io
 have tok : True := trivial
 have c20 : w.cell? ⟨d, 20, none⟩ = some (.int .i64 i.a.k) := h.cell 20; have c21 : w.cell? ⟨d, 21, none⟩ = some (.int .i64 i.a.r) := h.cell 21; have c22 : w.cell? ⟨d, 22, none⟩ = some (.int .u32 i.a.imm) := h.cell 22; have c23 : w.cell? ⟨d, 23, none⟩ = some (.int .i64 i.a.b) := h.cell 23; have c24 : w.cell? ⟨d, 24, none⟩ = some (.int .i64 i.a.x) := h.cell 24; have c25 : w.cell? ⟨d, 25, none⟩ = some (.int .u32 i.a.sc) := h.cell 25
 have HC := Yh_ hc
 clear hc
 have HRA := Yh_ hra
 clear hra
 have HRB := Yh_ hrb
 clear hrb
 clear h
 go_enter Tryz.func84, Tryz.ntmps84
 go_wp2_with (first | (have _t := tok; clear _t tok; go_at_call 46; refine (Ygx d a pb s i M i.a _ HD.out.b HC.out).mono ?_; rintro e w4 ⟨rfl, hu⟩; have H4 := Yh_ (HD.out.quiet hu); clear c20 c21 c22 c23 c24 c25; have c20 : w4.cell? ⟨d, 20, none⟩ = some (.int .i64 i.a.k) := H4.out.b.cell 20; have c21 : w4.cell? ⟨d, 21, none⟩ = some (.int .i64 i.a.r) := H4.out.b.cell 21; have c22 : w4.cell? ⟨d, 22, none⟩ = some (.int .u32 i.a.imm) := H4.out.b.cell 22; have c23 : w4.cell? ⟨d, 23, none⟩ = some (.int .i64 i.a.b) := H4.out.b.cell 23; have c24 : w4.cell? ⟨d, 24, none⟩ = some (.int .i64 i.a.x) := H4.out.b.cell 24; have c25 : w4.cell? ⟨d, 25, none⟩ = some (.int .u32 i.a.sc) := H4.out.b.cell 25; clear hu) | (have _t := H4; clear _t; go_at_call 48; refine (Yck d a pb s i M i.a 4 _ H4.out.b HI.out.a HRA.out).mono ?_; rintro e w5 ⟨rfl, hu⟩; have H5 := Yh_ (H4.out.quiet hu); clear c20 c21 c22 c23 c24 c25; have c26 : w5.cell? ⟨d, 26, none⟩ = some (.int .i64 i.b.k) := H5.out.b.cell 26; have c27 : w5.cell? ⟨d, 27, none⟩ = some (.int .i64 i.b.r) := H5.out.b.cell 27; have c28 : w5.cell? ⟨d, 28, none⟩ = some (.int .u32 i.b.imm) := H5.out.b.cell 28; have c29 : w5.cell? ⟨d, 29, none⟩ = some (.int .i64 i.b.b) := H5.out.b.cell 29; have c30 : w5.cell? ⟨d, 30, none⟩ = some (.int .i64 i.b.x) := H5.out.b.cell 30; have c31 : w5.cell? ⟨d, 31, none⟩ = some (.int .u32 i.b.sc) := H5.out.b.cell 31; clear hu H4) | (have _t := H5; clear _t; go_at_call 48; refine (Yhc d a pb s i M i.b 4 _ H5.out.b HI.out.b HRB.out).mono ?_; rintro e w6 ⟨rfl, hu⟩; have H6 := Yh_ (H5.out.quiet hu); clear c26 c27 c28 c29 c30 c31; have c20 : w6.cell? ⟨d, 20, none⟩ = some (.int .i64 i.a.k) := H6.out.b.cell 20; have c21 : w6.cell? ⟨d, 21, none⟩ = some (.int .i64 i.a.r) := H6.out.b.cell 21; have c22 : w6.cell? ⟨d, 22, none⟩ = some (.int .u32 i.a.imm) := H6.out.b.cell 22; have c23 : w6.cell? ⟨d, 23, none⟩ = some (.int .i64 i.a.b) := H6.out.b.cell 23; have c24 : w6.cell? ⟨d, 24, none⟩ = some (.int .i64 i.a.x) := H6.out.b.cell 24; have c25 : w6.cell? ⟨d, 25, none⟩ = some (.int .u32 i.a.sc) := H6.out.b.cell 25; clear hu H5))
 exact ⟨rfl, rfl, H6.out.b.m, H6.out.u⟩
theorem exch_ok (d a pb : Nat) (s : St) (i : Ins) (M : Mem) (w : World) (h : Yq w d a pb s i M) (hc : Ycm M s i.a 4 3 = true) (hra : opK M s i.a 4 = true) (hrb : opK M s i.b 4 = true) (hwa : Ybg M s i.a 4 = true) (hwb : Ybg (opM M s i.a 4 (opV M s i.b 4)) (opS s i.a 4 (opV M s i.b 4)) i.b 4 = true) :
  Calls Tryz.prog 84 #[.pointer (some ⟨d, 0, none⟩)] w fun e w' => e = .returned (.tuple #[]) ∧ Yq w' d a pb ((opS (opS s i.a 4 (opV M s i.b 4)) i.b 4 (opV M s i.a 4))) i ((opM (opM M s i.a 4 (opV M s i.b 4)) (opS s i.a 4 (opV M s i.b 4)) i.b 4 (opV M s i.a 4))) ∧ Upd [d, pb] w w' := by
 have HD := Yh_ (Dq.of h)
 have HI := Yh_ h.io
 have tok : True := trivial
 have c20 : w.cell? ⟨d, 20, none⟩ = some (.int .i64 i.a.k) := h.cell 20; have c21 : w.cell? ⟨d, 21, none⟩ = some (.int .i64 i.a.r) := h.cell 21; have c22 : w.cell? ⟨d, 22, none⟩ = some (.int .u32 i.a.imm) := h.cell 22; have c23 : w.cell? ⟨d, 23, none⟩ = some (.int .i64 i.a.b) := h.cell 23; have c24 : w.cell? ⟨d, 24, none⟩ = some (.int .i64 i.a.x) := h.cell 24; have c25 : w.cell? ⟨d, 25, none⟩ = some (.int .u32 i.a.sc) := h.cell 25
 have HVA := Yh_ (Yc7 h i.a h.io.a 4)
 have HVB := Yh_ (Yc7 h i.b h.io.b 4)
 have HC := Yh_ hc
 clear hc
 have HRA := Yh_ hra
 clear hra
 have HRB := Yh_ hrb
 clear hrb
 have HWA := Yh_ hwa
 clear hwa
 have HWB := Yh_ hwb
 clear hwb
 clear h
 go_enter Tryz.func84, Tryz.ntmps84
 go_wp2_with (first | (have _t := tok; clear _t tok; go_at_call 46; refine (Ygx d a pb s i M i.a _ HD.out.b HC.out).mono ?_; rintro e w4 ⟨rfl, hu⟩; have H4 := Yh_ (HD.out.quiet hu); clear c20 c21 c22 c23 c24 c25; have c20 : w4.cell? ⟨d, 20, none⟩ = some (.int .i64 i.a.k) := H4.out.b.cell 20; have c21 : w4.cell? ⟨d, 21, none⟩ = some (.int .i64 i.a.r) := H4.out.b.cell 21; have c22 : w4.cell? ⟨d, 22, none⟩ = some (.int .u32 i.a.imm) := H4.out.b.cell 22; have c23 : w4.cell? ⟨d, 23, none⟩ = some (.int .i64 i.a.b) := H4.out.b.cell 23; have c24 : w4.cell? ⟨d, 24, none⟩ = some (.int .i64 i.a.x) := H4.out.b.cell 24; have c25 : w4.cell? ⟨d, 25, none⟩ = some (.int .u32 i.a.sc) := H4.out.b.cell 25; clear hu) | (have _t := H4; clear _t; go_at_call 48; refine (Yck d a pb s i M i.a 4 _ H4.out.b HI.out.a HRA.out).mono ?_; rintro e w5 ⟨rfl, hu⟩; have H5 := Yh_ (H4.out.quiet hu); clear c20 c21 c22 c23 c24 c25; have c26 : w5.cell? ⟨d, 26, none⟩ = some (.int .i64 i.b.k) := H5.out.b.cell 26; have c27 : w5.cell? ⟨d, 27, none⟩ = some (.int .i64 i.b.r) := H5.out.b.cell 27; have c28 : w5.cell? ⟨d, 28, none⟩ = some (.int .u32 i.b.imm) := H5.out.b.cell 28; have c29 : w5.cell? ⟨d, 29, none⟩ = some (.int .i64 i.b.b) := H5.out.b.cell 29; have c30 : w5.cell? ⟨d, 30, none⟩ = some (.int .i64 i.b.x) := H5.out.b.cell 30; have c31 : w5.cell? ⟨d, 31, none⟩ = some (.int .u32 i.b.sc) := H5.out.b.cell 31; clear hu H4) | (have _t := H5; clear _t; go_at_call 48; refine (Yck d a pb s i M i.b 4 _ H5.out.b HI.out.b HRB.out).mono ?_; rintro e w6 ⟨rfl, hu⟩; have H6 := Yh_ (H5.out.quiet hu); clear c26 c27 c28 c29 c30 c31; have c20 : w6.cell? ⟨d, 20, none⟩ = some (.int .i64 i.a.k) := H6.out.b.cell 20; have c21 : w6.cell? ⟨d, 21, none⟩ = some (.int .i64 i.a.r) := H6.out.b.cell 21; have c22 : w6.cell? ⟨d, 22, none⟩ = some (.int .u32 i.a.imm) := H6.out.b.cell 22; have c23 : w6.cell? ⟨d, 23, none⟩ = some (.int .i64 i.a.b) := H6.out.b.cell 23; have c24 : w6.cell? ⟨d, 24, none⟩ = some (.int .i64 i.a.x) := H6.out.b.cell 24; have c25 : w6.cell? ⟨d, 25, none⟩ = some (.int .u32 i.a.sc) := H6.out.b.cell 25; clear hu H5) | (have _t := H6; clear _t; go_at_call 49; refine (Ydi d a pb s i M i.a 4 (opV M s i.b 4) _ H6.out.b HI.out.a HVB.out HWA.out).mono ?_; rintro e w7 ⟨rfl, hd, hu⟩; have H7 := Yh_ (H6.out.next hd hu); clear c20 c21 c22 c23 c24 c25; have c26 : w7.cell? ⟨d, 26, none⟩ = some (.int .i64 i.b.k) := H7.out.b.cell 26; have c27 : w7.cell? ⟨d, 27, none⟩ = some (.int .i64 i.b.r) := H7.out.b.cell 27; have c28 : w7.cell? ⟨d, 28, none⟩ = some (.int .u32 i.b.imm) := H7.out.b.cell 28; have c29 : w7.cell? ⟨d, 29, none⟩ = some (.int .i64 i.b.b) := H7.out.b.cell 29; have c30 : w7.cell? ⟨d, 30, none⟩ = some (.int .i64 i.b.x) := H7.out.b.cell 30; have c31 : w7.cell? ⟨d, 31, none⟩ = some (.int .u32 i.b.sc) := H7.out.b.cell 31; clear hd hu H6) | (have _t := H7; clear _t; go_at_call 49; refine (Ydi d a pb (opS s i.a 4 (opV M s i.b 4)) i (opM M s i.a 4 (opV M s i.b 4)) i.b 4 (opV M s i.a 4) _ H7.out.b HI.out.b HVA.out HWB.out).mono ?_; rintro e w8 ⟨rfl, hd, hu⟩; have H8 := Yh_ (H7.out.next hd hu); clear hd hu H7))
 go_end0
 exact ⟨rfl, H8.out.b, H8.out.u⟩
theorem exch_bad (d a pb : Nat) (s : St) (i : Ins) (M : Mem) (w : World) (h : Yq w d a pb s i M) (hc : Ycm M s i.a 4 3 = true) (hra : opK M s i.a 4 = true) (hrb : opK M s i.b 4 = true) (hwa : Ybg M s i.a 4 = true) (hwb : Ybg (opM M s i.a 4 (opV M s i.b 4)) (opS s i.a 4 (opV M s i.b 4)) i.b 4 = false) :
  Calls Tryz.prog 84 #[.pointer (some ⟨d, 0, none⟩)] w fun e w' => e = .panicked [{ v := .iface 35 (Ycc (opM M s i.a 4 (opV M s i.b 4)) (opS s i.a 4 (opV M s i.b 4)) i.b 4).val, recovered := false }] ∧ Yk w' a pb ((opM (opM M s i.a 4 (opV M s i.b 4)) (opS s i.a 4 (opV M s i.b 4)) i.b 4 (opV M s i.a 4))) ∧ Upd [d, pb] w w' := by
 have HD := Yh_ (Dq.of h)
 have HI := Yh_ h.io
 have tok : True := trivial
 have c20 : w.cell? ⟨d, 20, none⟩ = some (.int .i64 i.a.k) := h.cell 20; have c21 : w.cell? ⟨d, 21, none⟩ = some (.int .i64 i.a.r) := h.cell 21; have c22 : w.cell? ⟨d, 22, none⟩ = some (.int .u32 i.a.imm) := h.cell 22; have c23 : w.cell? ⟨d, 23, none⟩ = some (.int .i64 i.a.b) := h.cell 23; have c24 : w.cell? ⟨d, 24, none⟩ = some (.int .i64 i.a.x) := h.cell 24; have c25 : w.cell? ⟨d, 25, none⟩ = some (.int .u32 i.a.sc) := h.cell 25
 have HVA := Yh_ (Yc7 h i.a h.io.a 4)
 have HVB := Yh_ (Yc7 h i.b h.io.b 4)
 have HC := Yh_ hc
 clear hc
 have HRA := Yh_ hra
 clear hra
 have HRB := Yh_ hrb
 clear hrb
 have HWA := Yh_ hwa
 clear hwa
 have HWB := Yh_ hwb
 clear hwb
 clear h
 go_enter Tryz.func84, Tryz.ntmps84
 go_wp2_with (first | (have _t := tok; clear _t tok; go_at_call 46; refine (Ygx d a pb s i M i.a _ HD.out.b HC.out).mono ?_; rintro e w4 ⟨rfl, hu⟩; have H4 := Yh_ (HD.out.quiet hu); clear c20 c21 c22 c23 c24 c25; have c20 : w4.cell? ⟨d, 20, none⟩ = some (.int .i64 i.a.k) := H4.out.b.cell 20; have c21 : w4.cell? ⟨d, 21, none⟩ = some (.int .i64 i.a.r) := H4.out.b.cell 21; have c22 : w4.cell? ⟨d, 22, none⟩ = some (.int .u32 i.a.imm) := H4.out.b.cell 22; have c23 : w4.cell? ⟨d, 23, none⟩ = some (.int .i64 i.a.b) := H4.out.b.cell 23; have c24 : w4.cell? ⟨d, 24, none⟩ = some (.int .i64 i.a.x) := H4.out.b.cell 24; have c25 : w4.cell? ⟨d, 25, none⟩ = some (.int .u32 i.a.sc) := H4.out.b.cell 25; clear hu) | (have _t := H4; clear _t; go_at_call 48; refine (Yck d a pb s i M i.a 4 _ H4.out.b HI.out.a HRA.out).mono ?_; rintro e w5 ⟨rfl, hu⟩; have H5 := Yh_ (H4.out.quiet hu); clear c20 c21 c22 c23 c24 c25; have c26 : w5.cell? ⟨d, 26, none⟩ = some (.int .i64 i.b.k) := H5.out.b.cell 26; have c27 : w5.cell? ⟨d, 27, none⟩ = some (.int .i64 i.b.r) := H5.out.b.cell 27; have c28 : w5.cell? ⟨d, 28, none⟩ = some (.int .u32 i.b.imm) := H5.out.b.cell 28; have c29 : w5.cell? ⟨d, 29, none⟩ = some (.int .i64 i.b.b) := H5.out.b.cell 29; have c30 : w5.cell? ⟨d, 30, none⟩ = some (.int .i64 i.b.x) := H5.out.b.cell 30; have c31 : w5.cell? ⟨d, 31, none⟩ = some (.int .u32 i.b.sc) := H5.out.b.cell 31; clear hu H4) | (have _t := H5; clear _t; go_at_call 48; refine (Yck d a pb s i M i.b 4 _ H5.out.b HI.out.b HRB.out).mono ?_; rintro e w6 ⟨rfl, hu⟩; have H6 := Yh_ (H5.out.quiet hu); clear c26 c27 c28 c29 c30 c31; have c20 : w6.cell? ⟨d, 20, none⟩ = some (.int .i64 i.a.k) := H6.out.b.cell 20; have c21 : w6.cell? ⟨d, 21, none⟩ = some (.int .i64 i.a.r) := H6.out.b.cell 21; have c22 : w6.cell? ⟨d, 22, none⟩ = some (.int .u32 i.a.imm) := H6.out.b.cell 22; have c23 : w6.cell? ⟨d, 23, none⟩ = some (.int .i64 i.a.b) := H6.out.b.cell 23; have c24 : w6.cell? ⟨d, 24, none⟩ = some (.int .i64 i.a.x) := H6.out.b.cell 24; have c25 : w6.cell? ⟨d, 25, none⟩ = some (.int .u32 i.a.sc) := H6.out.b.cell 25; clear hu H5) | (have _t := H6; clear _t; go_at_call 49; refine (Ydi d a pb s i M i.a 4 (opV M s i.b 4) _ H6.out.b HI.out.a HVB.out HWA.out).mono ?_; rintro e w7 ⟨rfl, hd, hu⟩; have H7 := Yh_ (H6.out.next hd hu); clear c20 c21 c22 c23 c24 c25; have c26 : w7.cell? ⟨d, 26, none⟩ = some (.int .i64 i.b.k) := H7.out.b.cell 26; have c27 : w7.cell? ⟨d, 27, none⟩ = some (.int .i64 i.b.r) := H7.out.b.cell 27; have c28 : w7.cell? ⟨d, 28, none⟩ = some (.int .u32 i.b.imm) := H7.out.b.cell 28; have c29 : w7.cell? ⟨d, 29, none⟩ = some (.int .i64 i.b.b) := H7.out.b.cell 29; have c30 : w7.cell? ⟨d, 30, none⟩ = some (.int .i64 i.b.x) := H7.out.b.cell 30; have c31 : w7.cell? ⟨d, 31, none⟩ = some (.int .u32 i.b.sc) := H7.out.b.cell 31; clear hd hu H6) | (have _t := H7; clear _t; go_at_call 49; refine (Yel d a pb (opS s i.a 4 (opV M s i.b 4)) i (opM M s i.a 4 (opV M s i.b 4)) i.b 4 (opV M s i.a 4) _ H7.out.b HI.out.b HVA.out HWB.out).mono ?_; rintro e w8 ⟨rfl, hd, hu⟩; have H8 := Yh_ (H7.out.next hd (hu.mono (T := [d, pb]) (by simp))); clear hd hu H7))
 exact ⟨rfl, rfl, H8.out.b.m, H8.out.u⟩
theorem Yl9 (d a pb : Nat) (s : St) (i : Ins) (M : Mem) (w : World) (h : Yq w d a pb s i M) (hop : i.op = 27) (s2 : St) (M2 : Mem) (hj : ∀ w1, Yq w1 d a pb s i M → Calls Tryz.prog 84 #[.pointer (some ⟨d, 0, none⟩)] w1 fun e w' => e = .returned (.tuple #[]) ∧ Yq w' d a pb (s2) i (M2) ∧ Upd [d, pb] w1 w') :
  Calls Tryz.prog 54 #[.pointer (some ⟨d, 0, none⟩)] w fun e w' => e = .returned (.tuple #[]) ∧ Yq w' d a pb (s2) i (M2) ∧ Upd [d, pb] w w' := by
 have HD := Yh_ h
 have HI := Yh_ h.io
 have HJ := Yh_ hj
 clear hj
 clear h
 go_enter Tryz.func54, Tryz.ntmps54
 go_wp2_with fail
 refine Yai 9 (Dg w d a pb s i M [] _ 7 8 41 Ins.zero.cells i.cells) (fun _ _ => False) (by kernel_rfl) (by decide +kernel) (fun r0 => Dg.start (Dq.of HD.out) 7 8 41 Ins.zero.cells i.cells r0) (fun _ _ _ h => h.elim) ?_
 simp only [List.take_succ_cons, List.take_zero, List.drop_succ_cons, List.drop_zero]
 iterate 3
  apply Yb rfl rfl
  ·intro dn r0 K hd hdep hK w5 hB2
   have hB1 := hB2.q
   skip
   have HB := Yh_ hB2
   clear hB1 hB2 hdep
   go_wp2_with fail
   first
   |exact hK _ (HB.out.same _ (by decide) (by decide))
   |exact HB.out.same _ (by decide) (by decide)
  ·exact ⟨_, rfl⟩
 apply Yb rfl rfl
 ·intro dn r0 K hd hdep hK w5 hB2
  have hB1 := hB2.q
  refine wp_load_mid 41 _ rfl d 18 rfl i.cells.toList _ hB1.b.ri Tryz.underlying41 rfl (by rw [Array.length_toList, Ins.size]; exact Ya1) ?_
  rw [Array.toArray_toList]
  exact hK _ (hB2.same _ (by decide) (by decide))
 ·exact ⟨_, rfl⟩
 iterate 3
  apply Yb rfl rfl
  ·intro dn r0 K hd hdep hK w5 hB2
   have hB1 := hB2.q
   skip
   have HB := Yh_ hB2
   clear hB1 hB2 hdep
   go_wp2_with fail
   first
   |exact hK _ (HB.out.same _ (by decide) (by decide))
   |exact HB.out.same _ (by decide) (by decide)
  ·exact ⟨_, rfl⟩
 refine Yr rfl (fun _ => rfl) 2 rfl (by simp [Act.put]) ?_ ?_
 ·intro dn r0 K hd w5 hB2 hK
  have HB := Yh_ hB2
  clear hB2
  simp only [Yi]
  go_wp2_with fail
  first
  |exact hK (.pointer (some ⟨w5.heap.size, 0, none⟩)) _ (HB.out.lay hd (by decide))
  |exact HB.out.lay hd (by decide)
 apply Yt rfl (fun _ => rfl)
 ·intro dn r0 K hd hdep hK w5 hB2
  have h8 : dn 7 = true := hdep ⟨7, .data⟩ (by simp) rfl
  obtain ⟨g0, e1, e2, e3⟩ := hB2.x h8
  refine Ybp i g0 _ _ rfl (by show r0 7 = _; exact e1) rfl e3 (by split <;> exact Ins.size _) ?_
  intro w6 hw
  rw [← hw]
  exact hK _ (hB2.put h8 e1 (by rintro c (rfl | rfl) <;> exact Yc8 _ i rfl) (by decide))
 ·exact ⟨_, fun _ => rfl, rfl⟩
 refine Yad (fun _ r0 w6 dn hall hB2 => ?_)
 obtain ⟨g, e1, hB1, hgl⟩ := hB2.fin (hall 7 (by decide))
 rw [hall 8 (by decide), if_pos rfl] at hB1
 show wpList _ _ _ _ (Act.put (Yi _ _ [] _) (some 2) (r0 7)) _
 rw [e1]
 simp only [Yi]
 clear e1 hall hB2
 have ci := hB1.ins; unfold Ins.cells at ci
 have H3 := Yh_ hB1
 clear hB1 hgl
 go_wp2_with (have _t := H3; clear _t; go_at_call 84; refine (HJ.out _ H3.out.b).mono ?_; rintro e w5 ⟨rfl, hd, hu⟩; have H5 := Yh_ (And.intro hd (H3.out.u.also hu (fun x hx => .inl hx))); clear hd hu H3 ci)
 go_end0
 exact ⟨rfl, H5.out.1, H5.out.2⟩
theorem Yfo (d a pb : Nat) (s : St) (i : Ins) (M : Mem) (w : World) (h : Yq w d a pb s i M) (hop : i.op = 27) (M2 : Mem) (F : Flt) (hj : ∀ w1, Yq w1 d a pb s i M → Calls Tryz.prog 84 #[.pointer (some ⟨d, 0, none⟩)] w1 fun e w' => e = .panicked [{ v := .iface 35 (F).val, recovered := false }] ∧ Yk w' a pb (M2) ∧ Upd [d, pb] w1 w') :
  Calls Tryz.prog 54 #[.pointer (some ⟨d, 0, none⟩)] w fun e w' => e = .panicked [{ v := .iface 35 (F).val, recovered := false }] ∧ Yk w' a pb (M2) ∧ Upd [d, pb] w w' := by
 have HD := Yh_ h
 have HI := Yh_ h.io
 have HJ := Yh_ hj
 clear hj
 clear h
 go_enter Tryz.func54, Tryz.ntmps54
 go_wp2_with fail
 refine Yai 9 (Dg w d a pb s i M [] _ 7 8 41 Ins.zero.cells i.cells) (fun _ _ => False) (by kernel_rfl) (by decide +kernel) (fun r0 => Dg.start (Dq.of HD.out) 7 8 41 Ins.zero.cells i.cells r0) (fun _ _ _ h => h.elim) ?_
 simp only [List.take_succ_cons, List.take_zero, List.drop_succ_cons, List.drop_zero]
 iterate 3
  apply Yb rfl rfl
  ·intro dn r0 K hd hdep hK w5 hB2
   have hB1 := hB2.q
   skip
   have HB := Yh_ hB2
   clear hB1 hB2 hdep
   go_wp2_with fail
   first
   |exact hK _ (HB.out.same _ (by decide) (by decide))
   |exact HB.out.same _ (by decide) (by decide)
  ·exact ⟨_, rfl⟩
 apply Yb rfl rfl
 ·intro dn r0 K hd hdep hK w5 hB2
  have hB1 := hB2.q
  refine wp_load_mid 41 _ rfl d 18 rfl i.cells.toList _ hB1.b.ri Tryz.underlying41 rfl (by rw [Array.length_toList, Ins.size]; exact Ya1) ?_
  rw [Array.toArray_toList]
  exact hK _ (hB2.same _ (by decide) (by decide))
 ·exact ⟨_, rfl⟩
 iterate 3
  apply Yb rfl rfl
  ·intro dn r0 K hd hdep hK w5 hB2
   have hB1 := hB2.q
   skip
   have HB := Yh_ hB2
   clear hB1 hB2 hdep
   go_wp2_with fail
   first
   |exact hK _ (HB.out.same _ (by decide) (by decide))
   |exact HB.out.same _ (by decide) (by decide)
  ·exact ⟨_, rfl⟩
 refine Yr rfl (fun _ => rfl) 2 rfl (by simp [Act.put]) ?_ ?_
 ·intro dn r0 K hd w5 hB2 hK
  have HB := Yh_ hB2
  clear hB2
  simp only [Yi]
  go_wp2_with fail
  first
  |exact hK (.pointer (some ⟨w5.heap.size, 0, none⟩)) _ (HB.out.lay hd (by decide))
  |exact HB.out.lay hd (by decide)
 apply Yt rfl (fun _ => rfl)
 ·intro dn r0 K hd hdep hK w5 hB2
  have h8 : dn 7 = true := hdep ⟨7, .data⟩ (by simp) rfl
  obtain ⟨g0, e1, e2, e3⟩ := hB2.x h8
  refine Ybp i g0 _ _ rfl (by show r0 7 = _; exact e1) rfl e3 (by split <;> exact Ins.size _) ?_
  intro w6 hw
  rw [← hw]
  exact hK _ (hB2.put h8 e1 (by rintro c (rfl | rfl) <;> exact Yc8 _ i rfl) (by decide))
 ·exact ⟨_, fun _ => rfl, rfl⟩
 refine Yad (fun _ r0 w6 dn hall hB2 => ?_)
 obtain ⟨g, e1, hB1, hgl⟩ := hB2.fin (hall 7 (by decide))
 rw [hall 8 (by decide), if_pos rfl] at hB1
 show wpList _ _ _ _ (Act.put (Yi _ _ [] _) (some 2) (r0 7)) _
 rw [e1]
 simp only [Yi]
 clear e1 hall hB2
 have ci := hB1.ins; unfold Ins.cells at ci
 have H3 := Yh_ hB1
 clear hB1 hgl
 go_wp2_with (have _t := H3; clear _t; go_at_call 84; refine (HJ.out _ H3.out.b).mono ?_; rintro e w5 ⟨rfl, hd, hu⟩; have H5 := Yh_ (And.intro hd (H3.out.u.also hu (fun x hx => .inl hx))); clear hd hu H3 ci)
 exact ⟨rfl, rfl, H5.out.1, H5.out.2⟩
section
structure AlW (w : World) (f g : Fl) (w1 : World) : Prop where
 z7 : w1.heap[w.heap.size]? = some (.cells f.cells 25 (0, 0))
 z9 : w1.heap[w.heap.size + 1]? = some (.cells Fl.zero.cells 25 (0, 0))
 z10 : w1.heap[w.heap.size + 1 + 1]? = some (.cells g.cells 25 (0, 0))
 u : Upd [] w w1
section
variable {w w1 w2 : World} {f g : Fl}
theorem AlW.of (w : World) (f g : Fl) : AlW w f g (((w.alloc (.cells f.cells 25)).alloc (.cells Fl.zero.cells 25)).alloc (.cells g.cells 25)) := by
 have h2 := heap_alloc_new ((w.alloc (.cells f.cells 25)).alloc (.cells Fl.zero.cells 25)) (.cells g.cells 25)
 rw [show ((w.alloc (.cells f.cells 25)).alloc (.cells Fl.zero.cells 25)).heap.size = w.heap.size + 1 + 1 from by simp] at h2
 exact ⟨Ym _ (heap_alloc2_old _ _ _), Ym _ (heap_alloc2_new _ _ _), h2, (((Upd.refl [] w).alloc _).alloc _).alloc _⟩
theorem AlW.drew (h : AlW w f g w1) : AlW w f g w1.drew := by
 have u := (Upd.refl [] w1).drew
 exact ⟨u.get h.z7 (by simp), u.get h.z9 (by simp), u.get h.z10 (by simp), h.u.drew⟩
theorem AlW.quiet (h : AlW w f g w1) (u : Upd [] w1 w2) : AlW w f g w2 := ⟨u.get h.z7 (by simp), u.get h.z9 (by simp), u.get h.z10 (by simp), h.u.also u (by simp)⟩
theorem AlW.put (h : AlW w f g w1) (k : Nat) (x : Bool) (f' : Fl) (he : f.cells.setIfInBounds k (.bool x) = f'.cells) : AlW w f' g (w1.setCell ⟨w.heap.size, k, none⟩ (.bool x)) := by
 have u := (Upd.refl [w.heap.size] w1).setCell (p := ⟨w.heap.size, k, none⟩) (.inl (by simp)) (.bool x)
 exact ⟨by rw [← he]; exact Yh h.z7 k (.bool x), u.get h.z9 (by simp), u.get h.z10 (by simp <;> omega), h.u.setCell (p := ⟨w.heap.size, k, none⟩) (.inr (Nat.le_refl _)) _⟩
theorem AlW.st (h : AlW w f g w1) (x0 x1 x2 x3 x4 x5 : Bool) : AlW w ⟨x0, x1, x2, x3, x4, x5⟩ g ((((((w1.setCell ⟨w.heap.size, 0, none⟩ (.bool x0)).setCell ⟨w.heap.size, 1, none⟩ (.bool x1)).setCell ⟨w.heap.size, 2, none⟩ (.bool x2)).setCell ⟨w.heap.size, 3, none⟩ (.bool x3)).setCell ⟨w.heap.size, 4, none⟩ (.bool x4)).setCell ⟨w.heap.size, 5, none⟩ (.bool x5)) := by
 have u := Ybf (S := [w.heap.size]) (b := w.heap.size) (Upd.refl _ w1) (.inl (by simp)) (.bool x0) (.bool x1) (.bool x2) (.bool x3) (.bool x4) (.bool x5)
 exact ⟨Ych h.z7 _ _ _ _ _ _, u.get h.z9 (by simp), u.get h.z10 (by simp <;> omega), Ybf h.u (.inr (Nat.le_refl _)) _ _ _ _ _ _⟩
end
end
section
structure DrF (w : World) (d a pb cb : Nat) (s : St) (i : Ins) (M : Mem) (f : Nat) (dn : Nat → Bool) (r : Nat → Value) (w1 : World) : Prop where
 b : Yq w1 d a pb s i M
 o : w1.heap[cb]? = some (.cells i.cells 41 (0, 0))
 u : Upd [d, pb] w w1
 y : dn f = true → ∃ g, r f = .pointer (some ⟨g, 0, none⟩) ∧ cb < g ∧ w1.heap[g]? = some (.cells Fl.zero.cells 25 (0, 0))
section
variable {w w1 w2 : World} {d a pb cb : Nat} {s : St} {i : Ins} {M : Mem} {f : Nat} {dn : Nat → Bool} {r : Nat → Value}
theorem DrF.start (h : Yq w1 d a pb s i M) (ho : w1.heap[cb]? = some (.cells i.cells 41 (0, 0))) (u : Upd [d, pb] w w1) (r : Nat → Value) : DrF w d a pb cb s i M f (fun _ => false) r w1.drew :=
 ⟨h.keep (Upd.refl [] _).drew (by simp) (by simp) (by simp), ((Upd.refl [] _).drew).get ho (by simp), u.drew, fun h => (by cases h)⟩
theorem DrF.quiet (h : DrF w d a pb cb s i M f dn r w1) (u : Upd [] w1 w2) (m : Nat) (h1 : f ≠ m) : DrF w d a pb cb s i M f (Yah dn m) r w2 := by
 refine ⟨h.b.keep u (by simp) (by simp) (by simp), u.get h.o (by simp), h.u.also u (by simp), fun hy => ?_⟩
 rw [Yp h1] at hy
 obtain ⟨g, e1, e2, e3⟩ := h.y hy
 exact ⟨g, e1, e2, u.get e3 (by simp)⟩
theorem DrF.same (h : DrF w d a pb cb s i M f dn r w1) (m : Nat) (h1 : f ≠ m) : DrF w d a pb cb s i M f (Yah dn m) r w1 := h.quiet (Upd.refl [] w1) m h1
theorem DrF.lay (h : DrF w d a pb cb s i M f dn r w1) : DrF w d a pb cb s i M f (Yah dn f) (Ycw r f (.pointer (some ⟨w1.heap.size, 0, none⟩))) (w1.alloc (.cells #[.bool false, .bool false, .bool false, .bool false, .bool false, .bool false] 25)) := by
 have u := (Upd.refl [] w1).alloc (.cells #[.bool false, .bool false, .bool false, .bool false, .bool false, .bool false] 25)
 exact ⟨h.b.keep u (by simp) (by simp) (by simp), u.get h.o (by simp), h.u.also u (by simp), fun _ => ⟨_, Yf9, Yj h.o, heap_alloc_new _ _⟩⟩
theorem dr_setfl (a : Nat) (s : St) (i : Ins) (F : Fl) : wr (Ybu a s i) 10 F.cells.toList = Ybu a (s.setFl F) i := by kernel_rfl
theorem Yq.putFl (h : Yq w d a pb s i M) (F : Fl) : Yq (w.setCells d 10 F.cells.toList) d a pb (s.setFl F) i M := by
 refine ⟨?_, h.m.keep ((Upd.refl [d] w).setCells (.inl (by simp)) _ _) (by simpa using fun e => h.na e.symm) (by simpa using fun e => h.np e.symm), ⟨h.ok.R, h.ok.pc, h.ok.f⟩, h.io, h.na, h.np⟩
 rw [Yag _ _ _ _ h.h, dr_setfl]
theorem fl_one (F : Fl) : F.cells.all (·.oneCell') = true := by simp [Fl.cells, Value.oneCell']
theorem fl_new {g : Nat} {F G : Fl} {t : TypeId} (hw : w.setCells g 0 F.cells.toList = w2) (hb : w.heap[g]? = some (.cells G.cells t (0, 0))) : w2.heap[g]? = some (.cells F.cells t (0, 0)) ∧ Upd [g] w w2 := by
 subst hw
 exact ⟨by rw [Yag _ _ _ _ hb]; rfl, (Upd.refl [g] w).setCells (.inl (by simp)) _ _⟩
end
theorem Ymm (d a pb : Nat) (s : St) (i : Ins) (M : Mem) (w : World) (h : Yq w d a pb s i M) (hop : 12 ≤ i.op ∧ i.op ≤ 15) (hc : Ycm M s i.a 4 3 = true) (hr : opK M s i.a 4 = true)
  (hw : Ybg M (s.setFl (Ybm i.op (opV M s i.a 4) 0 s.fl)) i.a 4 = true) :
  Calls Tryz.prog 32 #[.pointer (some ⟨d, 0, none⟩)] w fun e w' => e = .returned (.tuple #[]) ∧ Yq w' d a pb (opS (s.setFl (Ybm i.op (opV M s i.a 4) 0 s.fl)) i.a 4 (Yby i.op (opV M s i.a 4) 0 s.fl)) i (opM M (s.setFl (Ybm i.op (opV M s i.a 4) 0 s.fl)) i.a 4 (Yby i.op (opV M s i.a 4) 0 s.fl)) ∧ Upd [d, pb] w w' := by
 have HRV := Yh_ (Yc7 h i.a h.io.a 4)
 have HD := Yh_ h
 have tokL : True := trivial
 have tokS : True := trivial
 obtain ⟨op, ho⟩ : ∃ op, i.op = op := ⟨_, rfl⟩
 rw [ho] at hop hw ⊢
 have e1 : decide (3 ≤ op) = true := by simp; omega
 have e2 : decide (op ≤ 11) = false := by simp; omega
 have e3 : decide (12 ≤ op) = true := by simp; omega
 have e4 : decide (op ≤ 15) = true := by simp; omega
 have HI := Yh_ h.io
 have HOP := Yh_ (show Yiw op = true by simp only [Yiw, Bool.and_eq_true, decide_eq_true_eq]; omega)
 obtain ⟨v, hv⟩ : ∃ v, opV M s i.a 4 = v := ⟨_, rfl⟩
 rw [hv] at hw HRV ⊢
 obtain ⟨V, hV⟩ : ∃ V, Yby op v 0 s.fl = V := ⟨_, rfl⟩
 have HVR := Yh_ (show 0 ≤ V ∧ V < 4294967296 from hV ▸ Yos op v 0 s.fl HRV.out (by decide))
 obtain ⟨⟨x0, x1, x2, x3, x4, x5⟩, hF⟩ : ∃ F, Ybm op v 0 s.fl = F := ⟨_, rfl⟩
 rw [hF] at hw ⊢
 rw [hV]
 have HC := Yh_ (And.intro hc (And.intro hr (And.intro hw (And.intro hv (And.intro hV hF)))))
 have HCC := Yh_ hc
 clear h hop hc hr hw hv hV hF
 go_enter Tryz.func32, Tryz.ntmps32
 go_wp2_with (first | (have _t := tokL; clear _t tokL; refine Yar 41 rfl ?_; refine wpList_load_mid rfl 41 _ rfl d 18 rfl i.cells.toList _ HD.out.ri Tryz.underlying41 rfl (by rw [Array.length_toList, Ins.size]; exact Ya1) ?_; rw [Array.toArray_toList]) | (have _t := tokS; clear _t tokS; refine Ye 41 rfl ?_; refine Yd i w.heap.size rfl _ _ rfl rfl rfl (heap_alloc_new w (.cells Ins.zero.cells 41)) rfl ?_; intro w3 hw; have h3 := Yev HD.out hw; have ci := Ya h3.2.1; unfold Ins.cells at ci; have H3 := Yh_ h3; clear hw h3) | (have _t := H3; clear _t; go_at_call 46; refine (Ygx d a pb s i M i.a _ H3.out.1 HCC.out).mono ?_; rintro e w4 ⟨rfl, hu⟩; have H4 := Yh_ (And.intro (H3.out.1.keep hu (by simp) (by simp) (by simp)) (And.intro (hu.get H3.out.2.1 (by simp)) (H3.out.2.2.also hu (by simp)))); clear hu H3 ci))
 refine Yai 16 (DrF w d a pb w.heap.size s i M 14) (fun _ _ => False) (by kernel_rfl) (by decide +kernel) (fun r0 => DrF.start H4.out.1 H4.out.2.1 H4.out.2.2 r0) (fun _ _ _ h => h.elim) ?_
 simp only [List.take_succ_cons, List.take_zero, List.drop_succ_cons, List.drop_zero]
 iterate 4
  apply Yb rfl rfl
  ·intro dn r0 K hd hdep hK w5 hB1
   have c10 : w5.cell? ⟨d, 10, none⟩ = some (.bool s.cf) := hB1.b.cell 10
   have c11 : w5.cell? ⟨d, 11, none⟩ = some (.bool s.pf) := hB1.b.cell 11
   have c12 : w5.cell? ⟨d, 12, none⟩ = some (.bool s.af) := hB1.b.cell 12
   have c13 : w5.cell? ⟨d, 13, none⟩ = some (.bool s.zf) := hB1.b.cell 13
   have c14 : w5.cell? ⟨d, 14, none⟩ = some (.bool s.sf) := hB1.b.cell 14
   have c15 : w5.cell? ⟨d, 15, none⟩ = some (.bool s.of_) := hB1.b.cell 15
   have ci := Ya hB1.o
   unfold Ins.cells at ci
   have HB := Yh_ hB1
   clear hB1 hdep
   go_wp2_with fail
   first
   |exact hK _ (HB.out.same _ (by decide))
   |exact HB.out.same _ (by decide)
  ·exact ⟨_, rfl⟩
 apply Yb rfl rfl
 ·intro dn r0 K hd hdep hK w5 hB1
  have HB := Yh_ hB1
  clear hB1 hdep
  go_wp2_with (go_at_call 48; refine (Yck d a pb s i M i.a 4 _ HB.out.b HI.out.a HC.out.2.1).mono ?_; rintro e w6 ⟨rfl, hu⟩; rw [HC.out.2.2.2.1])
  first
  |exact hK _ (HB.out.quiet hu _ (by decide))
  |exact HB.out.quiet hu _ (by decide)
 ·exact ⟨_, rfl⟩
 iterate 5
  apply Yb rfl rfl
  ·intro dn r0 K hd hdep hK w5 hB1
   have c10 : w5.cell? ⟨d, 10, none⟩ = some (.bool s.cf) := hB1.b.cell 10
   have c11 : w5.cell? ⟨d, 11, none⟩ = some (.bool s.pf) := hB1.b.cell 11
   have c12 : w5.cell? ⟨d, 12, none⟩ = some (.bool s.af) := hB1.b.cell 12
   have c13 : w5.cell? ⟨d, 13, none⟩ = some (.bool s.zf) := hB1.b.cell 13
   have c14 : w5.cell? ⟨d, 14, none⟩ = some (.bool s.sf) := hB1.b.cell 14
   have c15 : w5.cell? ⟨d, 15, none⟩ = some (.bool s.of_) := hB1.b.cell 15
   have ci := Ya hB1.o
   unfold Ins.cells at ci
   have HB := Yh_ hB1
   clear hB1 hdep
   go_wp2_with fail
   first
   |exact hK _ (HB.out.same _ (by decide))
   |exact HB.out.same _ (by decide)
  ·exact ⟨_, rfl⟩
 apply Yb rfl rfl
 ·intro dn r0 K hd hdep hK w5 hB1
  have HB := Yh_ hB1
  clear hB1 hdep
  go_wp2_with (go_at_call 47; refine (Ypx op v 0 s.fl _ HOP.out HRV.out (by decide)).mono ?_; rintro e w6 ⟨rfl, hu⟩; rw [HC.out.2.2.2.2.1, HC.out.2.2.2.2.2]; unfold Fl.cells)
  first
  |exact hK _ (HB.out.quiet hu _ (by decide))
  |exact HB.out.quiet hu _ (by decide)
 ·exact ⟨_, rfl⟩
 iterate 3
  apply Yb rfl rfl
  ·intro dn r0 K hd hdep hK w5 hB1
   have c10 : w5.cell? ⟨d, 10, none⟩ = some (.bool s.cf) := hB1.b.cell 10
   have c11 : w5.cell? ⟨d, 11, none⟩ = some (.bool s.pf) := hB1.b.cell 11
   have c12 : w5.cell? ⟨d, 12, none⟩ = some (.bool s.af) := hB1.b.cell 12
   have c13 : w5.cell? ⟨d, 13, none⟩ = some (.bool s.zf) := hB1.b.cell 13
   have c14 : w5.cell? ⟨d, 14, none⟩ = some (.bool s.sf) := hB1.b.cell 14
   have c15 : w5.cell? ⟨d, 15, none⟩ = some (.bool s.of_) := hB1.b.cell 15
   have ci := Ya hB1.o
   unfold Ins.cells at ci
   have HB := Yh_ hB1
   clear hB1 hdep
   go_wp2_with fail
   first
   |exact hK _ (HB.out.same _ (by decide))
   |exact HB.out.same _ (by decide)
  ·exact ⟨_, rfl⟩
 refine Yr rfl (fun _ => rfl) 5 rfl (by simp [Act.put]) ?_ ?_
 ·intro dn r0 K hd w5 hB1 hK
  have HB := Yh_ hB1
  clear hB1
  simp only [Yi]
  go_wp2_with fail
  first
  |exact hK (.pointer (some ⟨w5.heap.size, 0, none⟩)) _ HB.out.lay
  |exact HB.out.lay
 iterate 1
  apply Yt rfl (fun _ => rfl)
  ·intro dn r0 K hd hdep hK w5 hB1
   have c10 : w5.cell? ⟨d, 10, none⟩ = some (.bool s.cf) := hB1.b.cell 10
   have c11 : w5.cell? ⟨d, 11, none⟩ = some (.bool s.pf) := hB1.b.cell 11
   have c12 : w5.cell? ⟨d, 12, none⟩ = some (.bool s.af) := hB1.b.cell 12
   have c13 : w5.cell? ⟨d, 13, none⟩ = some (.bool s.zf) := hB1.b.cell 13
   have c14 : w5.cell? ⟨d, 14, none⟩ = some (.bool s.sf) := hB1.b.cell 14
   have c15 : w5.cell? ⟨d, 15, none⟩ = some (.bool s.of_) := hB1.b.cell 15
   have ci := Ya hB1.o
   unfold Ins.cells at ci
   have HB := Yh_ hB1
   clear hB1 hdep
   simp only [Yi]
   go_wp2_with fail
   first
   |exact hK _ (HB.out.same _ (by decide))
   |exact HB.out.same _ (by decide)
  ·exact ⟨_, fun _ => rfl, rfl⟩
 refine Yad (fun _ r0 w5 dn hall hB1 => ?_)
 obtain ⟨g, e1', e2', e3'⟩ := hB1.y (hall 14 (by decide))
 have ci := Ya hB1.o
 unfold Ins.cells at ci
 have hcb := Yj HD.out.h
 have hpb : pb < w.heap.size := by obtain ⟨C, _, hc⟩ := HD.out.m.pg; exact Yj hc
 have hab : a < w.heap.size := by obtain ⟨C, _, hc⟩ := HD.out.m.hd; exact Yj hc
 have H5 := Yh_ (And.intro hB1.b (And.intro hB1.o (And.intro hB1.u (And.intro e3' (And.intro e2' (And.intro hcb (And.intro hpb hab)))))))
 clear hB1 e3' hall e2' hcb hpb hab
 show wpList _ _ _ _ (Act.put (Yi _ _ [] _) (some 5) (r0 14)) _
 rw [e1']
 simp only [Yi]
 clear e1'
 go_wp2_with (first | (have _t := H5; clear _t; refine Ye 25 rfl ?_; refine Yff rfl 25 _ _ rfl g 0 (Fl.cells ⟨x0, x1, x2, x3, x4, x5⟩) rfl rfl H5.out.2.2.2.1 (show 0 + 6 ≤ 6 by decide) Yja (fl_one _) ?_; intro w6 hw; have h6 := fl_new hw H5.out.2.2.2.1; have hl := H5.out.2.2.2.2; have cg := Ya h6.1; unfold Fl.cells at cg; have H6 := Yh_ (And.intro (H5.out.1.keep h6.2 (by simp; omega) (by simp; omega) (by simp; omega)) (And.intro (h6.2.get H5.out.2.1 (by simp; omega)) (H5.out.2.2.1.also (S' := [g]) h6.2 (by simp; omega)))); clear hw h6 hl H5 ci) | (have _t := H6; clear _t; refine Ye 25 rfl ?_; refine wpList_store_mid rfl 25 _ _ rfl d 10 (Fl.cells ⟨x0, x1, x2, x3, x4, x5⟩) rfl rfl (Yd8 H6.out.1.h 10 6 (by rw [Yog]; decide)) Yja (fl_one _) ?_; have u7 : Upd [d] w6 (w6.setCells d 10 (Fl.cells ⟨x0, x1, x2, x3, x4, x5⟩).toList) := (Upd.refl [d] w6).setCells (.inl (by simp)) _ _; have hcb := Yj HD.out.h; have hi7 := u7.get H6.out.2.1 (by simp; omega); have ci := Ya hi7; unfold Ins.cells at ci; have H7 := Yh_ (And.intro (H6.out.1.putFl ⟨x0, x1, x2, x3, x4, x5⟩) (H6.out.2.2.also u7 (by simp))); clear u7 hcb hi7 H6 cg) | (have _t := H7; clear _t; go_at_call 49; refine (Ydi d a pb _ i M i.a 4 V _ H7.out.1 HI.out.a HVR.out HC.out.2.2.1).mono ?_; rintro e w8 ⟨rfl, hd, hu⟩; have H8 := Yh_ (And.intro hd (H7.out.2.also hu (fun x hx => .inl hx))); clear hd hu H7))
 go_end0
 exact ⟨rfl, H8.out.1, H8.out.2⟩
end
theorem Dq.copy {w w3 : World} {d a pb : Nat} {s : St} {i : Ins} {M : Mem} (h : Yq w d a pb s i M) (hw : (w.alloc (.cells Ins.zero.cells 41)).setCells w.heap.size 0 i.cells.toList = w3) : Dq w d a pb s i M [(w.heap.size, .cells i.cells 41 (0, 0))] w3 := by
 have h3 := Yev h hw
 have hpb : pb < w.heap.size := by obtain ⟨C, _, hc⟩ := h.m.pg; exact Yj hc
 have hd := h.lt
 exact ⟨h3.1, fun p hp => by rw [List.mem_singleton.1 hp]; exact h3.2.1, h3.2.2, fun p hp => by rw [List.mem_singleton.1 hp]; dsimp only; omega⟩
theorem Dq.putFl {w w1 : World} {d a pb : Nat} {s : St} {i : Ins} {M : Mem} {L : List (Nat × Obj)} (h : Dq w d a pb s i M L w1) (F : Fl) : Dq w d a pb (s.setFl F) i M L (w1.setCells d 10 F.cells.toList) :=
 h.next (h.b.putFl F) ((Upd.refl [d, pb] w1).setCells (.inl (by simp)) _ _)
theorem Yn0 (d a pb : Nat) (s : St) (i : Ins) (M : Mem) (w : World) (h : Yq w d a pb s i M) (hop : i.op ≤ 2) (s2 : St) (M2 : Mem) (hj : ∀ w1, Yq w1 d a pb s i M → Calls Tryz.prog 54 #[.pointer (some ⟨d, 0, none⟩)] w1 fun e w' => e = .returned (.tuple #[]) ∧ Yq w' d a pb (s2) i (M2) ∧ Upd [d, pb] w1 w') :
  Calls Tryz.prog 32 #[.pointer (some ⟨d, 0, none⟩)] w fun e w' => e = .returned (.tuple #[]) ∧ Yq w' d a pb (s2) i (M2) ∧ Upd [d, pb] w w' := by
 have HI := Yh_ h.io
 have HD := Yh_ h
 have tokL : True := trivial
 have tokS : True := trivial
 obtain ⟨op, ho⟩ : ∃ op, i.op = op := ⟨_, rfl⟩
 rw [ho] at hop
 have e0 : decide (3 ≤ op) = false := by simp; omega
 have e1 : decide (12 ≤ op) = false := by simp; omega
 have e2 : decide (21 ≤ op) = false := by simp; omega
 have e3 : decide (16 ≤ op) = false := by simp; omega
 have e4 : decide (45 ≤ op) = false := by simp; omega
 have e5 : decide (28 ≤ op) = false := by simp; omega
 have HJ := Yh_ hj
 clear h hj hop
 go_enter Tryz.func32, Tryz.ntmps32
 go_wp2_with (first | (have _t := tokL; clear _t tokL; refine Yar 41 rfl ?_; refine wpList_load_mid rfl 41 _ rfl d 18 rfl i.cells.toList _ HD.out.ri Tryz.underlying41 rfl (by rw [Array.length_toList, Ins.size]; exact Ya1) ?_; rw [Array.toArray_toList]) | (have _t := tokS; clear _t tokS; refine Ye 41 rfl ?_; refine Yd i w.heap.size rfl _ _ rfl rfl rfl (heap_alloc_new w (.cells Ins.zero.cells 41)) rfl ?_; intro w3 hw; have h3 := Dq.copy HD.out hw; have ci := h3.ins; unfold Ins.cells at ci; have H3 := Yh_ h3; clear hw h3) | (have _t := H3; clear _t; go_at_call 54; refine (HJ.out _ H3.out.b).mono ?_; rintro e w5 ⟨rfl, hd, hu⟩; have H5 := Yh_ (And.intro hd (H3.out.u.also hu (fun x hx => .inl hx))); clear hd hu H3 ci))
 go_end0
 exact ⟨rfl, H5.out.1, H5.out.2⟩
theorem Yh3 (d a pb : Nat) (s : St) (i : Ins) (M : Mem) (w : World) (h : Yq w d a pb s i M) (hop : 26 ≤ i.op ∧ i.op ≤ 27) (s2 : St) (M2 : Mem) (hj : ∀ w1, Yq w1 d a pb s i M → Calls Tryz.prog 54 #[.pointer (some ⟨d, 0, none⟩)] w1 fun e w' => e = .returned (.tuple #[]) ∧ Yq w' d a pb (s2) i (M2) ∧ Upd [d, pb] w1 w') :
  Calls Tryz.prog 32 #[.pointer (some ⟨d, 0, none⟩)] w fun e w' => e = .returned (.tuple #[]) ∧ Yq w' d a pb (s2) i (M2) ∧ Upd [d, pb] w w' := by
 have HI := Yh_ h.io
 have HD := Yh_ h
 have tokL : True := trivial
 have tokS : True := trivial
 obtain ⟨op, ho⟩ : ∃ op, i.op = op := ⟨_, rfl⟩
 rw [ho] at hop
 have e0 : decide (3 ≤ op) = true := by simp; omega
 have e1 : decide (op ≤ 11) = false := by simp; omega
 have e2 : decide (12 ≤ op) = true := by simp; omega
 have e3 : decide (op ≤ 15) = false := by simp; omega
 have e4 : decide (21 ≤ op) = true := by simp; omega
 have e5 : decide (op ≤ 25) = false := by simp; omega
 have e6 : decide (16 ≤ op) = true := by simp; omega
 have e7 : decide (op ≤ 20) = false := by simp; omega
 have e8 : decide (45 ≤ op) = false := by simp; omega
 have e9 : decide (28 ≤ op) = false := by simp; omega
 have HJ := Yh_ hj
 clear h hj hop
 go_enter Tryz.func32, Tryz.ntmps32
 go_wp2_with (first | (have _t := tokL; clear _t tokL; refine Yar 41 rfl ?_; refine wpList_load_mid rfl 41 _ rfl d 18 rfl i.cells.toList _ HD.out.ri Tryz.underlying41 rfl (by rw [Array.length_toList, Ins.size]; exact Ya1) ?_; rw [Array.toArray_toList]) | (have _t := tokS; clear _t tokS; refine Ye 41 rfl ?_; refine Yd i w.heap.size rfl _ _ rfl rfl rfl (heap_alloc_new w (.cells Ins.zero.cells 41)) rfl ?_; intro w3 hw; have h3 := Dq.copy HD.out hw; have ci := h3.ins; unfold Ins.cells at ci; have H3 := Yh_ h3; clear hw h3) | (have _t := H3; clear _t; go_at_call 54; refine (HJ.out _ H3.out.b).mono ?_; rintro e w5 ⟨rfl, hd, hu⟩; have H5 := Yh_ (And.intro hd (H3.out.u.also hu (fun x hx => .inl hx))); clear hd hu H3 ci))
 go_end0
 exact ⟨rfl, H5.out.1, H5.out.2⟩
theorem Yhz (d a pb : Nat) (s : St) (i : Ins) (M : Mem) (w : World) (h : Yq w d a pb s i M) (hop : 34 ≤ i.op ∧ i.op ≤ 44) (s2 : St) (M2 : Mem) (hj : ∀ w1, Yq w1 d a pb s i M → Calls Tryz.prog 54 #[.pointer (some ⟨d, 0, none⟩)] w1 fun e w' => e = .returned (.tuple #[]) ∧ Yq w' d a pb (s2) i (M2) ∧ Upd [d, pb] w1 w') :
  Calls Tryz.prog 32 #[.pointer (some ⟨d, 0, none⟩)] w fun e w' => e = .returned (.tuple #[]) ∧ Yq w' d a pb (s2) i (M2) ∧ Upd [d, pb] w w' := by
 have HI := Yh_ h.io
 have HD := Yh_ h
 have tokL : True := trivial
 have tokS : True := trivial
 obtain ⟨op, ho⟩ : ∃ op, i.op = op := ⟨_, rfl⟩
 rw [ho] at hop
 have e0 : decide (3 ≤ op) = true := by simp; omega
 have e1 : decide (op ≤ 11) = false := by simp; omega
 have e2 : decide (12 ≤ op) = true := by simp; omega
 have e3 : decide (op ≤ 15) = false := by simp; omega
 have e4 : decide (21 ≤ op) = true := by simp; omega
 have e5 : decide (op ≤ 25) = false := by simp; omega
 have e6 : decide (16 ≤ op) = true := by simp; omega
 have e7 : decide (op ≤ 20) = false := by simp; omega
 have e8 : decide (45 ≤ op) = false := by simp; omega
 have e9 : decide (28 ≤ op) = true := by simp; omega
 have e10 : decide (op ≤ 33) = false := by simp; omega
 have HJ := Yh_ hj
 clear h hj hop
 go_enter Tryz.func32, Tryz.ntmps32
 go_wp2_with (first | (have _t := tokL; clear _t tokL; refine Yar 41 rfl ?_; refine wpList_load_mid rfl 41 _ rfl d 18 rfl i.cells.toList _ HD.out.ri Tryz.underlying41 rfl (by rw [Array.length_toList, Ins.size]; exact Ya1) ?_; rw [Array.toArray_toList]) | (have _t := tokS; clear _t tokS; refine Ye 41 rfl ?_; refine Yd i w.heap.size rfl _ _ rfl rfl rfl (heap_alloc_new w (.cells Ins.zero.cells 41)) rfl ?_; intro w3 hw; have h3 := Dq.copy HD.out hw; have ci := h3.ins; unfold Ins.cells at ci; have H3 := Yh_ h3; clear hw h3) | (have _t := H3; clear _t; go_at_call 54; refine (HJ.out _ H3.out.b).mono ?_; rintro e w5 ⟨rfl, hd, hu⟩; have H5 := Yh_ (And.intro hd (H3.out.u.also hu (fun x hx => .inl hx))); clear hd hu H3 ci))
 go_end0
 exact ⟨rfl, H5.out.1, H5.out.2⟩
theorem Yhe (d a pb : Nat) (s : St) (i : Ins) (M : Mem) (w : World) (h : Yq w d a pb s i M) (hop : i.op ≤ 2) (M2 : Mem) (F : Flt) (hj : ∀ w1, Yq w1 d a pb s i M → Calls Tryz.prog 54 #[.pointer (some ⟨d, 0, none⟩)] w1 fun e w' => e = .panicked [{ v := .iface 35 (F).val, recovered := false }] ∧ Yk w' a pb (M2) ∧ Upd [d, pb] w1 w') :
  Calls Tryz.prog 32 #[.pointer (some ⟨d, 0, none⟩)] w fun e w' => e = .panicked [{ v := .iface 35 (F).val, recovered := false }] ∧ Yk w' a pb (M2) ∧ Upd [d, pb] w w' := by
 have HI := Yh_ h.io
 have HD := Yh_ h
 have tokL : True := trivial
 have tokS : True := trivial
 obtain ⟨op, ho⟩ : ∃ op, i.op = op := ⟨_, rfl⟩
 rw [ho] at hop
 have e0 : decide (3 ≤ op) = false := by simp; omega
 have e1 : decide (12 ≤ op) = false := by simp; omega
 have e2 : decide (21 ≤ op) = false := by simp; omega
 have e3 : decide (16 ≤ op) = false := by simp; omega
 have e4 : decide (45 ≤ op) = false := by simp; omega
 have e5 : decide (28 ≤ op) = false := by simp; omega
 have HJ := Yh_ hj
 clear h hj hop
 go_enter Tryz.func32, Tryz.ntmps32
 go_wp2_with (first | (have _t := tokL; clear _t tokL; refine Yar 41 rfl ?_; refine wpList_load_mid rfl 41 _ rfl d 18 rfl i.cells.toList _ HD.out.ri Tryz.underlying41 rfl (by rw [Array.length_toList, Ins.size]; exact Ya1) ?_; rw [Array.toArray_toList]) | (have _t := tokS; clear _t tokS; refine Ye 41 rfl ?_; refine Yd i w.heap.size rfl _ _ rfl rfl rfl (heap_alloc_new w (.cells Ins.zero.cells 41)) rfl ?_; intro w3 hw; have h3 := Dq.copy HD.out hw; have ci := h3.ins; unfold Ins.cells at ci; have H3 := Yh_ h3; clear hw h3) | (have _t := H3; clear _t; go_at_call 54; refine (HJ.out _ H3.out.b).mono ?_; rintro e w5 ⟨rfl, hd, hu⟩; have H5 := Yh_ (And.intro hd (H3.out.u.also hu (fun x hx => .inl hx))); clear hd hu H3 ci))
 exact ⟨rfl, rfl, H5.out.1, H5.out.2⟩
theorem Yei (d a pb : Nat) (s : St) (i : Ins) (M : Mem) (w : World) (h : Yq w d a pb s i M) (hop : 26 ≤ i.op ∧ i.op ≤ 27) (M2 : Mem) (F : Flt) (hj : ∀ w1, Yq w1 d a pb s i M → Calls Tryz.prog 54 #[.pointer (some ⟨d, 0, none⟩)] w1 fun e w' => e = .panicked [{ v := .iface 35 (F).val, recovered := false }] ∧ Yk w' a pb (M2) ∧ Upd [d, pb] w1 w') :
  Calls Tryz.prog 32 #[.pointer (some ⟨d, 0, none⟩)] w fun e w' => e = .panicked [{ v := .iface 35 (F).val, recovered := false }] ∧ Yk w' a pb (M2) ∧ Upd [d, pb] w w' := by
 have HI := Yh_ h.io
 have HD := Yh_ h
 have tokL : True := trivial
 have tokS : True := trivial
 obtain ⟨op, ho⟩ : ∃ op, i.op = op := ⟨_, rfl⟩
 rw [ho] at hop
 have e0 : decide (3 ≤ op) = true := by simp; omega
 have e1 : decide (op ≤ 11) = false := by simp; omega
 have e2 : decide (12 ≤ op) = true := by simp; omega
 have e3 : decide (op ≤ 15) = false := by simp; omega
 have e4 : decide (21 ≤ op) = true := by simp; omega
 have e5 : decide (op ≤ 25) = false := by simp; omega
 have e6 : decide (16 ≤ op) = true := by simp; omega
 have e7 : decide (op ≤ 20) = false := by simp; omega
 have e8 : decide (45 ≤ op) = false := by simp; omega
 have e9 : decide (28 ≤ op) = false := by simp; omega
 have HJ := Yh_ hj
 clear h hj hop
 go_enter Tryz.func32, Tryz.ntmps32
 go_wp2_with (first | (have _t := tokL; clear _t tokL; refine Yar 41 rfl ?_; refine wpList_load_mid rfl 41 _ rfl d 18 rfl i.cells.toList _ HD.out.ri Tryz.underlying41 rfl (by rw [Array.length_toList, Ins.size]; exact Ya1) ?_; rw [Array.toArray_toList]) | (have _t := tokS; clear _t tokS; refine Ye 41 rfl ?_; refine Yd i w.heap.size rfl _ _ rfl rfl rfl (heap_alloc_new w (.cells Ins.zero.cells 41)) rfl ?_; intro w3 hw; have h3 := Dq.copy HD.out hw; have ci := h3.ins; unfold Ins.cells at ci; have H3 := Yh_ h3; clear hw h3) | (have _t := H3; clear _t; go_at_call 54; refine (HJ.out _ H3.out.b).mono ?_; rintro e w5 ⟨rfl, hd, hu⟩; have H5 := Yh_ (And.intro hd (H3.out.u.also hu (fun x hx => .inl hx))); clear hd hu H3 ci))
 exact ⟨rfl, rfl, H5.out.1, H5.out.2⟩
theorem Yej (d a pb : Nat) (s : St) (i : Ins) (M : Mem) (w : World) (h : Yq w d a pb s i M) (hop : 34 ≤ i.op ∧ i.op ≤ 44) (M2 : Mem) (F : Flt) (hj : ∀ w1, Yq w1 d a pb s i M → Calls Tryz.prog 54 #[.pointer (some ⟨d, 0, none⟩)] w1 fun e w' => e = .panicked [{ v := .iface 35 (F).val, recovered := false }] ∧ Yk w' a pb (M2) ∧ Upd [d, pb] w1 w') :
  Calls Tryz.prog 32 #[.pointer (some ⟨d, 0, none⟩)] w fun e w' => e = .panicked [{ v := .iface 35 (F).val, recovered := false }] ∧ Yk w' a pb (M2) ∧ Upd [d, pb] w w' := by
 have HI := Yh_ h.io
 have HD := Yh_ h
 have tokL : True := trivial
 have tokS : True := trivial
 obtain ⟨op, ho⟩ : ∃ op, i.op = op := ⟨_, rfl⟩
 rw [ho] at hop
 have e0 : decide (3 ≤ op) = true := by simp; omega
 have e1 : decide (op ≤ 11) = false := by simp; omega
 have e2 : decide (12 ≤ op) = true := by simp; omega
 have e3 : decide (op ≤ 15) = false := by simp; omega
 have e4 : decide (21 ≤ op) = true := by simp; omega
 have e5 : decide (op ≤ 25) = false := by simp; omega
 have e6 : decide (16 ≤ op) = true := by simp; omega
 have e7 : decide (op ≤ 20) = false := by simp; omega
 have e8 : decide (45 ≤ op) = false := by simp; omega
 have e9 : decide (28 ≤ op) = true := by simp; omega
 have e10 : decide (op ≤ 33) = false := by simp; omega
 have HJ := Yh_ hj
 clear h hj hop
 go_enter Tryz.func32, Tryz.ntmps32
 go_wp2_with (first | (have _t := tokL; clear _t tokL; refine Yar 41 rfl ?_; refine wpList_load_mid rfl 41 _ rfl d 18 rfl i.cells.toList _ HD.out.ri Tryz.underlying41 rfl (by rw [Array.length_toList, Ins.size]; exact Ya1) ?_; rw [Array.toArray_toList]) | (have _t := tokS; clear _t tokS; refine Ye 41 rfl ?_; refine Yd i w.heap.size rfl _ _ rfl rfl rfl (heap_alloc_new w (.cells Ins.zero.cells 41)) rfl ?_; intro w3 hw; have h3 := Dq.copy HD.out hw; have ci := h3.ins; unfold Ins.cells at ci; have H3 := Yh_ h3; clear hw h3) | (have _t := H3; clear _t; go_at_call 54; refine (HJ.out _ H3.out.b).mono ?_; rintro e w5 ⟨rfl, hd, hu⟩; have H5 := Yh_ (And.intro hd (H3.out.u.also hu (fun x hx => .inl hx))); clear hd hu H3 ci))
 exact ⟨rfl, rfl, H5.out.1, H5.out.2⟩
section
def mS (s : St) (x y : Int) (b1 b2 : Bool) : St := let t := if b1 = true then s.setR 0 x else s; if b2 = true then t.setR 2 y else t
theorem mS_comm (s : St) (x y : Int) : (s.setR 2 y).setR 0 x = (s.setR 0 x).setR 2 y := by
 unfold St.setR
 dsimp only
 congr 1
 funext j
 by_cases h0 : j = 0
 ·simp [h0]
 ·simp [h0]
theorem mS_first (s : St) (x y : Int) (b : Bool) : (mS s x y false b).setR 0 x = mS s x y true b := by
 cases b
 ·rfl
 ·exact mS_comm s x y
theorem mS_R0 (s : St) (x y : Int) (b2 : Bool) : (mS s x y false b2).R 0 = s.R 0 := by cases b2 <;> rfl
structure D9 (w : World) (d a pb : Nat) (s : St) (i : Ins) (M : Mem) (x y : Int) (dn : Nat → Bool) (w1 : World) : Prop where
 i1 : dn 18 = true → dn 11 = true
 i2 : dn 19 = true → dn 18 = true
 i3 : dn 20 = true → dn 19 = true
 i4 : dn 25 = true → dn 11 = true
 q : Dq w d a pb (mS s x y (dn 25) (dn 28)) i M [] w1
theorem Yfx {dn : Nat → Bool} {p q : Nat} (h : dn p = true → dn q = true) (j : Nat) (hj : p ≠ j) : Yah dn j p = true → Yah dn j q = true := by
 rw [Yp hj]
 intro hp
 by_cases e : q = j
 ·rw [e]; exact Yc4
 ·rw [Yp e]; exact h hp
theorem imp_at {dn : Nat → Bool} {p q : Nat} (h : dn q = true) : Yah dn p p = true → Yah dn p q = true := by
 intro _
 by_cases e : q = p
 ·rw [e]; exact Yc4
 ·rw [Yp e]; exact h
section
variable {w w1 w2 : World} {d a pb : Nat} {s : St} {i : Ins} {M : Mem} {x y : Int} {dn : Nat → Bool}
theorem D9.start (h : Dq w d a pb s i M [] w1) : D9 w d a pb s i M x y (fun _ => false) w1.drew :=
 ⟨fun h => (by cases h), fun h => (by cases h), fun h => (by cases h), fun h => (by cases h), h.drew⟩
theorem D9.same (h : D9 w d a pb s i M x y dn w1) (u : Upd [] w1 w2) (j : Nat) (h1 : 18 ≠ j) (h2 : 19 ≠ j) (h3 : 20 ≠ j) (h4 : 25 ≠ j) (h5 : 28 ≠ j) : D9 w d a pb s i M x y (Yah dn j) w2 :=
 ⟨Yfx h.i1 j h1, Yfx h.i2 j h2, Yfx h.i3 j h3, Yfx h.i4 j h4, by rw [Yp h4, Yp h5]; exact h.q.quiet u⟩
theorem D9.call (h : D9 w d a pb s i M x y dn w1) (u : Upd [] w1 w2) (hd : dn 11 = true) : D9 w d a pb s i M x y (Yah dn 18) w2 :=
 ⟨imp_at hd, Yfx h.i2 18 (by decide), Yfx h.i3 18 (by decide), Yfx h.i4 18 (by decide), by rw [Yp (by decide), Yp (by decide)]; exact h.q.quiet u⟩
theorem D9.c1 (h : D9 w d a pb s i M x y dn w1) (hd : dn 11 = false) : w1.cell? ⟨d, 1, none⟩ = some (.int .u32 (s.R 0)) := by
 have h0 : dn 25 = false := by
  cases e : dn 25 with
  |false => rfl
  |true => rw [h.i4 e] at hd; cases hd
 have := h.q.b.cR 0 (by decide)
 rw [h0, mS_R0] at this
 exact this
structure D6 (w : World) (d a pb : Nat) (s : St) (i : Ins) (M : Mem) (x : Int) (dn : Nat → Bool) (w1 : World) : Prop where
 q : Dq w d a pb (mS s x 0 (dn 6) false) i M [] w1
theorem D6.start (h : Dq w d a pb s i M [] w1) : D6 w d a pb s i M x (fun _ => false) w1.drew := ⟨h.drew⟩
theorem D6.same (h : D6 w d a pb s i M x dn w1) (j : Nat) (hj : 6 ≠ j) : D6 w d a pb s i M x (Yah dn j) w1 := ⟨by rw [Yp hj]; exact h.q⟩
theorem D6.put (h : D6 w d a pb s i M x dn w1) (h0 : dn 6 = false) (hx : 0 ≤ x ∧ x < 4294967296) : D6 w d a pb s i M x (Yah dn 6) (w1.setCell ⟨d, 1, none⟩ (.int .u32 x)) := by
 have hq := h.q
 rw [h0] at hq
 refine ⟨?_⟩
 rw [Yc4, ← mS_first]
 exact hq.next (hq.b.setR 0 (by decide) x hx) ((Upd.refl [d, pb] w1).setCell (p := ⟨d, 1, none⟩) (.inl (by simp)) _)
end
end
structure Hs where
 x : Nat → Int
 mem : Value
 pc : Int
 why : Int
def Hs.at_ (H : Hs) (k : Nat) : Value := if k < 32 then .int .u32 (H.x k) else if k = 32 then H.mem else if k = 33 then .int .u32 H.pc else .int .u32 H.why
def Hs.cells (H : Hs) : Array Value := (Array.range 35).map H.at_
def Hs.set (H : Hs) (i : Nat) (v : Int) : Hs := { H with x := fun j => if j = i then v else H.x j }
def Hs.get (H : Hs) (i : Int) : Int := if i < 1 ∨ 32 ≤ i then 0 else H.x i.toNat
def Hs.put (H : Hs) (i v : Int) : Hs := if i < 1 ∨ 32 ≤ i then H else H.set i.toNat v
theorem Hs.cell (H : Hs) (k : Nat) (h : k < 35) : H.cells[k]? = some (H.at_ k) := by simp [Hs.cells, h]
theorem Hs.size (H : Hs) : H.cells.size = 35 := by simp [Hs.cells]
def Hs.zero (m : Nat) : Hs := ⟨fun _ => 0, .slice (some ⟨m, 0, none⟩) 32768 32768, 1024, 0⟩
def Hs.two (H : Hs) (i : Int) : Int := H.get (10 + i) + H.get (11 + i) * 4294967296
section
def cS (s : St) (z p : Bool) (b1 b2 : Bool) : St := { s with zf := cond b1 z s.zf, pf := cond b2 p s.pf }
structure D21 (w : World) (d a pb : Nat) (s : St) (i : Ins) (M : Mem) (z p : Bool) (dn : Nat → Bool) (w1 : World) : Prop where
 q : Dq w d a pb (cS s z p (dn 17) (dn 21)) i M [] w1
def mM (M M2 : Mem) (b : Bool) : Mem := cond b M2 M
structure D5 (w : World) (d a pb : Nat) (s : St) (i : Ins) (M M2 : Mem) (n0 : Nat) (V : Array Value) (dn : Nat → Bool) (r : Nat → Value) (w1 : World) : Prop where
 q : Dq w d a pb s i (mM M M2 (dn 17)) [] w1
 b : n0 ≤ w1.heap.size
 lt : (d < n0 ∧ a < n0 ∧ pb < n0) ∧ w.heap.size ≤ n0
 x : dn 21 = true → ∃ g, r 21 = .pointer (some ⟨g, 0, none⟩) ∧ n0 ≤ g ∧ w1.heap[g]? = some (.cells (if dn 22 = true then V else Yo Flt.zero) 35 (0, 0))
 xo : dn 22 = true → dn 21 = true
section
variable {w w1 w2 : World} {d a pb n0 : Nat} {s : St} {i : Ins} {M M2 : Mem} {z p : Bool} {V : Array Value} {dn : Nat → Bool} {r : Nat → Value}
theorem D21.start (h : Dq w d a pb s i M [] w1) : D21 w d a pb s i M z p (fun _ => false) w1.drew := ⟨h.drew⟩
theorem D21.quiet (h : D21 w d a pb s i M z p dn w1) (u : Upd [] w1 w2) (j : Nat) (h1 : 17 ≠ j) (h2 : 21 ≠ j) : D21 w d a pb s i M z p (Yah dn j) w2 := ⟨by rw [Yp h1, Yp h2]; exact h.q.quiet u⟩
theorem D21.next (h : D21 w d a pb s i M z p dn w1) (hd : Yq w2 d a pb (cS s z p (dn 17) (dn 21)) i M) (u : Upd [d, pb] w1 w2) (j : Nat) (h1 : 17 ≠ j) (h2 : 21 ≠ j) : D21 w d a pb s i M z p (Yah dn j) w2 := ⟨by rw [Yp h1, Yp h2]; exact h.q.next hd u⟩
theorem D5.start (h : Dq w d a pb s i M [] w1) (M2 : Mem) (V : Array Value) (r : Nat → Value) : D5 w d a pb s i M M2 w1.heap.size V (fun _ => false) r w1.drew :=
 ⟨h.drew, ((Upd.refl [] w1).drew).size, ⟨⟨h.lts.1, h.lts.2.1, h.lts.2.2.1⟩, h.u.size⟩, fun h => (by cases h), fun h => (by cases h)⟩
theorem D5.quiet (h : D5 w d a pb s i M M2 n0 V dn r w1) (u : Upd [] w1 w2) (j : Nat) (h0 : 17 ≠ j) (h1 : 21 ≠ j) (h2 : 22 ≠ j) : D5 w d a pb s i M M2 n0 V (Yah dn j) r w2 := by
 refine ⟨by rw [Yp h0]; exact h.q.quiet u, Nat.le_trans h.b u.size, h.lt, fun hx => ?_, fun hx => ?_⟩
 ·rw [Yp h1] at hx
  obtain ⟨g, e1, e2, e3⟩ := h.x hx
  exact ⟨g, e1, e2, by rw [Yp h2]; exact u.get e3 (by simp)⟩
 ·rw [Yp h2] at hx; rw [Yp h1]; exact h.xo hx
theorem D5.same (h : D5 w d a pb s i M M2 n0 V dn r w1) (j : Nat) (h0 : 17 ≠ j) (h1 : 21 ≠ j) (h2 : 22 ≠ j) : D5 w d a pb s i M M2 n0 V (Yah dn j) r w1 := h.quiet (Upd.refl [] w1) j h0 h1 h2
theorem D5.call (h : D5 w d a pb s i M M2 n0 V dn r w1) (hm : Yk w2 a pb M2) (u : Upd [pb] w1 w2) : D5 w d a pb s i M M2 n0 V (Yah dn 17) r w2 := by
 have hl := h.lt
 refine ⟨by rw [Yc4]; exact h.q.next (h.q.b.mem u hm) (u.mono (by simp)), Nat.le_trans h.b u.size, h.lt, fun hx => ?_, fun hx => ?_⟩
 ·rw [Yp (by decide)] at hx
  obtain ⟨g, e1, e2, e3⟩ := h.x hx
  exact ⟨g, e1, e2, by rw [Yp (by decide)]; exact u.get e3 (by simp; omega)⟩
 ·rw [Yp (by decide)] at hx; rw [Yp (by decide)]; exact h.xo hx
theorem D5.lay (h : D5 w d a pb s i M M2 n0 V dn r w1) (hd : dn 21 = false) : D5 w d a pb s i M M2 n0 V (Yah dn 21) (Ycw r 21 (.pointer (some ⟨w1.heap.size, 0, none⟩))) (w1.alloc (.cells (Yo Flt.zero) 35)) := by
 have hdm : dn 22 = false := by
  cases e : dn 22 with
  |false => rfl
  |true => rw [h.xo e] at hd; cases hd
 have u := (Upd.refl [] w1).alloc (.cells (Yo Flt.zero) 35)
 refine ⟨by rw [Yp (by decide)]; exact h.q.quiet u, Nat.le_trans h.b u.size, h.lt, fun _ => ⟨_, Yf9, h.b, ?_⟩, fun _ => Yc4⟩
 rw [Yp (by decide), hdm]
 exact heap_alloc_new _ _
theorem D5.put (h : D5 w d a pb s i M M2 n0 V dn r w1) (hd : dn 21 = true) {g : Nat} (e1 : r 21 = .pointer (some ⟨g, 0, none⟩)) (hv : ∀ c, (c = V ∨ c = Yo Flt.zero) → wr c 0 V.toList = V) : D5 w d a pb s i M M2 n0 V (Yah dn 22) r (w1.setCells g 0 V.toList) := by
 obtain ⟨g', e1', e2, e3⟩ := h.x hd
 obtain rfl : g' = g := by rw [e1] at e1'; injection e1' with e; injection e with e; injection e with e; exact e.symm
 have u := (Upd.refl [g'] w1).setCells (q := g') (.inl (by simp)) V.toList 0
 have hl := h.lt.1
 refine ⟨by rw [Yp (by decide)]; exact ⟨h.q.b.keep u (by simp; omega) (by simp; omega) (by simp; omega), by simp, h.q.u.also u (fun x hx => .inr (by rw [List.mem_singleton.1 hx]; exact Nat.le_trans h.lt.2 e2)), by simp⟩, Nat.le_trans h.b u.size, h.lt, fun _ => ⟨g', e1, e2, ?_⟩, fun _ => by rw [Yp (by decide)]; exact hd⟩
 rw [Yc4, if_pos rfl, Yag _ _ _ _ e3, hv _ (by split <;> simp)]
end
end
end Go.Proofs.YthakgjpejhjaoaaGreat
