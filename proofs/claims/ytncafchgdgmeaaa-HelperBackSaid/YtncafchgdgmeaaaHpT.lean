/-
  The law HelperBack: the walk. No condition.
-/
import Derived.Test.YtncafchgdgmeaaaHpS
namespace Go.Proofs.Ytncafchgdgmeaaa
open Go Go.RowKit
set_option linter.unusedVariables false
set_option linter.unusedSimpArgs false

set_option maxRecDepth 100000 in
set_option maxHeartbeats 8000000 in
theorem HelperBack_walk (x p v u : Int) (hp : p.tmod 2000 = x) (hx : 0 ≤ x ∧ x < 2000) (hv : 0 ≤ v ∧ v < 18446744073709551616) (hu : 0 ≤ u ∧ u < 4294967296) (w : World) :
    Calls Try.prog 10 #[.int .u16 p, .int .u64 v, .int .u32 u] w fun e w' => e = .returned (.bool true) ∧ Upd [] w w' := by
  have tok1 : True := trivial
  obtain ⟨n, rfl⟩ := Int.eq_ofNat_of_zero_le hx.1
  have hn : n < 2000 := by omega
  have R0 := Lib.hid (show R5 8 n (v % 4294967296) (v / 4294967296) 0 from ⟨by decide, by omega, by omega, by omega, by decide⟩)
  have R1 := Lib.hid (show R5 7 n 0 0 0 from ⟨by decide, by omega, by decide, by decide, by decide⟩)
  have R2 := Lib.hid (show R5 3 ((n : Int) + 1) u 0 0 from ⟨by decide, by omega, hu, by decide, by decide⟩)
  have R3 := Lib.hid (show R5 1 ((n : Int) + 1) 0 0 0 from ⟨by decide, by omega, by decide, by decide, by decide⟩)
  have R4 := Lib.hid (show R5 2 ((n : Int) + 2) 0 0 0 from ⟨by decide, by omega, by decide, by decide, by decide⟩)
  have C0 := Lib.hid (hb_can n hn)
  have E0 := Lib.hid (show p8.wr8M n (v % 4294967296 + v / 4294967296 * 4294967296) = hbM n v by rw [show v % 4294967296 + v / 4294967296 * 4294967296 = v by omega]; exact hb_lay n v hn)
  have C1 := Lib.hid (hb_rd8 n v hn hv.1 hv.2)
  have C2 := Lib.hid (hb_write n v u hn)
  have C3 := Lib.hid (hb_load n v u hn hu.1 hu.2)
  have C4 := Lib.hid (hb_load1 n v u hn hu.1 hu.2)
  have q1 : ((n : Int) + 1) % 4294967296 = n + 1 := by omega
  have q2 : ((n : Int) + 2) % 4294967296 = n + 2 := by omega
  have q0 : (n : Int) % 4294967296 = n := by omega
  have q3 : v / 4294967296 % 4294967296 = v / 4294967296 := by omega
  have q4 : bits .and .u32 (u / 256) 255 = u / 256 % 256 := and_255 _ (by omega) (by omega)
  generalize hX : (n : Int) = x at *
  clear hx hn hX
  obtain ⟨hv0, hv1⟩ := hv
  obtain ⟨hu0, hu1⟩ := hu
  go_enter Try.func10, Try.ntmps10
  go_wp2_with (first | (have _t := tok1; clear _t; go_at_call 41; refine (known20_any _).mono ?_; rintro e wk ⟨rfl, hu⟩; have UK := Lib.hid hu; clear hu tok1) | (have _t := UK; clear _t; go_at_call 15; refine (New_any _).mono ?_; rintro e w0 ⟨a, pb, rfl, ha, hp, hM0, hU0⟩; have P0 := Lib.hid (And.intro hM0 (And.intro (show w.heap.size ≤ pb by have := UK.out.size; omega) (UK.out.also hU0 (by simp)))); clear ha hp hM0 hU0 UK) | (have _t := P0; clear _t; go_at_call 42; refine (HNew_any _).mono ?_; rintro e w1 ⟨hb, m, rfl, h1, h2, h3⟩; have L0 := Lib.hid (show Kh w hb a pb (Hs.zero m) Mem.zero w1 from ⟨h2, P0.out.1.keep h3 (by simp) (by simp), ⟨by have := P0.out.1.al; omega, by have := P0.out.1.pl; omega⟩, ⟨by have := P0.out.2.2.size; omega, P0.out.2.1⟩, P0.out.2.2.also h3 (by simp)⟩); clear h1 h2 h3 P0) | (have _t := L0; clear _t; go_at_call 16; refine (Map_yes Mem.zero a pb 0 8 3 _ L0.out.m (by decide) p8_map).mono ?_; rintro e w2 ⟨rfl, h1, h2⟩; have L1 := Lib.hid (show Kh w hb a pb (Hs.zero m) p8 w2 from L0.out.mem h2 h1); clear h1 h2 L0) | (have _t := L1; clear _t; go_at_call 43; refine (hkLay w _ hb a pb w2.heap.size p8 0 0 (Hs.zero m) ⟨L1.out.step ((Upd.refl [] w2).alloc (.cells #[.pointer (some ⟨hb, 0, none⟩), .pointer (some ⟨a, 0, none⟩)] 89)), heap_alloc_new _ _, ⟨by have := L1.out.h.lt; omega, by have := L1.out.m.pl; omega⟩, rfl, rfl⟩ x (v % 4294967296) (v / 4294967296) R0.out C0.out).mono ?_; rintro e w3 ⟨rfl, H3, h⟩; rw [E0.out] at h; have K3 := Lib.hid h; clear h L1; have ct := cells_of K3.out.b; have e10 := K3.out.e.1; have e11 := K3.out.e.2) | (have _t := K3; clear _t; go_at_call 43; refine (hkNumber w _ hb a pb _ _ _ _ _ K3.out x R1.out C1.out.1).mono ?_; rintro e w4 ⟨rfl, H4, h⟩; rw [C1.out.2] at h; have K4 := Lib.hid h; clear h K3 ct; have ct := cells_of K4.out.b; have e10 := K4.out.e.1; have e11 := K4.out.e.2) | (have _t := K4; clear _t; go_at_call 43; refine (hkStore w _ hb a pb _ _ _ _ _ K4.out (x + 1) u R2.out C2.out.1).mono ?_; rintro e w5 ⟨rfl, H5, h⟩; rw [C2.out.2] at h; have K5 := Lib.hid h; clear h K4 ct; have ct := cells_of K5.out.b; have e10 := K5.out.e.1; have e11 := K5.out.e.2) | (have _t := K5; clear _t; go_at_call 43; refine (hkLoad w _ hb a pb _ _ _ _ _ K5.out (x + 1) R3.out C3.out.1).mono ?_; rintro e w6 ⟨rfl, H6, h⟩; rw [C3.out.2] at h; have K6 := Lib.hid h; clear h K5 ct; have ct := cells_of K6.out.b; have e10 := K6.out.e.1; have e11 := K6.out.e.2) | (have _t := K6; clear _t; go_at_call 43; refine (hkLoad1 w _ hb a pb _ _ _ _ _ K6.out (x + 2) R4.out C4.out.1).mono ?_; rintro e w7 ⟨rfl, H7, h⟩; rw [C4.out.2] at h; have K7 := Lib.hid h; clear h K6 ct; have ct := cells_of K7.out.b; have e10 := K7.out.e.1; have e11 := K7.out.e.2) | (have _t := K7; clear _t; go_at_call 43; refine (hkSub w _ hb a pb _ _ _ _ _ K7.out).mono ?_; rintro e w8 ⟨rfl, H8, h⟩; have K8 := Lib.hid h; clear h K7 ct; have ct := cells_of K8.out.b; have e10 := K8.out.e.1; have e11 := K8.out.e.2) | (have _t := K8; clear _t; go_at_call 43; refine (hkCmp w _ hb a pb _ _ _ _ _ K8.out).mono ?_; rintro e w9 ⟨rfl, H9, h⟩; have K9 := Lib.hid h; clear h K8 ct; have ct := cells_of K9.out.b; have e10 := K9.out.e.1; have e11 := K9.out.e.2) | (have _t := K9; clear _t; go_at_call 43; refine (hkDiv w _ hb a pb _ _ _ _ _ K9.out).mono ?_; rintro e w10 ⟨rfl, H10, h⟩; have K10 := Lib.hid h; clear h K9 ct; have ct := cells_of K10.out.b; have e10 := K10.out.e.1; have e11 := K10.out.e.2) | (have _t := K10; clear _t; go_at_call 43; refine (hkBad w _ hb a pb _ _ _ _ _ K10.out (hb_no (hbN_R _ _ _))).mono ?_; rintro e w11 ⟨rfl, hu⟩; have UE := Lib.hid hu; clear hu K10 ct) | (have _t := K4; clear _t; go_at_call 44; refine (X_any _ hb _ _ K4.out.k.h).mono ?_; rintro e w7 ⟨rfl, rfl⟩) | (have _t := K6; clear _t; go_at_call 44; refine (X_any _ hb _ _ K6.out.k.h).mono ?_; rintro e w7 ⟨rfl, rfl⟩) | (have _t := K7; clear _t; go_at_call 44; refine (X_any _ hb _ _ K7.out.k.h).mono ?_; rintro e w7 ⟨rfl, rfl⟩) | (have _t := K8; clear _t; go_at_call 44; refine (X_any _ hb _ _ K8.out.k.h).mono ?_; rintro e w7 ⟨rfl, rfl⟩) | (have _t := K9; clear _t; go_at_call 44; refine (X_any _ hb _ _ K9.out.k.h).mono ?_; rintro e w7 ⟨rfl, rfl⟩))
  go_ret
  exact ⟨rfl, UE.out⟩
end Go.Proofs.Ytncafchgdgmeaaa
