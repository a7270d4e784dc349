/-
  The laws of layer 20: the check of known answers, by its contract. No condition.
-/
import Derived.Test.YtncafchgdgmeaaaHpH
namespace Go.Proofs.Ytncafchgdgmeaaa
open Go Go.RowKit
set_option linter.unusedVariables false
set_option linter.unusedSimpArgs false

def hkM1 : Mem := Mem.zero.mapN (0 : Int).toNat (1 : Int).toNat 3
def hkM2 : Mem := hkM1.poke 8 [1, 2, 3, 4]
theorem hk_map : Mem.zero.mapB 0 1 3 = true := by decide +kernel
theorem hk_poke : hkM1.pokeB 8 [1, 2, 3, 4] = true := by decide +kernel
theorem hk_rK : hkM2.readK 8 4 1 = true := by decide +kernel
theorem hk_rV : hkM2.readV 8 4 1 = 67305985 := by decide +kernel
theorem hk_bK : hkM2.readK 254 4 1 = false := by decide +kernel
theorem hk_bad : hkM2.bad 254 (rightI 1) (widthI 4).toNat = some 2 := by decide +kernel
theorem hk_bF : hkM2.rdF 254 4 1 = ⟨1, 0, 256, 1⟩ := by rw [Mem.rdF, hk_bad]; rfl

def hkH1 (m : Nat) : Hs := ((Hs.zero m).put 17 1).put 10 8
def hkH2 (m : Nat) : Hs := (hkH1 m).put 10 67305985
def hkH3 (m : Nat) : Hs := (hkH2 m).put 10 254
def hkH4 (m : Nat) : Hs := (hkH3 m).put 17 16

theorem Last_any (H : Hs) (b : Nat) (w : World) (h : IsHost w b H) (e17 : H.get 17 = 16) :
    Calls Try.prog 49 #[.pointer (some ⟨b, 0, none⟩)] w fun e w' => e = .returned (.int .i64 16) ∧ w = w' := by
  have HH := Lib.hid h
  clear h
  go_enter Try.func49, Try.ntmps49
  go_wp2_with (go_at_call 44; refine (X_any H b 17 _ HH.out).mono ?_; rintro e w' ⟨rfl, rfl⟩; rw [e17])
  go_ret
  exact ⟨rfl, rfl⟩

theorem by4 (w : World) (T : TypeId) : BySl (w.alloc (.cells #[.int .u8 1, .int .u8 2, .int .u8 3, .int .u8 4] T)) (.slice (some ⟨w.heap.size, 0, none⟩) 4 4) [1, 2, 3, 4] w.heap.size := by
  refine .inr ⟨0, 4, _, T, _, rfl, heap_alloc_new w _, fun i hi => ?_⟩
  have h : i = 0 ∨ i = 1 ∨ i = 2 ∨ i = 3 := by simp at hi; omega
  rcases h with rfl | rfl | rfl | rfl <;> rfl

set_option maxRecDepth 100000 in
set_option maxHeartbeats 4000000 in
theorem known20_any (w : World) :
    Calls Try.prog 41 #[] w fun e w' => e = .returned (.bool true) ∧ Upd [] w w' := by
  have tok1 : True := trivial
  have tok2 : True := trivial
  go_enter Try.func41, Try.ntmps41
  go_wp2_with (first | (have _t := tok1; clear _t; go_at_call 15; refine (New_any _).mono ?_; rintro e w0 ⟨a, pb, rfl, ha, hp, hM0, hU0⟩; have N0 := Lib.hid (And.intro ha (And.intro hp (And.intro hM0 hU0))); clear ha hp hM0 hU0 tok1) | (have _t := N0; clear _t; go_at_call 42; refine (HNew_any _).mono ?_; rintro e w1 ⟨hb, m, rfl, h1, h2, h3⟩; have K0 := Lib.hid (show Kh w hb a pb (Hs.zero m) Mem.zero w1 from ⟨h2, N0.out.2.2.1.keep h3 (by simp) (by simp), ⟨by have := N0.out.2.2.1.al; omega, by have := N0.out.2.2.1.pl; omega⟩, ⟨by have := N0.out.2.2.2.size; omega, N0.out.2.1⟩, N0.out.2.2.2.also h3 (by simp)⟩); clear h1 h2 h3 N0) | (have _t := K0; clear _t; go_at_call 16; refine (Map_yes Mem.zero a pb 0 1 3 _ K0.out.m (by decide) hk_map).mono ?_; rintro e w2 ⟨rfl, h1, h2⟩; have K1 := Lib.hid (show Kh w hb a pb (Hs.zero m) hkM1 w2 from K0.out.mem h2 h1); clear h1 h2 K0) | (have _t := K1; clear _t; go_at_call 28; refine (Poke_any hkM1 a pb 8 (.slice (some ⟨w2.heap.size, 0, none⟩) 4 4) [1, 2, 3, 4] w2.heap.size _ (K1.out.m.keep ((Upd.refl [] w2).alloc _) (by simp) (by simp)) (by decide) (by decide) (by4 w2 _) (by have := K1.out.m.pl; omega) (by intro i; match i with | 0 | 1 | 2 | 3 => simp | _ + 4 => simp) (by simp [maxLen])).mono ?_; rintro e w3 ⟨rfl, h1, h2⟩; rw [hk_poke, show errI true 61 = 0 from rfl]; have K2 := Lib.hid (show Kh w hb a pb (Hs.zero m) hkM2 w3 from (K1.out.step ((Upd.refl [] w2).alloc _)).mem h2 h1); clear h1 h2 K1) | (have _t := K2; clear _t; go_at_call 47; refine (SetX_any _ hb 17 1 _ K2.out.h (by decide)).mono ?_; rintro e w4 ⟨rfl, h1, h2⟩; have K3 := Lib.hid (K2.out.host h2 h1); clear h1 h2 K2) | (have _t := K3; clear _t; go_at_call 47; refine (SetX_any _ hb 10 8 _ K3.out.h (by decide)).mono ?_; rintro e w5 ⟨rfl, h1, h2⟩; have K4 := Lib.hid (show Kh w hb a pb (hkH1 m) hkM2 w5 from K3.out.host h2 h1); clear h1 h2 K3) | (have _t := K4; clear _t; go_at_call 50; refine (Do_load4 (hkH1 m) hkM2 hb a pb _ K4.out.h K4.out.m K4.out.ne rfl hk_rK).mono ?_; rintro e w6 ⟨rfl, h1, h2, h3⟩; rw [show (hkH1 m).get 10 = 8 from rfl, hk_rV] at h1; rw [show Flt.zero.val = .agg #[.int .i64 0, .int .u32 0, .int .u32 0, .int .i64 0] from rfl]; have K5 := Lib.hid (show Kh w hb a pb (hkH2 m) hkM2 _ from (K4.out.both h3 h1 h2).step ((Upd.refl [] _).alloc (.cells #[.int .i64 0, .int .u32 0, .int .u32 0, .int .i64 0] 32))); clear h1 h2 h3 K4) | (have _t := tok2; clear _t; go_at_call 44; refine (X_any (hkH2 m) hb 10 _ K5.out.h).mono ?_; rintro e w7 ⟨rfl, rfl⟩; rw [show (hkH2 m).get 10 = 67305985 from rfl]; clear tok2) | (have _t := K5; clear _t; go_at_call 47; refine (SetX_any (hkH2 m) hb 10 254 _ K5.out.h (by decide)).mono ?_; rintro e w8 ⟨rfl, h1, h2⟩; have K6 := Lib.hid (show Kh w hb a pb (hkH3 m) hkM2 w8 from K5.out.host h2 h1); clear h1 h2 K5) | (have _t := K6; clear _t; go_at_call 50; refine (Do_load4_bad (hkH3 m) hkM2 hb a pb _ K6.out.h K6.out.m K6.out.ne rfl hk_bK).mono ?_; rintro e w9 ⟨⟨F, hF, rfl⟩, h3⟩; obtain rfl : F = ⟨1, 0, 256, 1⟩ := hF.trans hk_bF; rw [show (⟨1, 0, 256, 1⟩ : Flt).val = .agg #[.int .i64 1, .int .u32 0, .int .u32 256, .int .i64 1] from rfl]; have K7 := Lib.hid (And.intro (K6.out.step (h3.alloc (.cells #[.int .i64 1, .int .u32 0, .int .u32 256, .int .i64 1] 32))) (And.intro (heap_alloc_new w9 (.cells #[.int .i64 1, .int .u32 0, .int .u32 256, .int .i64 1] 32)) ((K6.out.step h3).h.lt))); clear h3 hF K6) | (have _t := K7; clear _t; go_at_call 47; refine (SetX_any (hkH3 m) hb 17 16 _ K7.out.1.h (by decide)).mono ?_; rintro e w10 ⟨rfl, h1, h2⟩; have K8 := Lib.hid (And.intro (show Kh w hb a pb (hkH4 m) hkM2 w10 from K7.out.1.host h2 h1) (h2.get K7.out.2.1 (by have := K7.out.2.2; simp; omega))); clear h1 h2 K7; have b10 := cells_of K8.out.2) | (have _t := K8; clear _t; go_at_call 44; refine (X_any (hkH4 m) hb 10 _ K8.out.1.h).mono ?_; rintro e w11 ⟨rfl, rfl⟩; rw [show (hkH4 m).get 10 = 254 from rfl]) | (have _t := K8; clear _t; go_at_call 49; refine (Last_any (hkH4 m) hb _ K8.out.1.h rfl).mono ?_; rintro e w12 ⟨rfl, rfl⟩))
  go_ret
  exact ⟨rfl, K8.out.1.u⟩
end Go.Proofs.Ytncafchgdgmeaaa
