/-
  The law DecodeNone: the walk.
-/
import Derived.Test.YtpockhoacfkjaaaDnA
namespace Go.Proofs.Ytpockhoacfkjaaa
open Go Go.RowKit
set_option linter.unusedVariables false
set_option linter.unusedSimpArgs false

theorem or192 (z : Int) (hz : 0 ≤ z ∧ z < 64) : bits .or .u8 192 z = 192 + z := by
  have h : ∀ a : Fin 64, bits .or .u8 192 (a.val : Int) = 192 + (a.val : Int) := by decide +kernel
  have := h ⟨z.toNat, by omega⟩
  simpa only [show ((z.toNat : Nat) : Int) = z by omega] using this
theorem or248 (z : Int) (hz : 0 ≤ z ∧ z < 8) : bits .or .u8 248 z = 248 + z := by
  have h : ∀ a : Fin 8, bits .or .u8 248 (a.val : Int) = 248 + (a.val : Int) := by decide +kernel
  have := h ⟨z.toNat, by omega⟩
  simpa only [show ((z.toNat : Nat) : Int) = z by omega] using this
theorem or200 (z : Int) (hz : 0 ≤ z ∧ z < 8) : bits .or .u8 200 z = 200 + z := by
  have h : ∀ a : Fin 8, bits .or .u8 200 (a.val : Int) = 200 + (a.val : Int) := by decide +kernel
  have := h ⟨z.toNat, by omega⟩
  simpa only [show ((z.toNat : Nat) : Int) = z by omega] using this

set_option maxRecDepth 100000 in
set_option maxHeartbeats 400000 in
theorem none_long (o : Int) (b : Option Addr) (n c : Nat) (hn : 10 < n) (hn2 : n ≤ maxLen) (w : World) :
    Calls Try.prog 8 #[.int .u8 o, .slice b n c] w fun e w' => e = .returned (.bool true) ∧ Upd [] w w' := by
  have hn' : decide ((10 : Int) < (n : Int)) = true := by simp; omega
  unfold maxLen at hn2
  go_enter Try.func8, Try.ntmps8
  go_wp2_with (go_at_call 11; refine (known10_any _).mono ?_; rintro e w0 ⟨rfl, hu⟩; have U1 := Lib.hid hu; clear hu)
  go_ret
  exact ⟨rfl, U1.out⟩

set_option maxRecDepth 100000 in
set_option maxHeartbeats 8000000 in
theorem none_short (k z y o : Int) (ho : o.tmod 12 = k) (ho2 : o.tmod 64 = z) (ho3 : o.tmod 8 = y) (hk : 0 ≤ k ∧ k < 12) (hz : 0 ≤ z ∧ z < 64) (hy : 0 ≤ y ∧ y < 8) (b : Option Addr) (c : Nat) (M : List Int) (g : Nat) (w : World) (hb : BArg w (.slice b M.length c) M g) (h10 : M.length ≤ 10) :
    Calls Try.prog 8 #[.int .u8 o, .slice b M.length c] w fun e w' => e = .returned (.bool true) ∧ Upd [] w w' := by
  have hn' : decide ((10 : Int) < (M.length : Int)) = false := by simp; omega
  have HB := Lib.hid (hb.b)
  have hM := Lib.hid (show M.length ≤ 10 by omega)
  have D1 := Lib.hid (dec_err (no_other k hk M))
  have D2 := Lib.hid (dec_err (no_ud2 M))
  have D3 := Lib.hid (dec_err (no_lea z hz M))
  have D4 := Lib.hid (dec_err (no_last y hy M))
  have D5 := Lib.hid (dec_err (no_lays y hy M))
  have DK := Lib.hid (show kindM ([otherB k] ++ M) = 4 by unfold kindM; rw [D1.out.2.2]; rfl)
  have R1 := Lib.hid (BOk.app (BOk.cons (otherB_byte k) BOk.nil) hb.r)
  have R2 := Lib.hid (show BOk ([15, 11] ++ M) from BOk.app (BOk.cons (by decide) (BOk.cons (by decide) BOk.nil)) hb.r)
  have R3 := Lib.hid (show BOk ([141, 192 + z] ++ M) from BOk.app (BOk.cons (by decide) (BOk.cons (by omega) BOk.nil)) hb.r)
  have R4 := Lib.hid (show BOk ([255, 248 + y] ++ M) from BOk.app (BOk.cons (by decide) (BOk.cons (by omega) BOk.nil)) hb.r)
  have R5 := Lib.hid (show BOk ([199, 200 + y] ++ M) from BOk.app (BOk.cons (by decide) (BOk.cons (by omega) BOk.nil)) hb.r)
  have q1 := or192 z hz
  have q2 := or248 y hy
  have q3 := or200 y hy
  have hT := noneTbl_at k hk
  have U0 := Lib.hid (Upd.refl [] w)
  go_enter Try.func8, Try.ntmps8
  go_upto_region 6 with (go_at_call 11; refine (known10_any _).mono ?_; rintro e w0 ⟨rfl, hu⟩; have U1 := Lib.hid hu; clear hu U0)
  generalize hx0 : w0.alloc (.cells #[.int .u8 244, .int .u8 102, .int .u8 240, .int .u8 14, .int .u8 39, .int .u8 96, .int .u8 142, .int .u8 200, .int .u8 228, .int .u8 250, .int .u8 216, .int .u8 143] 44) = x0
  have ct := cells_of (show x0.heap[w0.heap.size]? = some (.cells noneTbl 44 (0, 0)) by rw [← hx0]; exact heap_alloc_new w0 _) (k.toNat)
  rw [hT] at ct
  have G0 := Lib.hid (Dn.start (w := w) (w1 := x0) (by rw [← hx0]; exact U1.out.alloc _))
  clear hx0 U1 hT hb hz hy h10
  go_wp2_with (first | (have _t := G0; clear _t; at_builtin; refine wpList_append_by rfl _ _ rfl w.heap.size _ [otherB k] rfl (G0.out.lit #[.int .u8 (otherB k)] [otherB k] rfl (by simp [maxLen])) (.slice b M.length c) M g rfl (HB.out.keep (G0.out.u.alloc _) (by simp)) (by have := hM.out; simp; omega) (by have := G0.out.u.size; simp; omega) ?_; intro v1 y1 hg; have A1 := Lib.hid (G0.out.take hg); clear hg G0) | (have _t := A1; clear _t; go_at_call 12; obtain ⟨g1, hb1, _⟩ := A1.out.o.barg R1.out (by have := hM.out; simp [maxLen]; omega); have HB1 := Lib.hid hb1; clear hb1; refine (Decode_any _ ([otherB k] ++ M) g1 _ HB1.out).mono ?_; rintro e w1 ⟨rfl, hu⟩; rw [D1.out.1, D1.out.2.1, D1.out.2.2]; have V1 := Lib.hid (A1.out.step hu); clear hu A1) | (have _t := V1; clear _t; refine at_store 28 rfl ?_; refine wpList_store_ins Ins.zero w1.heap.size rfl _ _ rfl rfl rfl (heap_alloc_new w1 (.cells Ins.zero.cells 28)) rfl ?_; intro x1 hw; have G1 := Lib.hid (V1.out.ins hw); clear hw V1) | (have _t := G1; clear _t; at_builtin; refine wpList_append_by rfl _ _ rfl w.heap.size _ [15, 11] rfl (G1.out.lit #[.int .u8 15, .int .u8 11] [15, 11] rfl (by simp [maxLen])) (.slice b M.length c) M g rfl (HB.out.keep (G1.out.u.alloc _) (by simp)) (by have := hM.out; simp; omega) (by have := G1.out.u.size; simp; omega) ?_; intro v2 y2 hg; have A2 := Lib.hid (G1.out.app hg); have O2 := Lib.hid hg.o; clear hg G1) | (have _t := A2; clear _t; go_at_call 12; obtain ⟨g2, hb2, _⟩ := O2.out.barg R2.out (by have := hM.out; simp [maxLen]; omega); have HB2 := Lib.hid hb2; clear hb2; refine (Decode_any _ ([15, 11] ++ M) g2 _ HB2.out).mono ?_; rintro e w2 ⟨rfl, hu⟩; rw [D2.out.1, D2.out.2.1, D2.out.2.2]; have V2 := Lib.hid (A2.out.step hu); clear hu A2) | (have _t := V2; clear _t; refine at_store 28 rfl ?_; refine wpList_store_ins Ins.zero w2.heap.size rfl _ _ rfl rfl rfl (heap_alloc_new w2 (.cells Ins.zero.cells 28)) rfl ?_; intro x2 hw; have G2 := Lib.hid (V2.out.ins hw); clear hw V2) | (have _t := G2; clear _t; at_builtin; refine wpList_append_by rfl _ _ rfl w.heap.size _ [141, 192 + z] rfl (G2.out.lit #[.int .u8 141, .int .u8 (192 + z)] [141, 192 + z] rfl (by simp [maxLen])) (.slice b M.length c) M g rfl (HB.out.keep (G2.out.u.alloc _) (by simp)) (by have := hM.out; simp; omega) (by have := G2.out.u.size; simp; omega) ?_; intro v3 y3 hg; have A3 := Lib.hid (G2.out.app hg); have O3 := Lib.hid hg.o; clear hg G2) | (have _t := A3; clear _t; go_at_call 12; obtain ⟨g3, hb3, _⟩ := O3.out.barg R3.out (by have := hM.out; simp [maxLen]; omega); have HB3 := Lib.hid hb3; clear hb3; refine (Decode_any _ ([141, 192 + z] ++ M) g3 _ HB3.out).mono ?_; rintro e w3 ⟨rfl, hu⟩; rw [D3.out.1, D3.out.2.1, D3.out.2.2]; have V3 := Lib.hid (A3.out.step hu); clear hu A3) | (have _t := V3; clear _t; refine at_store 28 rfl ?_; refine wpList_store_ins Ins.zero w3.heap.size rfl _ _ rfl rfl rfl (heap_alloc_new w3 (.cells Ins.zero.cells 28)) rfl ?_; intro x3 hw; have G3 := Lib.hid (V3.out.ins hw); clear hw V3) | (have _t := G3; clear _t; at_builtin; refine wpList_append_by rfl _ _ rfl w.heap.size _ [255, 248 + y] rfl (G3.out.lit #[.int .u8 255, .int .u8 (248 + y)] [255, 248 + y] rfl (by simp [maxLen])) (.slice b M.length c) M g rfl (HB.out.keep (G3.out.u.alloc _) (by simp)) (by have := hM.out; simp; omega) (by have := G3.out.u.size; simp; omega) ?_; intro v4 y4 hg; have A4 := Lib.hid (G3.out.app hg); have O4 := Lib.hid hg.o; clear hg G3) | (have _t := A4; clear _t; go_at_call 12; obtain ⟨g4, hb4, _⟩ := O4.out.barg R4.out (by have := hM.out; simp [maxLen]; omega); have HB4 := Lib.hid hb4; clear hb4; refine (Decode_any _ ([255, 248 + y] ++ M) g4 _ HB4.out).mono ?_; rintro e w4 ⟨rfl, hu⟩; rw [D4.out.1, D4.out.2.1, D4.out.2.2]; have V4 := Lib.hid (A4.out.step hu); clear hu A4) | (have _t := V4; clear _t; refine at_store 28 rfl ?_; refine wpList_store_ins Ins.zero w4.heap.size rfl _ _ rfl rfl rfl (heap_alloc_new w4 (.cells Ins.zero.cells 28)) rfl ?_; intro x4 hw; have G4 := Lib.hid (V4.out.ins hw); clear hw V4) | (have _t := G4; clear _t; at_builtin; refine wpList_append_by rfl _ _ rfl w.heap.size _ [199, 200 + y] rfl (G4.out.lit #[.int .u8 199, .int .u8 (200 + y)] [199, 200 + y] rfl (by simp [maxLen])) (.slice b M.length c) M g rfl (HB.out.keep (G4.out.u.alloc _) (by simp)) (by have := hM.out; simp; omega) (by have := G4.out.u.size; simp; omega) ?_; intro v5 y5 hg; have A5 := Lib.hid (G4.out.app hg); have O5 := Lib.hid hg.o; clear hg G4) | (have _t := A5; clear _t; go_at_call 12; obtain ⟨g5, hb5, _⟩ := O5.out.barg R5.out (by have := hM.out; simp [maxLen]; omega); have HB5 := Lib.hid hb5; clear hb5; refine (Decode_any _ ([199, 200 + y] ++ M) g5 _ HB5.out).mono ?_; rintro e w5 ⟨rfl, hu⟩; rw [D5.out.1, D5.out.2.1, D5.out.2.2]; have V5 := Lib.hid (A5.out.step hu); clear hu A5) | (have _t := V5; clear _t; refine at_store 28 rfl ?_; refine wpList_store_ins Ins.zero w5.heap.size rfl _ _ rfl rfl rfl (heap_alloc_new w5 (.cells Ins.zero.cells 28)) rfl ?_; intro x5 hw; have G5 := Lib.hid (V5.out.ins hw); clear hw V5) | (have _t := G5; clear _t; go_at_call 14; refine (Kind_any v1 ([otherB k] ++ M) _ _ (Classical.choose_spec (G5.out.o.barg R1.out (by have := hM.out; simp [maxLen]; omega))).1).mono ?_; rintro e w6 ⟨rfl, hu⟩; rw [DK.out]; have V6 := Lib.hid (G5.out.step hu); clear hu G5))
  go_ret
  exact ⟨rfl, V6.out.u⟩

theorem DecodeNone_walk (o : Int) (v : Value) (M : List Int) (g : Nat) (w : World) (ho : 0 ≤ o ∧ o ≤ 255) (hb : BArg w v M g) :
    Calls Try.prog 8 #[.int .u8 o, v] w fun e w' => e = .returned (.bool true) ∧ Upd [] w w' := by
  obtain ⟨b, c, hv⟩ := hb.b.form
  by_cases hn : 10 < M.length
  · rw [hv]; exact none_long o b _ c hn hb.n w
  · have h1 := Int.tmod_nonneg 12 ho.1
    have h2 := Int.tmod_lt_of_pos o (b := 12) (by decide)
    have h3 := Int.tmod_nonneg 64 ho.1
    have h4 := Int.tmod_lt_of_pos o (b := 64) (by decide)
    have h5 := Int.tmod_nonneg 8 ho.1
    have h6 := Int.tmod_lt_of_pos o (b := 8) (by decide)
    rw [show (#[Value.int .u8 o, v] : Array Value) = #[.int .u8 o, .slice b M.length c] by rw [hv]]
    exact none_short _ _ _ o rfl rfl rfl ⟨h1, h2⟩ ⟨h3, h4⟩ ⟨h5, h6⟩ b c M g w (by rw [← hv]; exact hb) (by omega)
end Go.Proofs.Ytpockhoacfkjaaa
