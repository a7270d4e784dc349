/-
  The law DecodeGroups: the walk.
-/
import Derived.Test.YtpockhoacfkjaaaDsA
import Derived.Test.YtpockhoacfkjaaaDraw
namespace Go.Proofs.Ytpockhoacfkjaaa
open Go Go.RowKit
set_option linter.unusedVariables false
set_option linter.unusedSimpArgs false

theorem or3 (y x : Int) (hy : 0 ≤ y ∧ y < 8) (hx : 0 ≤ x ∧ x < 8) : bits .or .u8 (bits .or .u8 192 (y * 8)) x = 192 + 8 * y + x := by
  have h : ∀ a : Fin 8, ∀ b : Fin 8, bits .or .u8 (bits .or .u8 192 ((a.val : Int) * 8)) (b.val : Int) = 192 + 8 * (a.val : Int) + (b.val : Int) := by decide +kernel
  have := h ⟨y.toNat, by omega⟩ ⟨x.toNat, by omega⟩
  simp only [show ((y.toNat : Nat) : Int) = y by omega, show ((x.toNat : Nat) : Int) = x by omega] at this
  exact this

def grTbl : Array Value := #[.int .i64 3, .int .i64 4, .int .i64 5, .int .i64 6, .int .i64 7, .int .i64 8, .int .i64 9, .int .i64 10]

set_option maxRecDepth 100000 in
set_option maxHeartbeats 8000000 in
theorem DecodeGroups_walk (k y x v : Int) (o a b : Int) (ho : o.tmod 8 = k) (ha : a.tmod 8 = x) (hb : b.tmod 8 = y) (hk : 0 ≤ k ∧ k < 8) (hy : 0 ≤ y ∧ y < 8) (hx : 0 ≤ x ∧ x < 8) (hv : 0 ≤ v ∧ v < 4294967296) (w : World) :
    Calls Try.prog 6 #[.int .u8 o, .int .u8 a, .int .u8 b, .int .u32 v] w fun e w' => e = .returned (.bool true) ∧ Upd [] w w' := by
  have hmo : Try.prog.follows .mixedOrders = true := by kernel_rfl
  have U0 := Lib.hid (Upd.refl [] w)
  have D1 := Lib.hid (show decI [8 * k + 1, 192 + 8 * y + x] = ⟨k + 3, 0, regO x, regO y, false, 2⟩ ∧ decN [8 * k + 1, 192 + 8 * y + x] = 2 ∧ decE [8 * k + 1, 192 + 8 * y + x] = 0 from dec_of (gr1 k y x hk hy hx))
  have D2 := Lib.hid (show decI [8 * k + 3, 192 + 8 * y + x] = ⟨k + 3, 0, regO y, regO x, false, 2⟩ ∧ decN [8 * k + 3, 192 + 8 * y + x] = 2 ∧ decE [8 * k + 3, 192 + 8 * y + x] = 0 from dec_of (gr3 k y x hk hy hx))
  have D3 := Lib.hid (show decI [8 * k + 5, by0 v, by1 v, by2 v, by3 v] = ⟨k + 3, 0, regO 0, immO v, false, 5⟩ ∧ decN [8 * k + 5, by0 v, by1 v, by2 v, by3 v] = 5 ∧ decE [8 * k + 5, by0 v, by1 v, by2 v, by3 v] = 0 from dec_of (gr5 k v hk hv))
  have D4 := Lib.hid (show decI [131, 192 + 8 * k + x, by0 v] = ⟨k + 3, 0, regO x, immO (sx8 (by0 v)), false, 3⟩ ∧ decN [131, 192 + 8 * k + x, by0 v] = 3 ∧ decE [131, 192 + 8 * k + x, by0 v] = 0 from dec_of (gr131 k x (by0 v) hk hx))
  have q1 := or3 y x hy hx
  have q2 := or3 k x hk hx
  have e1 : (v / 256) % 256 = by1 v := rfl
  have e2 : (v / 65536) % 256 = by2 v := rfl
  have e3 : (v / 16777216) % 256 = by3 v := rfl
  have e0 : v % 256 = by0 v := rfl
  have HV := show ∀ z : Int, (0 ≤ z % 256 ∧ z % 256 ≤ 255) from fun z => by omega
  have K1 := Lib.hid (fun W T => barg2 W T (8 * k + 1) (192 + 8 * y + x) (by omega) (by omega))
  have K2 := Lib.hid (fun W T => barg2 W T (8 * k + 3) (192 + 8 * y + x) (by omega) (by omega))
  have K3 := Lib.hid (fun W T => barg5 W T (8 * k + 5) (by0 v) (by1 v) (by2 v) (by3 v) (by omega) (HV _) (HV _) (HV _) (HV _))
  have K4 := Lib.hid (fun W T => barg3 W T 131 (192 + 8 * k + x) (by0 v) (by omega) (by omega) (HV _))
  have Rx := Lib.hid (show 0 ≤ x ∧ x ≤ 255 from by omega)
  have Ry := Lib.hid (show 0 ≤ y ∧ y ≤ 255 from by omega)
  have hk2 := hk
  have hT : grTbl[k.toNat]? = some (.int .i64 (k + 3)) := by
    have h : k = 0 ∨ k = 1 ∨ k = 2 ∨ k = 3 ∨ k = 4 ∨ k = 5 ∨ k = 6 ∨ k = 7 := by omega
    rcases h with rfl | rfl | rfl | rfl | rfl | rfl | rfl | rfl <;> rfl
  have hq1 := fun w : World => show (binOp .eql 28 (.agg (Ins.cells ⟨k + 3, 0, regO x, regO y, false, 2⟩)) (.agg (Ins.cells ⟨k + 3, 0, regO x, regO y, false, 2⟩))).run Try.prog w = .ok (.bool true) w from by have := run_eql_ins ⟨k + 3, 0, regO x, regO y, false, 2⟩ ⟨k + 3, 0, regO x, regO y, false, 2⟩ w; rw [Ins.eqB_self] at this; exact this
  have hq2 := fun w : World => show (binOp .eql 28 (.agg (Ins.cells ⟨k + 3, 0, regO y, regO x, false, 2⟩)) (.agg (Ins.cells ⟨k + 3, 0, regO y, regO x, false, 2⟩))).run Try.prog w = .ok (.bool true) w from by have := run_eql_ins ⟨k + 3, 0, regO y, regO x, false, 2⟩ ⟨k + 3, 0, regO y, regO x, false, 2⟩ w; rw [Ins.eqB_self] at this; exact this
  have hq3 := fun w : World => show (binOp .eql 26 (.agg (regO 0).cells) (.agg #[.int .i64 1, .int .i64 0, .int .u32 0, .int .i64 0, .int .i64 0, .int .u32 0])).run Try.prog w = .ok (.bool true) w from by have := run_eql_opd (regO 0) (regO 0) w; rw [Opd.eqB_self] at this; exact this
  have q8 := imm8_v v
  clear HV
  go_enter Try.func6, Try.ntmps6
  go_upto_region 6 with (go_at_call 11; refine (known10_any _).mono ?_; rintro e w0 ⟨rfl, hu⟩; have U1 := Lib.hid hu; clear hu U0)
  have G0 := Lib.hid (Gr.mk (w := w) (bt := w0.heap.size) (l := []) (heap_alloc_new w0 (.cells grTbl 40)) (fun _ h => by cases h) (U1.out.alloc _) U1.out.size)
  clear U1 hk hy hx hv ho ha hb
  generalize hx0 : w0.alloc (.cells #[.int .i64 3, .int .i64 4, .int .i64 5, .int .i64 6, .int .i64 7, .int .i64 8, .int .i64 9, .int .i64 10] 40) = x0
  rw [show w0.alloc (.cells grTbl 40) = x0 from hx0] at G0
  clear hx0
  go_upto_region 10 with (first | (have _t := G0; clear _t; go_at_call 12; refine (Decode_any _ [8 * k + 1, 192 + 8 * y + x] _ _ (K1.out x0 _)).mono ?_; rintro e w1 ⟨rfl, hu⟩; rw [D1.out.1, D1.out.2.1, D1.out.2.2]; have V1 := Lib.hid ((G0.out.step ((Upd.refl [] _).alloc _)).step hu); clear hu G0) | (have _t := V1; clear _t; refine at_store 28 rfl ?_; refine wpList_store_ins ⟨k + 3, 0, regO x, regO y, false, 2⟩ w1.heap.size rfl _ _ rfl rfl rfl (heap_alloc_new w1 (.cells Ins.zero.cells 28)) rfl ?_; intro x1 hw; have G1 := Lib.hid (V1.out.lay ⟨k + 3, 0, regO x, regO y, false, 2⟩ hw); clear hw V1) | (have _t := G1; clear _t; go_at_call 12; refine (Decode_any _ [8 * k + 3, 192 + 8 * y + x] _ _ (K2.out x1 _)).mono ?_; rintro e w2 ⟨rfl, hu⟩; rw [D2.out.1, D2.out.2.1, D2.out.2.2]; have V2 := Lib.hid ((G1.out.step ((Upd.refl [] _).alloc _)).step hu); clear hu G1) | (have _t := V2; clear _t; refine at_store 28 rfl ?_; refine wpList_store_ins ⟨k + 3, 0, regO y, regO x, false, 2⟩ w2.heap.size rfl _ _ rfl rfl rfl (heap_alloc_new w2 (.cells Ins.zero.cells 28)) rfl ?_; intro x2 hw; have G2 := Lib.hid (V2.out.lay ⟨k + 3, 0, regO y, regO x, false, 2⟩ hw); clear hw V2) | (have _t := G2; clear _t; go_at_call 12; refine (Decode_any _ [8 * k + 5, by0 v, by1 v, by2 v, by3 v] _ _ (K3.out x2 _)).mono ?_; rintro e w3 ⟨rfl, hu⟩; rw [D3.out.1, D3.out.2.1, D3.out.2.2]; have V3 := Lib.hid ((G2.out.step ((Upd.refl [] _).alloc _)).step hu); clear hu G2) | (have _t := V3; clear _t; refine at_store 28 rfl ?_; refine wpList_store_ins ⟨k + 3, 0, regO 0, immO v, false, 5⟩ w3.heap.size rfl _ _ rfl rfl rfl (heap_alloc_new w3 (.cells Ins.zero.cells 28)) rfl ?_; intro x3 hw; have G3 := Lib.hid (V3.out.lay ⟨k + 3, 0, regO 0, immO v, false, 5⟩ hw); clear hw V3) | (have _t := G3; clear _t; go_at_call 12; refine (Decode_any _ [131, 192 + 8 * k + x, by0 v] _ _ (K4.out x3 _)).mono ?_; rintro e w4 ⟨rfl, hu⟩; rw [D4.out.1, D4.out.2.1, D4.out.2.2]; have V4 := Lib.hid ((G3.out.step ((Upd.refl [] _).alloc _)).step hu); clear hu G3) | (have _t := V4; clear _t; refine at_store 28 rfl ?_; refine wpList_store_ins ⟨k + 3, 0, regO x, immO (sx8 (by0 v)), false, 3⟩ w4.heap.size rfl _ _ rfl rfl rfl (heap_alloc_new w4 (.cells Ins.zero.cells 28)) rfl ?_; intro x4 hw; have G4 := Lib.hid (V4.out.lay ⟨k + 3, 0, regO x, immO (sx8 (by0 v)), false, 3⟩ hw); clear hw V4))
  refine wp_drawE 10 (GrD w w0.heap.size (.cells grTbl 40) [(w4.heap.size, ⟨k + 3, 0, regO x, immO (sx8 (by0 v)), false, 3⟩), (w3.heap.size, ⟨k + 3, 0, regO 0, immO v, false, 5⟩), (w2.heap.size, ⟨k + 3, 0, regO y, regO x, false, 2⟩), (w1.heap.size, ⟨k + 3, 0, regO x, regO y, false, 2⟩)] ⟨k + 3, 0, regO x, regO y, false, 2⟩ 8 9) (fun _ _ => False) (by kernel_rfl) (by decide +kernel) (fun r0 => GrD.start (G4.out.step (Upd.refl [] _).drew) (by decide) r0) (fun _ _ _ h => h.elim) ?_
  simp only [List.take_succ_cons, List.take_zero, List.drop_succ_cons, List.drop_zero]
  clear G4
  -- 0
  apply headE_val0 rfl rfl
  · intro d r0 K hd hdep hK w5 hB1
    have HB := Lib.hid hB1
    clear hB1 hdep
    go_wp2_with fail
    first
    | exact hK _ (HB.out.same _ (by decide) (by decide))
    | exact HB.out.same _ (by decide) (by decide)
    | exact hK _ (HB.out.quiet hu _ (by decide) (by decide))
    | exact HB.out.quiet hu _ (by decide) (by decide)
  · exact ⟨_, rfl⟩
  -- 1
  apply headE_val0 rfl rfl
  · intro d r0 K hd hdep hK w5 hB1
    have HB := Lib.hid hB1
    clear hB1 hdep
    go_wp2_with fail
    first
    | exact hK _ (HB.out.same _ (by decide) (by decide))
    | exact HB.out.same _ (by decide) (by decide)
    | exact hK _ (HB.out.quiet hu _ (by decide) (by decide))
    | exact HB.out.quiet hu _ (by decide) (by decide)
  · exact ⟨_, rfl⟩
  -- 2
  apply headE_val0 rfl rfl
  · intro d r0 K hd hdep hK w5 hB1
    have HB := Lib.hid hB1
    clear hB1 hdep
    have ct := cells_of HB.out.b.t (k.toNat)
    rw [hT] at ct
    go_wp2_with fail
    first
    | exact hK _ (HB.out.same _ (by decide) (by decide))
    | exact HB.out.same _ (by decide) (by decide)
    | exact hK _ (HB.out.quiet hu _ (by decide) (by decide))
    | exact HB.out.quiet hu _ (by decide) (by decide)
  · exact ⟨_, rfl⟩
  -- 3
  apply headE_val0 rfl rfl
  · intro d r0 K hd hdep hK w5 hB1
    have HB := Lib.hid hB1
    clear hB1 hdep
    go_wp2_with fail
    first
    | exact hK _ (HB.out.same _ (by decide) (by decide))
    | exact HB.out.same _ (by decide) (by decide)
    | exact hK _ (HB.out.quiet hu _ (by decide) (by decide))
    | exact HB.out.quiet hu _ (by decide) (by decide)
  · exact ⟨_, rfl⟩
  -- 4
  apply headE_val0 rfl rfl
  · intro d r0 K hd hdep hK w5 hB1
    have HB := Lib.hid hB1
    clear hB1 hdep
    go_wp2_with (go_at_call 15; refine (lreg_any x Rx.out _).mono ?_; rintro e w6 ⟨rfl, hu⟩)
    first
    | exact hK _ (HB.out.same _ (by decide) (by decide))
    | exact HB.out.same _ (by decide) (by decide)
    | exact hK _ (HB.out.quiet hu _ (by decide) (by decide))
    | exact HB.out.quiet hu _ (by decide) (by decide)
  · exact ⟨_, rfl⟩
  -- 5
  apply headE_val0 rfl rfl
  · intro d r0 K hd hdep hK w5 hB1
    have HB := Lib.hid hB1
    clear hB1 hdep
    go_wp2_with fail
    first
    | exact hK _ (HB.out.same _ (by decide) (by decide))
    | exact HB.out.same _ (by decide) (by decide)
    | exact hK _ (HB.out.quiet hu _ (by decide) (by decide))
    | exact HB.out.quiet hu _ (by decide) (by decide)
  · exact ⟨_, rfl⟩
  -- 6
  apply headE_val0 rfl rfl
  · intro d r0 K hd hdep hK w5 hB1
    have HB := Lib.hid hB1
    clear hB1 hdep
    go_wp2_with (go_at_call 15; refine (lreg_any y Ry.out _).mono ?_; rintro e w6 ⟨rfl, hu⟩)
    first
    | exact hK _ (HB.out.same _ (by decide) (by decide))
    | exact HB.out.same _ (by decide) (by decide)
    | exact hK _ (HB.out.quiet hu _ (by decide) (by decide))
    | exact HB.out.quiet hu _ (by decide) (by decide)
  · exact ⟨_, rfl⟩
  -- 7
  apply headE_val0 rfl rfl
  · intro d r0 K hd hdep hK w5 hB1
    have HB := Lib.hid hB1
    clear hB1 hdep
    go_wp2_with fail
    first
    | exact hK _ (HB.out.same _ (by decide) (by decide))
    | exact HB.out.same _ (by decide) (by decide)
    | exact hK _ (HB.out.quiet hu _ (by decide) (by decide))
    | exact HB.out.quiet hu _ (by decide) (by decide)
  · exact ⟨_, rfl⟩
  refine headE_free rfl (fun _ => rfl) 26 rfl (by simp [Act.put]) ?_ ?_
  · intro d r0 K hd w5 hB1 hK
    have HB := Lib.hid hB1
    clear hB1
    simp only [fillE]
    go_wp2_with fail
    first
    | exact hK (.pointer (some ⟨w5.heap.size, 0, none⟩)) _ (HB.out.lay hd)
    | exact HB.out.lay hd
  apply headE_val rfl (fun _ => rfl)
  · intro d r0 K hd hdep hK w5 hB1
    have h8 : d 8 = true := hdep ⟨8, .data⟩ (by simp) rfl
    obtain ⟨g, Z, e1, e2, e3, e4, e5⟩ := hB1.x h8
    refine wp_store_ins ⟨k + 3, 0, regO x, regO y, false, 2⟩ g _ _ rfl (by show r0 8 = _; exact e1) rfl e2 e3 ?_
    intro w6 hw6
    rw [← hw6]
    exact hK _ (hB1.store h8 e1 e2 e3 e5)
  · exact ⟨_, fun _ => rfl, rfl⟩
  refine headE_nil (fun _ r0 w5 d hall hB1 => ?_)
  obtain ⟨g5, e1, hG⟩ := hB1.fin (hall 8 (by decide)) (hall 9 (by decide))
  have G5 := Lib.hid hG
  show wpList _ _ _ _ (Act.put (fillE _ _ [] _) (some 26) (r0 8)) _
  rw [e1]
  simp only [fillE]
  clear hG e1 hall hB1
  go_wp2_with fail
  refine wp_drawE 10 (GrD w w0.heap.size (.cells grTbl 40) [(g5, ⟨k + 3, 0, regO x, regO y, false, 2⟩), (w4.heap.size, ⟨k + 3, 0, regO x, immO (sx8 (by0 v)), false, 3⟩), (w3.heap.size, ⟨k + 3, 0, regO 0, immO v, false, 5⟩), (w2.heap.size, ⟨k + 3, 0, regO y, regO x, false, 2⟩), (w1.heap.size, ⟨k + 3, 0, regO x, regO y, false, 2⟩)] ⟨k + 3, 0, regO y, regO x, false, 2⟩ 8 9) (fun _ _ => False) (by kernel_rfl) (by decide +kernel) (fun r0 => GrD.start (G5.out.step (Upd.refl [] _).drew) (by decide) r0) (fun _ _ _ h => h.elim) ?_
  simp only [List.take_succ_cons, List.take_zero, List.drop_succ_cons, List.drop_zero]
  clear G5
  -- 0
  apply headE_val0 rfl rfl
  · intro d r0 K hd hdep hK w5 hB1
    have HB := Lib.hid hB1
    clear hB1 hdep
    go_wp2_with fail
    first
    | exact hK _ (HB.out.same _ (by decide) (by decide))
    | exact HB.out.same _ (by decide) (by decide)
    | exact hK _ (HB.out.quiet hu _ (by decide) (by decide))
    | exact HB.out.quiet hu _ (by decide) (by decide)
  · exact ⟨_, rfl⟩
  -- 1
  apply headE_val0 rfl rfl
  · intro d r0 K hd hdep hK w5 hB1
    have HB := Lib.hid hB1
    clear hB1 hdep
    go_wp2_with fail
    first
    | exact hK _ (HB.out.same _ (by decide) (by decide))
    | exact HB.out.same _ (by decide) (by decide)
    | exact hK _ (HB.out.quiet hu _ (by decide) (by decide))
    | exact HB.out.quiet hu _ (by decide) (by decide)
  · exact ⟨_, rfl⟩
  -- 2
  apply headE_val0 rfl rfl
  · intro d r0 K hd hdep hK w5 hB1
    have HB := Lib.hid hB1
    clear hB1 hdep
    have ct := cells_of HB.out.b.t (k.toNat)
    rw [hT] at ct
    go_wp2_with fail
    first
    | exact hK _ (HB.out.same _ (by decide) (by decide))
    | exact HB.out.same _ (by decide) (by decide)
    | exact hK _ (HB.out.quiet hu _ (by decide) (by decide))
    | exact HB.out.quiet hu _ (by decide) (by decide)
  · exact ⟨_, rfl⟩
  -- 3
  apply headE_val0 rfl rfl
  · intro d r0 K hd hdep hK w5 hB1
    have HB := Lib.hid hB1
    clear hB1 hdep
    go_wp2_with fail
    first
    | exact hK _ (HB.out.same _ (by decide) (by decide))
    | exact HB.out.same _ (by decide) (by decide)
    | exact hK _ (HB.out.quiet hu _ (by decide) (by decide))
    | exact HB.out.quiet hu _ (by decide) (by decide)
  · exact ⟨_, rfl⟩
  -- 4
  apply headE_val0 rfl rfl
  · intro d r0 K hd hdep hK w5 hB1
    have HB := Lib.hid hB1
    clear hB1 hdep
    go_wp2_with (go_at_call 15; refine (lreg_any y Ry.out _).mono ?_; rintro e w6 ⟨rfl, hu⟩)
    first
    | exact hK _ (HB.out.same _ (by decide) (by decide))
    | exact HB.out.same _ (by decide) (by decide)
    | exact hK _ (HB.out.quiet hu _ (by decide) (by decide))
    | exact HB.out.quiet hu _ (by decide) (by decide)
  · exact ⟨_, rfl⟩
  -- 5
  apply headE_val0 rfl rfl
  · intro d r0 K hd hdep hK w5 hB1
    have HB := Lib.hid hB1
    clear hB1 hdep
    go_wp2_with fail
    first
    | exact hK _ (HB.out.same _ (by decide) (by decide))
    | exact HB.out.same _ (by decide) (by decide)
    | exact hK _ (HB.out.quiet hu _ (by decide) (by decide))
    | exact HB.out.quiet hu _ (by decide) (by decide)
  · exact ⟨_, rfl⟩
  -- 6
  apply headE_val0 rfl rfl
  · intro d r0 K hd hdep hK w5 hB1
    have HB := Lib.hid hB1
    clear hB1 hdep
    go_wp2_with (go_at_call 15; refine (lreg_any x Rx.out _).mono ?_; rintro e w6 ⟨rfl, hu⟩)
    first
    | exact hK _ (HB.out.same _ (by decide) (by decide))
    | exact HB.out.same _ (by decide) (by decide)
    | exact hK _ (HB.out.quiet hu _ (by decide) (by decide))
    | exact HB.out.quiet hu _ (by decide) (by decide)
  · exact ⟨_, rfl⟩
  -- 7
  apply headE_val0 rfl rfl
  · intro d r0 K hd hdep hK w5 hB1
    have HB := Lib.hid hB1
    clear hB1 hdep
    go_wp2_with fail
    first
    | exact hK _ (HB.out.same _ (by decide) (by decide))
    | exact HB.out.same _ (by decide) (by decide)
    | exact hK _ (HB.out.quiet hu _ (by decide) (by decide))
    | exact HB.out.quiet hu _ (by decide) (by decide)
  · exact ⟨_, rfl⟩
  refine headE_free rfl (fun _ => rfl) 27 rfl (by simp [Act.put]) ?_ ?_
  · intro d r0 K hd w5 hB1 hK
    have HB := Lib.hid hB1
    clear hB1
    simp only [fillE]
    go_wp2_with fail
    first
    | exact hK (.pointer (some ⟨w5.heap.size, 0, none⟩)) _ (HB.out.lay hd)
    | exact HB.out.lay hd
  apply headE_val rfl (fun _ => rfl)
  · intro d r0 K hd hdep hK w5 hB1
    have h8 : d 8 = true := hdep ⟨8, .data⟩ (by simp) rfl
    obtain ⟨g, Z, e1, e2, e3, e4, e5⟩ := hB1.x h8
    refine wp_store_ins ⟨k + 3, 0, regO y, regO x, false, 2⟩ g _ _ rfl (by show r0 8 = _; exact e1) rfl e2 e3 ?_
    intro w6 hw6
    rw [← hw6]
    exact hK _ (hB1.store h8 e1 e2 e3 e5)
  · exact ⟨_, fun _ => rfl, rfl⟩
  refine headE_nil (fun _ r0 w5 d hall hB1 => ?_)
  obtain ⟨g6, e1, hG⟩ := hB1.fin (hall 8 (by decide)) (hall 9 (by decide))
  have G6 := Lib.hid hG
  show wpList _ _ _ _ (Act.put (fillE _ _ [] _) (some 27) (r0 8)) _
  rw [e1]
  simp only [fillE]
  clear hG e1 hall hB1
  go_wp2_with fail
  refine wp_draw 80 (fun w6 => Gr w w0.heap.size (.cells grTbl 40) [(g6, ⟨k + 3, 0, regO y, regO x, false, 2⟩), (g5, ⟨k + 3, 0, regO x, regO y, false, 2⟩), (w4.heap.size, ⟨k + 3, 0, regO x, immO (sx8 (by0 v)), false, 3⟩), (w3.heap.size, ⟨k + 3, 0, regO 0, immO v, false, 5⟩), (w2.heap.size, ⟨k + 3, 0, regO y, regO x, false, 2⟩), (w1.heap.size, ⟨k + 3, 0, regO x, regO y, false, 2⟩)] w6) (fun _ _ => False) (by kernel_rfl) (by decide +kernel) (G6.out.step (Upd.refl [] _).drew) (fun _ _ _ h => h.elim) ?_
  simp only [List.take_succ_cons, List.take_zero, List.drop_succ_cons, List.drop_zero]
  clear G6
  iterate 7
    apply headW_val rfl rfl
    · intro K hK w6 hB1
      have HB := Lib.hid hB1
      clear hB1
      go_wp2_with fail
      first
      | exact hK _ HB.out
      | exact HB.out
    · exact ⟨_, rfl⟩
  iterate 1
    apply headW_val rfl rfl
    · intro K hK w6 hB1
      have HB := Lib.hid hB1
      clear hB1
      refine wp_load_ins ⟨k + 3, 0, regO x, regO y, false, 2⟩ w1.heap.size _ rfl rfl (HB.out.i (w1.heap.size, ⟨k + 3, 0, regO x, regO y, false, 2⟩) (by simp)) ?_
      first
      | exact hK _ HB.out
      | exact HB.out
    · exact ⟨_, rfl⟩
  iterate 1
    apply headW_val rfl rfl
    · intro K hK w6 hB1
      have HB := Lib.hid hB1
      clear hB1
      refine wp_load_ins ⟨k + 3, 0, regO x, regO y, false, 2⟩ g5 _ rfl rfl (HB.out.i (g5, ⟨k + 3, 0, regO x, regO y, false, 2⟩) (by simp)) ?_
      first
      | exact hK _ HB.out
      | exact HB.out
    · exact ⟨_, rfl⟩
  iterate 11
    apply headW_val rfl rfl
    · intro K hK w6 hB1
      have HB := Lib.hid hB1
      clear hB1
      go_wp2_with fail
      first
      | exact hK _ HB.out
      | exact HB.out
    · exact ⟨_, rfl⟩
  iterate 1
    apply headW_val rfl rfl
    · intro K hK w6 hB1
      have HB := Lib.hid hB1
      clear hB1
      refine wp_load_ins ⟨k + 3, 0, regO y, regO x, false, 2⟩ w2.heap.size _ rfl rfl (HB.out.i (w2.heap.size, ⟨k + 3, 0, regO y, regO x, false, 2⟩) (by simp)) ?_
      first
      | exact hK _ HB.out
      | exact HB.out
    · exact ⟨_, rfl⟩
  iterate 1
    apply headW_val rfl rfl
    · intro K hK w6 hB1
      have HB := Lib.hid hB1
      clear hB1
      refine wp_load_ins ⟨k + 3, 0, regO y, regO x, false, 2⟩ g6 _ rfl rfl (HB.out.i (g6, ⟨k + 3, 0, regO y, regO x, false, 2⟩) (by simp)) ?_
      first
      | exact hK _ HB.out
      | exact HB.out
    · exact ⟨_, rfl⟩
  iterate 13
    apply headW_val rfl rfl
    · intro K hK w6 hB1
      have HB := Lib.hid hB1
      clear hB1
      go_wp2_with fail
      first
      | exact hK _ HB.out
      | exact HB.out
    · exact ⟨_, rfl⟩
  iterate 1
    apply headW_val rfl rfl
    · intro K hK w6 hB1
      have HB := Lib.hid hB1
      clear hB1
      have c1 := cells_of (HB.out.i (w3.heap.size, ⟨k + 3, 0, regO 0, immO v, false, 5⟩) (by simp))
      unfold Ins.cells at c1
      dsimp only [immO, regO, Opd.none] at c1
      go_wp2_with fail
      first
      | exact hK _ HB.out
      | exact HB.out
    · exact ⟨_, rfl⟩
  iterate 5
    apply headW_val rfl rfl
    · intro K hK w6 hB1
      have HB := Lib.hid hB1
      clear hB1
      go_wp2_with fail
      first
      | exact hK _ HB.out
      | exact HB.out
    · exact ⟨_, rfl⟩
  iterate 1
    apply headW_val rfl rfl
    · intro K hK w6 hB1
      have HB := Lib.hid hB1
      clear hB1
      refine wp_load_opd_mid (regO 0) w3.heap.size 2 _ rfl rfl (opd_range (HB.out.i (w3.heap.size, ⟨k + 3, 0, regO 0, immO v, false, 5⟩) (by simp))).1 ?_
      first
      | exact hK _ HB.out
      | exact HB.out
    · exact ⟨_, rfl⟩
  iterate 1
    apply headW_val rfl rfl
    · intro K hK w6 hB1
      have HB := Lib.hid hB1
      clear hB1
      go_wp2_with (go_at_call 15; refine (lreg_any 0 (by decide) _).mono ?_; rintro e w7 ⟨rfl, hu⟩)
      first
      | exact hK _ (HB.out.step hu)
      | exact HB.out.step hu
    · exact ⟨_, rfl⟩
  iterate 4
    apply headW_val rfl rfl
    · intro K hK w6 hB1
      have HB := Lib.hid hB1
      clear hB1
      go_wp2_with fail
      first
      | exact hK _ HB.out
      | exact HB.out
    · exact ⟨_, rfl⟩
  iterate 1
    apply headW_val rfl rfl
    · intro K hK w6 hB1
      have HB := Lib.hid hB1
      clear hB1
      have c1 := cells_of (HB.out.i (w3.heap.size, ⟨k + 3, 0, regO 0, immO v, false, 5⟩) (by simp))
      unfold Ins.cells at c1
      dsimp only [immO, regO, Opd.none] at c1
      go_wp2_with fail
      first
      | exact hK _ HB.out
      | exact HB.out
    · exact ⟨_, rfl⟩
  iterate 2
    apply headW_val rfl rfl
    · intro K hK w6 hB1
      have HB := Lib.hid hB1
      clear hB1
      go_wp2_with fail
      first
      | exact hK _ HB.out
      | exact HB.out
    · exact ⟨_, rfl⟩
  iterate 1
    apply headW_val rfl rfl
    · intro K hK w6 hB1
      have HB := Lib.hid hB1
      clear hB1
      have ct := cells_of HB.out.t (k.toNat)
      rw [hT] at ct
      go_wp2_with fail
      first
      | exact hK _ HB.out
      | exact HB.out
    · exact ⟨_, rfl⟩
  iterate 13
    apply headW_val rfl rfl
    · intro K hK w6 hB1
      have HB := Lib.hid hB1
      clear hB1
      go_wp2_with fail
      first
      | exact hK _ HB.out
      | exact HB.out
    · exact ⟨_, rfl⟩
  iterate 1
    apply headW_val rfl rfl
    · intro K hK w6 hB1
      have HB := Lib.hid hB1
      clear hB1
      have c1 := cells_of (HB.out.i (w4.heap.size, ⟨k + 3, 0, regO x, immO (sx8 (by0 v)), false, 3⟩) (by simp))
      unfold Ins.cells at c1
      dsimp only [immO, regO, Opd.none] at c1
      go_wp2_with fail
      first
      | exact hK _ HB.out
      | exact HB.out
    · exact ⟨_, rfl⟩
  iterate 3
    apply headW_val rfl rfl
    · intro K hK w6 hB1
      have HB := Lib.hid hB1
      clear hB1
      go_wp2_with fail
      first
      | exact hK _ HB.out
      | exact HB.out
    · exact ⟨_, rfl⟩
  iterate 1
    apply headW_val rfl rfl
    · intro K hK w6 hB1
      have HB := Lib.hid hB1
      clear hB1
      have HKK := Lib.hid hK
      clear hK
      go_wp2_with fail
      rw [q8]
      exact HKK.out _ HB.out
    · exact ⟨_, rfl⟩
  iterate 4
    apply headW_val rfl rfl
    · intro K hK w6 hB1
      have HB := Lib.hid hB1
      clear hB1
      go_wp2_with fail
      first
      | exact hK _ HB.out
      | exact HB.out
    · exact ⟨_, rfl⟩
  iterate 1
    apply headW_val rfl rfl
    · intro K hK w6 hB1
      have HB := Lib.hid hB1
      clear hB1
      have c1 := cells_of (HB.out.i (w4.heap.size, ⟨k + 3, 0, regO x, immO (sx8 (by0 v)), false, 3⟩) (by simp))
      unfold Ins.cells at c1
      dsimp only [immO, regO, Opd.none] at c1
      go_wp2_with fail
      first
      | exact hK _ HB.out
      | exact HB.out
    · exact ⟨_, rfl⟩
  iterate 2
    apply headW_val rfl rfl
    · intro K hK w6 hB1
      have HB := Lib.hid hB1
      clear hB1
      go_wp2_with fail
      first
      | exact hK _ HB.out
      | exact HB.out
    · exact ⟨_, rfl⟩
  iterate 1
    apply headW_val rfl rfl
    · intro K hK w6 hB1
      have HB := Lib.hid hB1
      clear hB1
      have ct := cells_of HB.out.t (k.toNat)
      rw [hT] at ct
      go_wp2_with fail
      first
      | exact hK _ HB.out
      | exact HB.out
    · exact ⟨_, rfl⟩
  iterate 3
    apply headW_val rfl rfl
    · intro K hK w6 hB1
      have HB := Lib.hid hB1
      clear hB1
      go_wp2_with fail
      first
      | exact hK _ HB.out
      | exact HB.out
    · exact ⟨_, rfl⟩
  refine headW_nil (fun _ w7 hB1 => ?_)
  have HB := Lib.hid hB1
  clear hB1
  go_wp2_with fail
  go_ret
  exact ⟨rfl, HB.out.u⟩
end Go.Proofs.Ytpockhoacfkjaaa
