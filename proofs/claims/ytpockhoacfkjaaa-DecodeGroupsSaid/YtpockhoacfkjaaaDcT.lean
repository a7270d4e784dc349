/-
  The check of known answers of the laws on the decoder, by its contract.
-/
import Derived.Test.YtpockhoacfkjaaaDcR
namespace Go.Proofs.Ytpockhoacfkjaaa
open Go Go.RowKit
set_option linter.unusedVariables false
set_option linter.unusedSimpArgs false

theorem BOk_of {L : List Int} (h : L.all (fun x => decide (0 ≤ x) && decide (x ≤ 255)) = true) : BOk L := by
  intro i
  rw [List.getD_eq_getElem?_getD]
  by_cases hi : i < L.length
  · rw [List.getElem?_eq_getElem hi, Option.getD_some]
    have := List.all_eq_true.1 h _ (List.getElem_mem hi)
    simpa using this
  · rw [List.getElem?_eq_none (by omega), Option.getD_none]
    exact ⟨by decide, by decide⟩

/-- A slice of bytes, new. -/
theorem barg_new (w : World) (L : List Int) (C : Array Value) (T : TypeId) (hC : ∀ i, i < L.length → C[i]? = some (.int .u8 (L.getD i 0))) (hr : L.all (fun x => decide (0 ≤ x) && decide (x ≤ 255)) = true) (hn : L.length ≤ maxLen) :
    BArg (w.alloc (.cells C T)) (.slice (some ⟨w.heap.size, 0, none⟩) L.length L.length) L w.heap.size := by
  refine ⟨.inr ⟨0, _, C, T, _, rfl, heap_alloc_new w _, fun i hi => by rw [Nat.zero_add]; exact hC i hi⟩, hn, BOk_of hr, fun b n c h => ?_, by simp⟩
  injection h with _ h1 h2
  omega

theorem kd_1_216_144 : decI [1, 216, 144] = ⟨3, 0, regO 0, regO 3, false, 2⟩ ∧ decN [1, 216, 144] = 2 ∧ decE [1, 216, 144] = 0 := ⟨rfl, rfl, rfl⟩
theorem kd_129 : decI [129] = Ins.zero ∧ decN [129] = 0 ∧ decE [129] = 10 := ⟨rfl, rfl, rfl⟩
theorem kd_15_11 : decI [15, 11] = Ins.zero ∧ decN [15, 11] = 0 ∧ decE [15, 11] = 90 := ⟨rfl, rfl, rfl⟩
theorem kd_244 : decI [244] = Ins.zero ∧ decN [244] = 0 ∧ decE [244] = 12 := ⟨rfl, rfl, rfl⟩
theorem kk_15_11 : kindM [15, 11] = 3 := rfl
theorem kk_244 : kindM [244] = 4 := rfl
theorem kk_144 : kindM [144] = 0 := rfl

theorem kb_1_216_144 (w : World) (T : TypeId) : BArg (w.alloc (.cells #[.int .u8 1, .int .u8 216, .int .u8 144] T)) (.slice (some ⟨w.heap.size, 0, none⟩) 3 3) [1, 216, 144] w.heap.size :=
  barg_new w [1, 216, 144] #[.int .u8 1, .int .u8 216, .int .u8 144] T (by intro i hi; have h : i = 0 ∨ i = 1 ∨ i = 2 := (by simp at hi; omega); rcases h with rfl | rfl | rfl <;> rfl) (by decide) (by unfold maxLen; decide)

theorem kb_129 (w : World) (T : TypeId) : BArg (w.alloc (.cells #[.int .u8 129] T)) (.slice (some ⟨w.heap.size, 0, none⟩) 1 1) [129] w.heap.size :=
  barg_new w [129] #[.int .u8 129] T (by intro i hi; have h : i = 0 := (by simp at hi; omega); rcases h with rfl <;> rfl) (by decide) (by unfold maxLen; decide)

theorem kb_15_11 (w : World) (T : TypeId) : BArg (w.alloc (.cells #[.int .u8 15, .int .u8 11] T)) (.slice (some ⟨w.heap.size, 0, none⟩) 2 2) [15, 11] w.heap.size :=
  barg_new w [15, 11] #[.int .u8 15, .int .u8 11] T (by intro i hi; have h : i = 0 ∨ i = 1 := (by simp at hi; omega); rcases h with rfl | rfl <;> rfl) (by decide) (by unfold maxLen; decide)

theorem kb_244 (w : World) (T : TypeId) : BArg (w.alloc (.cells #[.int .u8 244] T)) (.slice (some ⟨w.heap.size, 0, none⟩) 1 1) [244] w.heap.size :=
  barg_new w [244] #[.int .u8 244] T (by intro i hi; have h : i = 0 := (by simp at hi; omega); rcases h with rfl <;> rfl) (by decide) (by unfold maxLen; decide)

theorem kb_144 (w : World) (T : TypeId) : BArg (w.alloc (.cells #[.int .u8 144] T)) (.slice (some ⟨w.heap.size, 0, none⟩) 1 1) [144] w.heap.size :=
  barg_new w [144] #[.int .u8 144] T (by intro i hi; have h : i = 0 := (by simp at hi; omega); rcases h with rfl <;> rfl) (by decide) (by unfold maxLen; decide)

set_option maxRecDepth 100000 in
set_option maxHeartbeats 8000000 in
theorem known10_any (w : World) : Calls Try.prog 11 #[] w fun e w' => e = .returned (.bool true) ∧ Upd [] w w' := by
  have U0 := Lib.hid (Upd.refl [] w)
  go_enter Try.func11, Try.ntmps11
  go_wp2_with (first | (have _t := U0; clear _t; go_at_call 12; refine (Decode_any _ [1, 216, 144] _ _ (kb_1_216_144 w _)).mono ?_; rintro e w1 ⟨rfl, hu⟩; rw [kd_1_216_144.1, kd_1_216_144.2.1, kd_1_216_144.2.2]; have V1 := Lib.hid (((U0.out).alloc (.cells #[.int .u8 1, .int .u8 216, .int .u8 144] _)).also hu (by simp)); clear hu U0) | (have _t := V1; clear _t; refine at_store 28 rfl ?_; refine wpList_store_ins ⟨3, 0, regO 0, regO 3, false, 2⟩ w1.heap.size rfl _ _ rfl rfl rfl (heap_alloc_new w1 (.cells Ins.zero.cells 28)) rfl ?_; intro x1 hw; obtain ⟨z1, z2⟩ := ins_new (S := []) (w0 := w1) hw (heap_alloc_new w1 (.cells Ins.zero.cells 28)) rfl ((Upd.refl [] w1).alloc _) (.inr (Nat.le_refl _)); have U1 := Lib.hid (V1.out.also z2 (by simp)); have J1 := Lib.hid z1; have cj := cells_of z1; unfold Ins.cells regO at cj; clear z1 z2 hw V1) | (have _t := U1; clear _t; go_at_call 12; refine (Decode_any _ [129] _ _ (kb_129 x1 _)).mono ?_; rintro e w2 ⟨rfl, hu⟩; rw [kd_129.1, kd_129.2.1, kd_129.2.2]; have V2 := Lib.hid (((U1.out).alloc (.cells #[.int .u8 129] _)).also hu (by simp)); have J2 := Lib.hid (hu.get (heap_alloc_keep _ J1.out) (by simp)); clear J1; clear hu U1) | (have _t := V2; clear _t; refine at_store 28 rfl ?_; refine wpList_store_ins Ins.zero w2.heap.size rfl _ _ rfl rfl rfl (heap_alloc_new w2 (.cells Ins.zero.cells 28)) rfl ?_; intro x2 hw; obtain ⟨z1, z2⟩ := ins_new (S := []) (w0 := w2) hw (heap_alloc_new w2 (.cells Ins.zero.cells 28)) rfl ((Upd.refl [] w2).alloc _) (.inr (Nat.le_refl _)); have U2 := Lib.hid (V2.out.also z2 (by simp)); have J2x := Lib.hid (z2.get J2.out (by simp)); clear J2; have J2 := J2x; clear J2x; have cj := cells_of J2.out; unfold Ins.cells regO at cj; clear z1 z2 hw V2) | (have _t := U2; clear _t; go_at_call 12; refine (Decode_any _ [15, 11] _ _ (kb_15_11 x2 _)).mono ?_; rintro e w3 ⟨rfl, hu⟩; rw [kd_15_11.1, kd_15_11.2.1, kd_15_11.2.2]; have V3 := Lib.hid (((U2.out).alloc (.cells #[.int .u8 15, .int .u8 11] _)).also hu (by simp)); have J3 := Lib.hid (hu.get (heap_alloc_keep _ J2.out) (by simp)); clear J2; clear hu U2) | (have _t := V3; clear _t; refine at_store 28 rfl ?_; refine wpList_store_ins Ins.zero w3.heap.size rfl _ _ rfl rfl rfl (heap_alloc_new w3 (.cells Ins.zero.cells 28)) rfl ?_; intro x3 hw; obtain ⟨z1, z2⟩ := ins_new (S := []) (w0 := w3) hw (heap_alloc_new w3 (.cells Ins.zero.cells 28)) rfl ((Upd.refl [] w3).alloc _) (.inr (Nat.le_refl _)); have U3 := Lib.hid (V3.out.also z2 (by simp)); have J3x := Lib.hid (z2.get J3.out (by simp)); clear J3; have J3 := J3x; clear J3x; have cj := cells_of J3.out; unfold Ins.cells regO at cj; clear z1 z2 hw V3) | (have _t := U3; clear _t; go_at_call 12; refine (Decode_any _ [244] _ _ (kb_244 x3 _)).mono ?_; rintro e w4 ⟨rfl, hu⟩; rw [kd_244.1, kd_244.2.1, kd_244.2.2]; have V4 := Lib.hid (((U3.out).alloc (.cells #[.int .u8 244] _)).also hu (by simp)); have J4 := Lib.hid (hu.get (heap_alloc_keep _ J3.out) (by simp)); clear J3; clear hu U3) | (have _t := V4; clear _t; refine at_store 28 rfl ?_; refine wpList_store_ins Ins.zero w4.heap.size rfl _ _ rfl rfl rfl (heap_alloc_new w4 (.cells Ins.zero.cells 28)) rfl ?_; intro x4 hw; obtain ⟨z1, z2⟩ := ins_new (S := []) (w0 := w4) hw (heap_alloc_new w4 (.cells Ins.zero.cells 28)) rfl ((Upd.refl [] w4).alloc _) (.inr (Nat.le_refl _)); have U4 := Lib.hid (V4.out.also z2 (by simp)); have J4x := Lib.hid (z2.get J4.out (by simp)); clear J4; have J4 := J4x; clear J4x; have cj := cells_of J4.out; unfold Ins.cells regO at cj; clear z1 z2 hw V4) | (have _t := U4; clear _t; go_at_call 14; refine (Kind_any _ [15, 11] _ _ (kb_15_11 x4 _)).mono ?_; rintro e w5 ⟨rfl, hu⟩; rw [kk_15_11]; have U5 := Lib.hid (((U4.out).alloc (.cells #[.int .u8 15, .int .u8 11] _)).also hu (by simp)); clear hu U4) | (have _t := U5; clear _t; go_at_call 14; refine (Kind_any _ [244] _ _ (kb_244 w5 _)).mono ?_; rintro e w6 ⟨rfl, hu⟩; rw [kk_244]; have U6 := Lib.hid (((U5.out).alloc (.cells #[.int .u8 244] _)).also hu (by simp)); clear hu U5) | (have _t := U6; clear _t; go_at_call 14; refine (Kind_any _ [144] _ _ (kb_144 w6 _)).mono ?_; rintro e w7 ⟨rfl, hu⟩; rw [kk_144]; have U7 := Lib.hid (((U6.out).alloc (.cells #[.int .u8 144] _)).also hu (by simp)); clear hu U6))
  go_ret
  exact ⟨rfl, U7.out⟩

end Go.Proofs.Ytpockhoacfkjaaa
