/-
  The law PageRights: the walk.
-/
import Derived.Test.YtncafchgdgmeaaaPgS
import Derived.Outline
namespace Go.Proofs.Ytncafchgdgmeaaa
open Go Go.RowKit
set_option linter.unusedVariables false
set_option linter.unusedSimpArgs false

def r3 (x0 x1 x2 : Int) (j : Nat) : Int := if j = 0 then x0 else if j = 1 then x1 else x2

theorem Upd4 (w : World) (g : Nat) (u0 u1 u2 u3 : Value) : Upd [g] w ((((w.setCell ⟨g, 0, none⟩ u0).setCell ⟨g, 0 + 1, none⟩ u1).setCell ⟨g, 0 + 2, none⟩ u2).setCell ⟨g, 0 + 3, none⟩ u3) :=
  ((((Upd.refl _ _).setCell (by simp) _).setCell (by simp) _).setCell (by simp) _).setCell (by simp) _

set_option maxRecDepth 100000 in
set_option maxHeartbeats 4000000 in
theorem PageRights_walk (x0 x1 x2 a1 a2 a3 : Int) (h0 : 0 ≤ x0) (h1 : 0 ≤ x1) (h2 : 0 ≤ x2) (k0 : x0 < 256) (k1 : x1 < 256) (k2 : x2 < 256) (hb : 0 ≤ a1) (hb2 : a1 < 65536) (hc : 0 ≤ a2) (hd : 0 ≤ a3) (he : a3 < 4294967296) (w : World) :
    Calls Try.prog 3 #[.agg #[.int .u8 x0, .int .u8 x1, .int .u8 x2], .int .u16 a1, .int .u8 a2, .int .u32 a3] w fun e w' => e = .returned (.bool true) ∧ Upd [] w w' := by
  have hmo : Try.prog.follows .mixedOrders = true := by kernel_rfl
  obtain ⟨z, hz, hz1⟩ : ∃ z : Nat, a1 % 768 = z ∧ z < 768 := ⟨(a1 % 768).toNat, by omega, by omega⟩
  obtain ⟨t, ht, ht1⟩ : ∃ t : Nat, a2 % 3 = t ∧ t < 3 := ⟨(a2 % 3).toNat, by omega, by omega⟩
  obtain ⟨n, hix, hn⟩ : ∃ n : Nat, (∀ w : World, (Instr.index 30 (.agg #[.int .i64 1, .int .i64 2, .int .i64 4]) (.int .u8 t)).run Try.prog w = .ok (.int .i64 n) w) ∧ (n = 1 ∨ n = 2 ∨ n = 4) := by
    rcases (show t = 0 ∨ t = 1 ∨ t = 2 by omega) with rfl | rfl | rfl
    · exact ⟨1, fun _ => by kernel_rfl, .inl rfl⟩
    · exact ⟨2, fun _ => by kernel_rfl, .inr (.inl rfl)⟩
    · exact ⟨4, fun _ => by kernel_rfl, .inr (.inr rfl)⟩
  have q1 : (1024 + (z : Int)) % 4294967296 = 1024 + z := by omega
  have hn1 : 1 ≤ n := by omega
  have hn4 : n ≤ 4 := by omega
  go_enter Try.func3, Try.ntmps3
  go_wp2_with (first | (go_at_call 14; refine (known_any _).mono ?_; rintro e u0 ⟨rfl, hu0⟩) | (go_at_call 15; refine (New_any _).mono ?_; rintro e u1 ⟨a, pb, rfl, ha, hp, hM1, hu1⟩))
  have hbx : u1.heap[w.heap.size]? = some (.cells #[.int .u8 x0, .int .u8 x1, .int .u8 x2] 22 (0, 0)) := hu1.get (hu0.get (heap_alloc_new _ _) (by simp)) (by simp)
  have HX := Lib.hid hbx
  have HM1 := Lib.hid hM1
  have HU1 := Lib.hid (show Upd [] w u1 from ((Upd.refl [] w).alloc _ |>.also hu0 (by simp)).also hu1 (by simp))
  have HA := Lib.hid (show w.heap.size < a ∧ w.heap.size < pb by have := hu0.size; simp at this; omega)
  clear hbx hM1 hu1 hu0 ha hp
  go_loopw [10] (fun i wr => ∃ j : Nat, j ≤ 3 ∧ i = .int .i64 j ∧ IsMem wr a pb (prM (r3 x0 x1 x2) j) ∧ Upd [] w wr ∧ wr.heap[w.heap.size]? = some (.cells #[.int .u8 x0, .int .u8 x1, .int .u8 x2] 22 (0, 0))) (fun i _ => 3 - (intOf i).toNat)
  case atStart => exact ⟨0, by omega, rfl, by rw [prM_zero]; exact HM1.out, HU1.out, HX.out⟩
  case round =>
    obtain ⟨j, hj, rfl, hM, hU, hbx⟩ := hrel
    clear HM1 HU1 HX
    have HM := Lib.hid hM
    have HU := Lib.hid hU
    have HX := Lib.hid hbx
    clear hM hU hbx
    by_cases hlt : j < 3
    · obtain ⟨x, hx, hx0, hx1⟩ : ∃ x, r3 x0 x1 x2 j = x ∧ 0 ≤ x ∧ x < 256 := ⟨_, rfl, by unfold r3; split <;> (try split) <;> omega, by unfold r3; split <;> (try split) <;> omega⟩
      have cx : wr.cell? ⟨w.heap.size, j, none⟩ = some (.int .u8 x) := by
        rw [cells_of HX.out, ← hx]
        match j, hlt with
        | 0, _ => rfl
        | 1, _ => rfl
        | 2, _ => rfl
      have HXX := Lib.hid hx
      clear hx
      by_cases hr : 0 < x % 8
      · have hmb : (prM (r3 x0 x1 x2) j).mapB (4 + j) 1 (x % 8) = true := by
          have := prM_map (r3 x0 x1 x2) j hlt (by rw [HXX.out]; exact hr)
          rw [HXX.out] at this; exact this
        have HMB := Lib.hid hmb
        clear hmb
        go_wp2_with (go_at_call 16; refine (Map_yes (prM (r3 x0 x1 x2) j) a pb (4 + j) 1 (x % 8) _ HM.out (by decide) HMB.out).mono ?_; rintro e w2 ⟨rfl, hM2, hU2⟩; have HM2 := Lib.hid hM2; have HU2 := Lib.hid hU2; clear hM2 hU2)
        go_roundw
        case rel =>
          refine ⟨j + 1, by omega, by go_num, ?_, HU.out.also HU2.out (by have := HA.out; simp; omega), HU2.out.get HX.out (by have := HM.out.pl; have := lt_of_heap HX.out; have := HA.out; simp; omega)⟩
          have h := HM2.out
          rw [← HXX.out, show ((4 : Int) + j).toNat = 4 + j from by omega, show (1 : Int).toNat = 1 from rfl, prM_yes] at h
          exact h
        case measure => simp [intOf]; omega
      · have hr0 : x % 8 = 0 := by omega
        go_wp2_with fail
        go_roundw
        case rel => exact ⟨j + 1, by omega, by go_num, by rw [← prM_no _ _ (by rw [HXX.out]; exact hr0)]; exact HM.out, HU.out, HX.out⟩
        case measure => simp [intOf]; omega
    · obtain rfl : j = 3 := by omega
      rw [show ((3 : Nat) : Int) = 3 from rfl]
      go_wp2_with fail
      clear ht hz hix
      go_loopw [55] (fun i wr => ∃ k : Nat, k ≤ 3 ∧ i = .int .i64 k ∧ (∃ M, IsMem wr a pb M ∧ M.R = (prM (r3 x0 x1 x2) 3).R) ∧ Upd [] w wr ∧ wr.heap[w.heap.size]? = some (.cells #[.int .u8 x0, .int .u8 x1, .int .u8 x2] 22 (0, 0))) (fun i _ => 3 - (intOf i).toNat)
      case atStart => exact ⟨0, by omega, rfl, ⟨_, HM.out, rfl⟩, HU.out, HX.out⟩
      case round =>
        clear HM HU HX
        obtain ⟨k, hk, rfl, ⟨M, hM, hMR⟩, hU, hbx⟩ := hrel
        have HM := Lib.hid hM
        have HU := Lib.hid hU
        have HX := Lib.hid hbx
        have HR := Lib.hid hMR
        clear hM hU hbx hMR
        by_cases hlt : k < 3
        · obtain ⟨r, hir, hr⟩ : ∃ r : Int, (∀ w : World, (Instr.index 30 (.agg #[.int .i64 1, .int .i64 2, .int .i64 4]) (.int .i64 k)).run Try.prog w = .ok (.int .i64 r) w) ∧ (r = 1 ∨ r = 2 ∨ r = 4) := by
            rcases (show k = 0 ∨ k = 1 ∨ k = 2 by omega) with rfl | rfl | rfl
            · exact ⟨1, fun _ => by kernel_rfl, .inl rfl⟩
            · exact ⟨2, fun _ => by kernel_rfl, .inr (.inl rfl)⟩
            · exact ⟨4, fun _ => by kernel_rfl, .inr (.inr rfl)⟩
          have hd3 : decide ((k : Int) < 3) = true := by simp; omega
          go_wp2_with fail
          obtain ⟨wo, hwo⟩ : ∃ wo : World, wo = wr := ⟨_, rfl⟩
          go_loopw [15, 16] (fun b i wr => ∃ (d : Nat) (c : Int), c + 1 + d = n ∧ -1 ≤ c ∧ i = .int .i64 c ∧ b = .int .i64 (badR M (1024 + z) r n d) ∧ IsMem wr a pb M ∧ Upd [] w wr ∧ wr.heap[w.heap.size]? = some (.cells #[.int .u8 x0, .int .u8 x1, .int .u8 x2] 22 (0, 0))) (fun _ i _ => (intOf i + 1).toNat)
          case atStart => exact ⟨0, n - 1, by omega, by omega, rfl, rfl, HM.out, HU.out, HX.out⟩
          case round =>
            clear HM HU HX hwo
            obtain ⟨d, c, hcd, hcm, rfl, rfl, hM, hU, hbx⟩ := hrel
            have HM := Lib.hid hM
            have HU := Lib.hid hU
            have HX := Lib.hid hbx
            have HC := Lib.hid hcd
            clear hM hU hbx hcd
            by_cases hc0 : 0 ≤ c
            · obtain ⟨i, rfl⟩ := Int.eq_ofNat_of_zero_le hc0
              have hi4 : i < 4 := by have := HC.out; omega
              have hdi : n - 1 - d = i := by have := HC.out; omega
              obtain ⟨kk, hkk, hkk4⟩ : ∃ kk : Nat, (z + i) / 256 = kk ∧ kk < 4 := ⟨_, rfl, by omega⟩
              have q2 : (1024 + (z : Int) + i) / 256 = kk + 4 := by omega
              have hb0 : bits .and .i64 0 r = 0 := by rcases hr with rfl | rfl | rfl <;> decide
              have hcan := pr_can (r3 x0 x1 x2) M HR.out z i hz1 hi4 r hb0
              rw [hkk] at hcan
              have HCN := Lib.hid hcan
              have HDI := Lib.hid hdi
              clear hkk hb0 hcan hdi
              by_cases hk2 : 2 < kk
              · go_wp2_with fail
                go_roundw
                case rel =>
                  refine ⟨d + 1, i - 1, by have := HC.out; omega, by omega, rfl, ?_, HM.out, HU.out, HX.out⟩
                  simp only [badR]
                  rw [HDI.out, HCN.out, if_pos hk2, if_neg (by simp)]
                case measure => simp [intOf] <;> omega
              · obtain ⟨x, hx, hx0, hx1⟩ : ∃ x, r3 x0 x1 x2 kk = x ∧ 0 ≤ x ∧ x < 256 := ⟨_, rfl, by unfold r3; split <;> (try split) <;> omega, by unfold r3; split <;> (try split) <;> omega⟩
                have cx : wr.cell? ⟨w.heap.size, kk, none⟩ = some (.int .u8 x) := by
                  rw [cells_of HX.out, ← hx]
                  match kk, hk2 with
                  | 0, _ => rfl
                  | 1, _ => rfl
                  | 2, _ => rfl
                  | _ + 3, h => exact absurd (by omega) h
                have hk3 : kk < 3 := by omega
                have HXX := Lib.hid hx
                clear hx
                cases hbit : (bits .and .i64 (x % 8) r == 0)
                · go_wp2_with fail
                  go_roundw
                  case rel =>
                    refine ⟨d + 1, i - 1, by have := HC.out; omega, by omega, rfl, ?_, HM.out, HU.out, HX.out⟩
                    simp only [badR]
                    rw [HDI.out, HCN.out, if_neg hk2, HXX.out, hbit]; simp
                  case measure => simp [intOf] <;> omega
                · go_wp2_with fail
                  go_roundw
                  case rel =>
                    refine ⟨d + 1, i - 1, by have := HC.out; omega, by omega, rfl, ?_, HM.out, HU.out, HX.out⟩
                    simp only [badR]
                    rw [HDI.out, HCN.out, if_neg hk2, HXX.out, hbit]; simp
                  case measure => simp [intOf] <;> omega
            · have hcd := HC.out
              obtain rfl : c = -1 := by have := HC.out; omega
              obtain rfl : n = d := by have := HC.out; omega
              rcases pr_out M (1024 + z) n r a3 hn (by omega) (by omega) with ⟨hB, hRd, hWr⟩ | ⟨i, hi4, hB, hRd, hWr⟩
              · rw [hB]
                have HRd := Lib.hid hRd
                have HWr := Lib.hid hWr
                clear hRd hWr hB
                by_cases hr2 : r = 2
                · subst hr2
                  have HW := Lib.hid (HWr.out rfl)
                  clear HWr HRd
                  go_wp2_with (first | (go_at_call 17; refine (Copy_any M a pb _ (HM.out.keep ((Upd.refl [] _).alloc _) (by simp) (by simp))).mono ?_; rintro e w2 ⟨b, qb, rfl, hb2, hqb, hN, hU2⟩) | (go_at_call 18; refine (Write_any M a pb (1024 + z) n a3 _ (HM.out.keep (((Upd.refl [] _).alloc _).also hU2 (by simp)) (by simp) (by simp)) (by omega) (by omega) (by omega) he).mono ?_; rintro e w3 ⟨rfl, hM3, hU3⟩; rw [HW.out.1, HW.out.2.1]; have hfb := hU3.get (hU2.get (heap_alloc_new _ _) (by simp)) (by have := HM.out.pl; simp; omega); have cfb : ∀ o, w3.cell? ⟨wr.heap.size, o, none⟩ = #[Value.int .i64 0, .int .u32 0, .int .u32 0, .int .i64 0][o]? := cells_of hfb; have ffb : ∀ o, w3.frozen? ⟨wr.heap.size, o, none⟩ = false := free_of hfb; have HFB := Lib.hid hfb; clear hfb))
                  have hnew : w.heap.size ≤ wr.heap.size := HU.out.size
                  have h1 := lt_of_heap HX.out
                  have h2 := HM.out.pl
                  have h3 := HM.out.al
                  have h4 := HA.out
                  have U3 : Upd [] w w3 := ((HU.out.alloc _).also hU2 (by simp)).also hU3 (by simp; omega)
                  have X3 := hU3.get (hU2.get (heap_alloc_keep _ HX.out) (by simp)) (by simp; omega)
                  have S4 : ∀ u0 u1 u2 u3, Upd [wr.heap.size] w3 ((((w3.setCell ⟨wr.heap.size, 0, none⟩ u0).setCell ⟨wr.heap.size, 0 + 1, none⟩ u1).setCell ⟨wr.heap.size, 0 + 2, none⟩ u2).setCell ⟨wr.heap.size, 0 + 3, none⟩ u3) := fun _ _ _ _ => ((((Upd.refl _ _).setCell (by simp) _).setCell (by simp) _).setCell (by simp) _).setCell (by simp) _
                  go_roundw
                  case rel => exact ⟨k + 1, by omega, by go_num, ⟨_, hM3.keep (S4 _ _ _ _) (by simp; omega) (by simp; omega), HW.out.2.2.trans HR.out⟩, U3.also (S4 _ _ _ _) (by simpa using hnew), (S4 _ _ _ _).get X3 (by simp; omega)⟩
                  case measure => simp [intOf]; omega
                · have hr3 : r = 1 ∨ r = 4 := by omega
                  have HW := Lib.hid (HRd.out hr3)
                  have er : (r == 2) = false := by simpa using hr2
                  clear HWr HRd
                  go_wp2_with (go_at_call 20; refine (Read_any M a pb (1024 + z) n r _ (HM.out.keep ((Upd.refl [] _).alloc _) (by simp) (by simp)) (by omega) (by omega)).mono ?_; rintro e w3 ⟨rfl, hU3⟩; rw [HW.out.1, HW.out.2]; have hfb := hU3.get (heap_alloc_new _ _) (by simp); have cfb : ∀ o, w3.cell? ⟨wr.heap.size, o, none⟩ = #[Value.int .i64 0, .int .u32 0, .int .u32 0, .int .i64 0][o]? := cells_of hfb; have ffb : ∀ o, w3.frozen? ⟨wr.heap.size, o, none⟩ = false := free_of hfb; have HFB := Lib.hid hfb; clear hfb)
                  have hnew : w.heap.size ≤ wr.heap.size := HU.out.size
                  have h1 := lt_of_heap HX.out
                  have h2 := HM.out.pl
                  have h3 := HM.out.al
                  have h4 := HA.out
                  have U3 : Upd [] w w3 := (HU.out.alloc _).also hU3 (by simp)
                  have X3 := hU3.get (heap_alloc_keep _ HX.out) (by simp)
                  have S4 : ∀ u0 u1 u2 u3, Upd [wr.heap.size] w3 ((((w3.setCell ⟨wr.heap.size, 0, none⟩ u0).setCell ⟨wr.heap.size, 0 + 1, none⟩ u1).setCell ⟨wr.heap.size, 0 + 2, none⟩ u2).setCell ⟨wr.heap.size, 0 + 3, none⟩ u3) := fun _ _ _ _ => ((((Upd.refl _ _).setCell (by simp) _).setCell (by simp) _).setCell (by simp) _).setCell (by simp) _
                  go_roundw
                  case rel => exact ⟨k + 1, by omega, by go_num, ⟨_, (HM.out.keep (((Upd.refl [] _).alloc _).also hU3 (by simp)) (by simp) (by simp)).keep (S4 _ _ _ _) (by simp; omega) (by simp; omega), HR.out⟩, U3.also (S4 _ _ _ _) (by simpa using hnew), (S4 _ _ _ _).get X3 (by simp; omega)⟩
                  case measure => simp [intOf]; omega
              · rw [hB]
                have HRd := Lib.hid hRd
                have HWr := Lib.hid hWr
                clear hRd hWr hB
                have qi : (i : Int) % 4294967296 = i := by omega
                have qa : (1024 + (z : Int) + i) % 4294967296 = 1024 + z + i := by omega
                have qn : decide ((i : Int) < 0) = false := by simp
                by_cases hr2 : r = 2
                · subst hr2
                  have HW := Lib.hid (HWr.out rfl)
                  clear HWr HRd
                  go_wp2_with (first | (go_at_call 17; refine (Copy_any M a pb _ (HM.out.keep ((Upd.refl [] _).alloc _) (by simp) (by simp))).mono ?_; rintro e w2 ⟨b, qb, rfl, hb2, hqb, hN, hU2⟩) | (go_at_call 18; refine (Write_any M a pb (1024 + z) n a3 _ (HM.out.keep (((Upd.refl [] _).alloc _).also hU2 (by simp)) (by simp) (by simp)) (by omega) (by omega) (by omega) he).mono ?_; rintro e w3 ⟨rfl, hM3, hU3⟩; rw [HW.out.1, HW.out.2.1]; have hfb := hU3.get (hU2.get (heap_alloc_new _ _) (by simp)) (by have := HM.out.pl; simp; omega); have cfb : ∀ o, w3.cell? ⟨wr.heap.size, o, none⟩ = #[Value.int .i64 0, .int .u32 0, .int .u32 0, .int .i64 0][o]? := cells_of hfb; have ffb : ∀ o, w3.frozen? ⟨wr.heap.size, o, none⟩ = false := free_of hfb; have HFB := Lib.hid hfb; clear hfb) | (go_at_call 19; refine (Same_any M M a b pb qb _ (by have h := hM3; rw [HW.out.2.2] at h; exact h.keep (Upd4 _ _ _ _ _ _) (by have := HM.out.al; simp; omega) (by have := HM.out.pl; simp; omega)) ((hN.keep hU3 (by have := HM.out.pl; simp at hb2; simp; omega) (by have := HM.out.pl; simp at hqb; simp; omega)).keep (Upd4 _ _ _ _ _ _) (by simp at hb2; simp; omega) (by simp at hqb; simp; omega))).mono ?_; rintro e w5 ⟨rfl, hU5⟩; rw [same_refl]; have hb5 : w5.heap[wr.heap.size]? = some (.cells #[Value.int .i64 1, .int .u32 0, .int .u32 (1024 + z + i), .int .i64 2] 32 (0, 0)) := hU5.get (heap_set_same (heap_set_same (heap_set_same (heap_set_same HFB.out 0 (.int .i64 1)) 1 (.int .u32 0)) 2 (.int .u32 (1024 + z + i))) 3 (.int .i64 2)) (by simp); have cb5 := cells_of hb5; have HB5 := Lib.hid hb5; clear hb5))
                  have hnew : w.heap.size ≤ wr.heap.size := HU.out.size
                  have h1 := lt_of_heap HX.out
                  have h2 := HM.out.pl
                  have h3 := HM.out.al
                  have h4 := HA.out
                  have U3 : Upd [] w w3 := ((HU.out.alloc _).also hU2 (by simp)).also hU3 (by simp; omega)
                  have X3 := hU3.get (hU2.get (heap_alloc_keep _ HX.out) (by simp)) (by simp; omega)
                  have U5 := (U3.also (Upd4 w3 wr.heap.size (.int .i64 1) (.int .u32 0) (.int .u32 (1024 + z + i)) (.int .i64 2)) (by simpa using hnew)).also hU5 (by simp)
                  have X5 := hU5.get ((Upd4 w3 wr.heap.size (.int .i64 1) (.int .u32 0) (.int .u32 (1024 + z + i)) (.int .i64 2)).get X3 (by simp; omega)) (by simp)
                  have M5 := (hM3.keep (Upd4 w3 wr.heap.size (.int .i64 1) (.int .u32 0) (.int .u32 (1024 + z + i)) (.int .i64 2)) (by simp; omega) (by simp; omega)).keep hU5 (by simp) (by simp)
                  go_roundw
                  case rel => exact ⟨k + 1, by omega, by go_num, ⟨_, M5, by rw [HW.out.2.2]; exact HR.out⟩, U5, X5⟩
                  case measure => simp [intOf]; omega
                · have hr3 : r = 1 ∨ r = 4 := by omega
                  have HW := Lib.hid (HRd.out hr3)
                  have er : (r == 2) = false := by simpa using hr2
                  clear HWr HRd
                  go_wp2_with (go_at_call 20; refine (Read_any M a pb (1024 + z) n r _ (HM.out.keep ((Upd.refl [] _).alloc _) (by simp) (by simp)) (by omega) (by omega)).mono ?_; rintro e w3 ⟨rfl, hU3⟩; rw [HW.out.1, HW.out.2]; have hfb := hU3.get (heap_alloc_new _ _) (by simp); have cfb : ∀ o, w3.cell? ⟨wr.heap.size, o, none⟩ = #[Value.int .i64 0, .int .u32 0, .int .u32 0, .int .i64 0][o]? := cells_of hfb; have ffb : ∀ o, w3.frozen? ⟨wr.heap.size, o, none⟩ = false := free_of hfb; have HFB := Lib.hid hfb; clear hfb)
                  have hnew : w.heap.size ≤ wr.heap.size := HU.out.size
                  have h1 := lt_of_heap HX.out
                  have h2 := HM.out.pl
                  have h3 := HM.out.al
                  have h4 := HA.out
                  have U3 : Upd [] w w3 := (HU.out.alloc _).also hU3 (by simp)
                  have X3 := hU3.get (heap_alloc_keep _ HX.out) (by simp)
                  go_roundw
                  case rel => exact ⟨k + 1, by omega, by go_num, ⟨_, (HM.out.keep (((Upd.refl [] _).alloc _).also hU3 (by simp)) (by simp) (by simp)).keep (Upd4 _ _ _ _ _ _) (by simp; omega) (by simp; omega), HR.out⟩, U3.also (Upd4 _ _ _ _ _ _) (by simpa using hnew), (Upd4 _ _ _ _ _ _).get X3 (by simp; omega)⟩
                  case measure => simp [intOf]; omega
        · go_wp2_with fail
          go_ret
          exact ⟨rfl, HU.out⟩

end Go.Proofs.Ytncafchgdgmeaaa
