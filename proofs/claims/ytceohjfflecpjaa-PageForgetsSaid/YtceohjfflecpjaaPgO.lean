/-
  The law PageForgets: the walk.
-/
import Derived.Test.YtceohjfflecpjaaPgK
import Derived.Test.YtceohjfflecpjaaPgN
namespace Go.Proofs.Ytceohjfflecpjaa
open Go Go.RowKit
set_option linter.unusedVariables false
set_option linter.unusedSimpArgs false

set_option maxRecDepth 100000 in
set_option maxHeartbeats 4000000 in
theorem PageForgets_walk (a0 a1 v : Int) (h0 : 0 ≤ a0) (h1 : 0 ≤ a1) (hv0 : 0 ≤ v) (hv1 : v < 4294967296) (w : World) :
    Calls Try.prog 4 #[.int .u8 a0, .int .u8 a1, .int .u32 v] w fun e w' => e = .returned (.bool true) ∧ Upd [] w w' := by
  obtain ⟨p, hp, hp1⟩ : ∃ p : Nat, a0.tmod 50 = p ∧ p < 50 := ⟨(a0.tmod 50).toNat, by rw [Int.tmod_eq_emod_of_nonneg h0]; omega, by rw [Int.tmod_eq_emod_of_nonneg h0]; omega⟩
  obtain ⟨n, hn, hn1⟩ : ∃ n : Nat, a1.tmod 4 = n ∧ n < 4 := ⟨(a1.tmod 4).toNat, by rw [Int.tmod_eq_emod_of_nonneg h1]; omega, by rw [Int.tmod_eq_emod_of_nonneg h1]; omega⟩
  obtain ⟨k, hk, hk1, hk2⟩ : ∃ k : Nat, (n : Int) + 1 = k ∧ 1 ≤ k ∧ k ≤ 4 := ⟨n + 1, by simp, by omega, by omega⟩
  have hpk : p + k ≤ 64 := by omega
  have HV0 := Lib.hid hv0
  have HV1 := Lib.hid hv1
  clear h0 h1 hv0 hv1
  go_enter Try.func4, Try.ntmps4
  go_wp2_with (first | (go_at_call 9; refine (known_any _).mono ?_; rintro e u0 ⟨rfl, hu0⟩) | (go_at_call 10; refine (New_any _).mono ?_; rintro e u1 ⟨a, pb, rfl, ha, hpb, hM1, hu1⟩) | (go_at_call 11; refine (Map_yes Mem.zero a pb 0 64 3 _ hM1 (by decide) q64_map).mono ?_; rintro e u2 ⟨rfl, hM2, hu2⟩; clear hM1))
  go_loopw [10] (fun i wr => ∃ j : Nat, j ≤ 64 ∧ i = .int .i64 j ∧ ∃ M, Fg v j M ∧ IsMem wr a pb M ∧ Upd [pb] u2 wr) (fun i _ => 64 - (intOf i).toNat)
  case atStart => exact ⟨0, Nat.zero_le _, rfl, q64, ⟨rfl, fun j hj => absurd hj (Nat.not_lt_zero _)⟩, hM2, Upd.refl _ _⟩
  case round =>
    obtain ⟨j, hj, rfl, M, hF, hM, hU⟩ := hrel
    have HF := Lib.hid hF
    have HU := Lib.hid hU
    clear hF hU
    by_cases hlt : j < 64
    · have x1 : (256 * (j : Int) + 8) % 4294967296 = 256 * j + 8 := by omega
      go_wp2_with (first | (go_at_call 12; refine (Write_any M a pb (256 * j + 8) 4 v _ hM (by omega) (by omega) HV0.out HV1.out).mono ?_; rintro e u3 ⟨rfl, hM3, hu3⟩))
      go_roundw
      case rel =>
        have hs := fg_step HF.out hlt HV0.out HV1.out
        push_cast at hs
        exact ⟨j + 1, by omega, by go_num, _, hs, hM3, HU.out.also hu3 (by simp)⟩
      case measure => simp [intOf]; omega
    · obtain rfl : j = 64 := by omega
      have y1 : M.unmapB p k = true := Mem.all_of hk1 hpk fun q _ _ => by rw [HF.out.R, q64_R _ (by omega)]; rfl
      have y2 : (M.mapN p k 0).unmapB p 1 = false := Mem.all_not (k := 1) p (Nat.le_refl _) (by omega) (by simp only [Mem.mapN]; rw [if_pos (by omega)]; rfl)
      have y3 : (M.mapN p k 0).mapB p k 5 = true := by
        rw [Mem.mapB, Bool.and_eq_true]
        exact ⟨by decide, Mem.all_of hk1 hpk fun q h1 h2 => by simp only [Mem.mapN]; rw [if_pos (by omega)]; rfl⟩
      have y4 : ((M.mapN p k 0).mapN p k 5).mapB p 1 5 = false := by
        rw [Mem.mapB, Bool.and_eq_false_iff]
        exact .inr (Mem.all_not (k := 1) p (Nat.le_refl _) (by omega) (by simp only [Mem.mapN]; rw [if_pos (by omega)]; rfl))
      have Y1 := Lib.hid y1
      have Y2 := Lib.hid y2
      have Y3 := Lib.hid y3
      have Y4 := Lib.hid y4
      clear y1 y2 y3 y4
      go_wp2_with (first | (go_at_call 15; refine (Unmap_yes M a pb p k _ hM (by omega) Y1.out).mono ?_; rintro e u4 ⟨rfl, hM4, hu4⟩; clear hM) | (go_at_call 15; refine (Unmap_no (M.mapN p k 0) a pb p 1 _ hM4 (by omega) Y2.out).mono ?_; rintro e u5 ⟨rfl, hu5⟩; have hM5 := hM4.keep hu5 (by simp) (by simp); clear hM4) | (go_at_call 11; refine (Map_yes (M.mapN p k 0) a pb p k 5 _ hM5 (by omega) Y3.out).mono ?_; rintro e u6 ⟨rfl, hM6, hu6⟩; clear hM5) | (go_at_call 11; refine (Map_no ((M.mapN p k 0).mapN p k 5) a pb p 1 5 _ hM6 (by omega) Y4.out).mono ?_; rintro e u7 ⟨rfl, hu7⟩; have hM7 : IsMem u7 a pb ((M.mapN p k 0).mapN p k 5) := hM6.keep hu7 (by simp) (by simp); clear hM6))
      have hS : ∀ x, x ∈ [pb] → x ∈ ([] : List Nat) ∨ w.heap.size ≤ x := by
        intro x hx
        have := hu0.size
        simp only [List.mem_singleton] at hx
        omega
      have hE : ∀ x, x ∈ ([] : List Nat) → x ∈ ([] : List Nat) ∨ w.heap.size ≤ x := by simp
      have U7 : Upd [] w u7 := (((((((hu0.also hu1 hE).also hu2 hS).also HU.out hS).also hu4 hS).also hu5 hE).also hu6 hS).also hu7 hE)
      have HB := Lib.hid (fun i hi => fg_back HF.out p k i hi)
      clear hS hE HU HF hu0 hu1 hu2 hu4 hu5 hu6 hu7 hM2 Y1 Y2 Y3 Y4
      go_loopw [11] (fun i wr => ∃ j : Nat, j ≤ 64 ∧ i = .int .i64 j ∧ IsMem wr a pb ((M.mapN p k 0).mapN p k 5) ∧ Upd [] w wr) (fun i _ => 64 - (intOf i).toNat)
      case atStart => exact ⟨0, Nat.zero_le _, rfl, hM7, U7⟩
      case round =>
        obtain ⟨j, hj, rfl, hM8, hU8⟩ := hrel
        have HU := Lib.hid hU8
        clear hU8
        by_cases hlt : j < 64
        · have x1 : (256 * (j : Int) + 8) % 4294967296 = 256 * j + 8 := by omega
          have hb := HB.out j hlt
          rw [show ((256 * j + 8 : Nat) : Int) = 256 * (j : Int) + 8 from by omega] at hb
          by_cases hin : p ≤ j ∧ j < p + k
          · rw [if_pos hin, if_pos hin] at hb
            have HBJ := Lib.hid hb
            clear hb
            obtain ⟨hin1, hin2⟩ := hin
            go_wp2_with (first | (go_at_call 13; refine (Read_any ((M.mapN p k 0).mapN p k 5) a pb (256 * j + 8) 4 1 _ hM8 (by omega) (by omega)).mono ?_; rintro e u8 ⟨rfl, hu8⟩; rw [HBJ.out.1, HBJ.out.2.1, HBJ.out.2.2.1]; have hM9 := (hM8.keep hu8 (by simp) (by simp)).keep ((Upd.refl [] _).alloc (.cells #[.int .i64 0, .int .u32 0, .int .u32 0, .int .i64 0] 30)) (by simp) (by simp); clear hM8) | (go_at_call 16; refine (Rights_any a pb j _ _ hM9).mono ?_; rintro e w' ⟨rfl, rfl⟩; rw [HBJ.out.2.2.2]))
            go_roundw
            case rel => exact ⟨j + 1, by omega, by go_num, hM9, (HU.out.also hu8 (by simp)).alloc _⟩
            case measure => simp [intOf]; omega
          · rw [if_neg hin, if_neg hin] at hb
            have HBJ := Lib.hid hb
            clear hb
            have hin3 : ¬ p ≤ j ∨ ¬ j < p + k := by omega
            rcases hin3 with hin1 | hin2
            · clear hin
              go_wp2_with (first | (go_at_call 13; refine (Read_any ((M.mapN p k 0).mapN p k 5) a pb (256 * j + 8) 4 1 _ hM8 (by omega) (by omega)).mono ?_; rintro e u8 ⟨rfl, hu8⟩; rw [HBJ.out.1, HBJ.out.2.1, HBJ.out.2.2.1]; have hM9 := (hM8.keep hu8 (by simp) (by simp)).keep ((Upd.refl [] _).alloc (.cells #[.int .i64 0, .int .u32 0, .int .u32 0, .int .i64 0] 30)) (by simp) (by simp); clear hM8) | (go_at_call 16; refine (Rights_any a pb j _ _ hM9).mono ?_; rintro e w' ⟨rfl, rfl⟩; rw [HBJ.out.2.2.2]))
              go_roundw
              case rel => exact ⟨j + 1, by omega, by go_num, hM9, (HU.out.also hu8 (by simp)).alloc _⟩
              case measure => simp [intOf]; omega
            · clear hin
              go_wp2_with (first | (go_at_call 13; refine (Read_any ((M.mapN p k 0).mapN p k 5) a pb (256 * j + 8) 4 1 _ hM8 (by omega) (by omega)).mono ?_; rintro e u8 ⟨rfl, hu8⟩; rw [HBJ.out.1, HBJ.out.2.1, HBJ.out.2.2.1]; have hM9 := (hM8.keep hu8 (by simp) (by simp)).keep ((Upd.refl [] _).alloc (.cells #[.int .i64 0, .int .u32 0, .int .u32 0, .int .i64 0] 30)) (by simp) (by simp); clear hM8) | (go_at_call 16; refine (Rights_any a pb j _ _ hM9).mono ?_; rintro e w' ⟨rfl, rfl⟩; rw [HBJ.out.2.2.2]))
              go_roundw
              case rel => exact ⟨j + 1, by omega, by go_num, hM9, (HU.out.also hu8 (by simp)).alloc _⟩
              case measure => simp [intOf]; omega
        · go_wp2_with fail
          go_ret
          exact ⟨rfl, HU.out⟩

end Go.Proofs.Ytceohjfflecpjaa
