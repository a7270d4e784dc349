
import Derived.Test.YtoplekfnghkkdaaMg17
import Derived.Test.YtoplekfnghkkdaaMg16
import Derived.Test.YtoplekfnghkkdaaMg06
import Derived.Test.YtoplekfnghkkdaaMg03
import Derived.Lib.SliceRun
import Derived.Test.YtoplekfnghkkdaaMg05
import Derived.Test.YtoplekfnghkkdaaMg09
import Derived.Laws.IdiomStrings
import Derived.Outline
namespace Go.Proofs.Ytoplekfnghkkdaa
open Go Go.RowKit
set_option linter.unusedVariables false
set_option linter.unusedSimpArgs false

set_option maxRecDepth 100000 in
set_option maxHeartbeats 4000000 in
theorem want14_true (M : Mem) (rr : Nat) (x0 x1 x2 x3 : Int) (w : World) (hM : IsRef w rr M) (h0 : 0 ≤ x0 ∧ x0 < 4294967296) (h1 : 0 ≤ x1 ∧ x1 < 4294967296) (h2 : 0 ≤ x2 ∧ x2 < 4294967296) (h3 : 0 ≤ x3 ∧ x3 < 4294967296) (hk : M.canK x0 (min x1 16).toNat 3 = true) :
    Calls Try.prog 24 #[.pointer (some ⟨rr, 0, none⟩), .agg #[.int .u32 x0, .int .u32 x1, .int .u32 x2, .int .u32 x3], .int .u32 14] w fun e w' => e = .returned (.tuple #[.int .u32 (0), .int .u32 (x1), (Flt.zero).val, .bool true]) ∧ IsRef w' rr (M) ∧ Upd [rr] w w' := by
  by_cases hlt : x1 ≤ 16
  · obtain ⟨n, rfl⟩ : ∃ n : Nat, x1 = n := ⟨x1.toNat, by omega⟩
    have e : (min (n : Int) 16).toNat = n := by omega
    rw [e] at hk
    exact want14l_true M rr n x0 x2 x3 w hM h0 h1 h2 h3 (by omega) hk
  · have e : (min x1 16).toNat = 16 := by omega
    rw [e] at hk
    exact want14g_true M rr x0 x1 x2 x3 w hM h0 h1 h2 h3 (by omega) hk

set_option maxRecDepth 100000 in
set_option maxHeartbeats 4000000 in
theorem want14_false (M : Mem) (rr : Nat) (x0 x1 x2 x3 : Int) (w : World) (hM : IsRef w rr M) (h0 : 0 ≤ x0 ∧ x0 < 4294967296) (h1 : 0 ≤ x1 ∧ x1 < 4294967296) (h2 : 0 ≤ x2 ∧ x2 < 4294967296) (h3 : 0 ≤ x3 ∧ x3 < 4294967296) (hk : M.canK x0 (min x1 16).toNat 3 = false) :
    Calls Try.prog 24 #[.pointer (some ⟨rr, 0, none⟩), .agg #[.int .u32 x0, .int .u32 x1, .int .u32 x2, .int .u32 x3], .int .u32 14] w fun e w' => e = .returned (.tuple #[.int .u32 (x0), .int .u32 (x1), (M.canF x0 (min x1 16).toNat 3).val, .bool false]) ∧ IsRef w' rr (M) ∧ Upd [rr] w w' := by
  by_cases hlt : x1 ≤ 16
  · obtain ⟨n, rfl⟩ : ∃ n : Nat, x1 = n := ⟨x1.toNat, by omega⟩
    have e : (min (n : Int) 16).toNat = n := by omega
    rw [e] at hk
    rw [e]
    exact want14l_false M rr n x0 x2 x3 w hM h0 h1 h2 h3 (by omega) hk
  · have e : (min x1 16).toNat = 16 := by omega
    rw [e] at hk
    rw [e]
    exact want14g_false M rr x0 x1 x2 x3 w hM h0 h1 h2 h3 (by omega) hk

set_option maxRecDepth 100000 in
set_option maxHeartbeats 4000000 in
theorem want_else (M : Mem) (rr : Nat) (x0 x1 x2 x3 n : Int) (w : World) (hM : IsRef w rr M) (h0 : 0 ≤ x0 ∧ x0 < 4294967296) (h1 : 0 ≤ x1 ∧ x1 < 4294967296) (h2 : 0 ≤ x2 ∧ x2 < 4294967296) (h3 : 0 ≤ x3 ∧ x3 < 4294967296) (k1 : (n == 1) = false) (k2 : (n == 2) = false) (k3 : (n == 3) = false) (k4 : (n == 4) = false) (k5 : (n == 5) = false) (k6 : (n == 6) = false) (k7 : (n == 7) = false) (k8 : (n == 8) = false) (k9 : (n == 9) = false) (k10 : (n == 10) = false) (k11 : (n == 11) = false) (k12 : (n == 12) = false) (k13 : (n == 13) = false) (k14 : (n == 14) = false) :
    Calls Try.prog 24 #[.pointer (some ⟨rr, 0, none⟩), .agg #[.int .u32 x0, .int .u32 x1, .int .u32 x2, .int .u32 x3], .int .u32 n] w fun e w' => e = .returned (.tuple #[.int .u32 (x0), .int .u32 (x1), (Flt.zero).val, .bool true]) ∧ IsRef w' rr (M) ∧ Upd [rr] w w' := by
  have hmo : Try.prog.follows .mixedOrders = true := by kernel_rfl
  have j1 := or_join x0 x1 h0 h1
  have j2 := or_join x2 x3 h2 h3
  obtain ⟨A, hA⟩ : ∃ A, x1 * 4294967296 + x0 = A := ⟨_, rfl⟩
  obtain ⟨C, hC⟩ : ∃ C, x3 * 4294967296 + x2 = C := ⟨_, rfl⟩
  rw [hA] at j1
  rw [hC] at j2
  have v0 := u64_id x0 (by omega) (by omega)
  have v1 := u64_id x1 (by omega) (by omega)
  have v2 := u64_id x2 (by omega) (by omega)
  have v3 := u64_id x3 (by omega) (by omega)
  have q1 : x1 * 4294967296 % 18446744073709551616 = x1 * 4294967296 := by omega
  have q2 : x3 * 4294967296 % 18446744073709551616 = x3 * 4294967296 := by omega
  have HA := Lib.hid (And.intro hA hC)
  have H0 := Lib.hid h0
  have H1 := Lib.hid h1
  have H2 := Lib.hid h2
  have H3 := Lib.hid h3
  have HW := Lib.hid (WtS.start hM #[.int .u32 x0, .int .u32 x1, .int .u32 x2, .int .u32 x3])
  clear hM hA hC h0 h1 h2 h3
  go_enter Try.func24, Try.ntmps24
  go_wp2_with fail
  refine wp_draw 18 (fun w1 => WtS w rr (M) #[.int .u32 x0, .int .u32 x1, .int .u32 x2, .int .u32 x3] w1 ∧ True) (fun _ _ => False) (by kernel_rfl) (by kernel_rfl) ⟨HW.out.step (Upd.refl [] _).drew, trivial⟩ (fun _ _ _ h => h.elim) ?_
  simp only [List.take_succ_cons, List.take_zero, List.drop_succ_cons, List.drop_zero]
  repeat
    apply headW_val rfl rfl
    · intro K hK w1 hB1
      have cx := cells_of hB1.1.x
      have HB := Lib.hid hB1
      clear hB1
      go_wp2_with fail
      first
      | exact hK _ HB.out
      | exact HB.out
    · exact ⟨_, rfl⟩
  clear HW
  refine headW_nil (fun _ w8 hB1 => ?_)
  have HW := Lib.hid hB1.1
  have cx := cells_of hB1.1.x
  have cz := cells_of hB1.1.z
  have fz := free_of hB1.1.z
  clear hB1
  go_wp2_with fail
  refine wp_draw 7 (fun w1 => WtS w rr (M) #[.int .u32 x0, .int .u32 x1, .int .u32 x2, .int .u32 x3] w1 ∧ True) (fun _ _ => False) (by kernel_rfl) (by kernel_rfl) ⟨HW.out.step (Upd.refl [] _).drew, trivial⟩ (fun _ _ _ h => h.elim) ?_
  simp only [List.take_succ_cons, List.take_zero, List.drop_succ_cons, List.drop_zero]
  repeat
    apply headW_val rfl rfl
    · intro K hK w1 hB1
      have cx := cells_of hB1.1.x
      have HB := Lib.hid hB1
      clear hB1
      go_wp2_with fail
      first
      | exact hK _ HB.out
      | exact HB.out
    · exact ⟨_, rfl⟩
  clear HW
  refine headW_nil (fun _ w8 hB1 => ?_)
  have HW := Lib.hid hB1.1
  have cx := cells_of hB1.1.x
  have cz := cells_of hB1.1.z
  have fz := free_of hB1.1.z
  clear hB1
  go_wp2_with fail
  have hE := HW.out.fin (Flt.zero) HW.out
  refine bodyPost_ret (v := .tuple #[.int .u32 (x0), .int .u32 (x1), (Flt.zero).val, .bool true]) (results_four' rfl (res_tmp 6 rfl) (res_tmp 7 rfl) (res_flt 8 (w.heap.size + 1) (Flt.zero) rfl hE.1) (res_tmp 9 rfl)) rfl ⟨rfl, hE.2.1, hE.2.2⟩

end Go.Proofs.Ytoplekfnghkkdaa

/-
  The law HelperDoes: what it wants of a call is what the helper makes of it. No condition.
-/
namespace Go.Proofs.Ytoplekfnghkkdaa
open Go Go.RowKit
set_option linter.unusedVariables false
set_option linter.unusedSimpArgs false

theorem get8 (M : Mem) (x : Int) : M.get x 8 = M.get x 4 + M.get (plus x 4) 4 * 4294967296 := by
  simp only [Mem.get, plus_plus]
  simp
  omega

theorem rd8V_get {M : Mem} (x : Int) (h : M.rd8K x = true) : M.rd8V x = M.get x 8 := by
  rw [Mem.rd8V, if_pos h, get8]
  rw [Mem.rd8K, Bool.and_eq_true] at h
  have r : ∀ y, M.readK y 4 1 = true → M.readV y 4 1 = M.get y 4 := by
    intro y hy
    rw [Mem.readK, Option.isNone_iff_eq_none] at hy
    rw [Mem.readV, hy]
    rfl
  rw [r _ h.1, r _ h.2]

theorem put8 (M : Mem) (x v : Int) : (M.putN x (v % 4294967296) 4).putN (plus x 4) (v / 4294967296) 4 = M.putN x v 8 := by
  simp only [Mem.putN, plus_plus]
  have e0 : v % 4294967296 / 2 ^ (8 * 0) % 256 = v / 2 ^ (8 * 0) % 256 := by first | (simp; done) | (simp; omega)
  have e1 : v % 4294967296 / 2 ^ (8 * 1) % 256 = v / 2 ^ (8 * 1) % 256 := by first | (simp; done) | (simp; omega)
  have e2 : v % 4294967296 / 2 ^ (8 * 2) % 256 = v / 2 ^ (8 * 2) % 256 := by first | (simp; done) | (simp; omega)
  have e3 : v % 4294967296 / 2 ^ (8 * 3) % 256 = v / 2 ^ (8 * 3) % 256 := by first | (simp; done) | (simp; omega)
  have e4 : v / 4294967296 / 2 ^ (8 * 0) % 256 = v / 2 ^ (8 * 4) % 256 := by simp
  have e5 : v / 4294967296 / 2 ^ (8 * 1) % 256 = v / 2 ^ (8 * 5) % 256 := by first | (simp; done) | (simp; omega)
  have e6 : v / 4294967296 / 2 ^ (8 * 2) % 256 = v / 2 ^ (8 * 6) % 256 := by first | (simp; done) | (simp; omega)
  have e7 : v / 4294967296 / 2 ^ (8 * 3) % 256 = v / 2 ^ (8 * 7) % 256 := by first | (simp; done) | (simp; omega)
  rw [e0, e1, e2, e3, e4, e5, e6, e7]

theorem wr8M_put {M : Mem} (x v : Int) (h : M.canK x 8 2 = true) : M.wr8M x v = M.putN x v 8 := by rw [Mem.wr8M, if_pos h, put8]

theorem writeM_noW {M : Mem} {x b v : Int} (h : M.writeK x b = false) : M.writeM x b v = M := by
  unfold Mem.writeK at h
  unfold Mem.writeM
  cases hb : M.bad x 2 (widthI b).toNat with
  | none => rw [hb] at h; cases h
  | some i => rfl
theorem wrF_yes {M : Mem} {x b : Int} (h : M.writeK x b = true) : M.wrF x b = Flt.zero := by
  rw [Mem.writeK, Option.isNone_iff_eq_none] at h
  rw [Mem.wrF, h]

theorem g10 (H : Hs) (v : Int) : (H.put 10 v).get 10 = v := by simp [Hs.put, Hs.get, Hs.set]
theorem g11 (H : Hs) (v : Int) : (H.put 10 v).get 11 = H.get 11 := by simp [Hs.put, Hs.get, Hs.set]
theorem g10' (H : Hs) (v : Int) : (H.put 11 v).get 10 = H.get 10 := by simp [Hs.put, Hs.get, Hs.set]
theorem g11' (H : Hs) (v : Int) : (H.put 11 v).get 11 = v := by simp [Hs.put, Hs.get, Hs.set]

theorem want_all (H : Hs) (M : Mem) (rr hb a pb : Nat) (w wm wh : World) (hM : IsRef w rr M) (hm : IsMem wm a pb M) (hh : IsHost wh hb H) :
    Calls Try.prog 24 #[.pointer (some ⟨rr, 0, none⟩), .agg #[.int .u32 (H.get 10), .int .u32 (H.get 11), .int .u32 (H.get 12), .int .u32 (H.get 13)], .int .u32 (H.get 17)] w fun e w' => e = .returned (.tuple #[.int .u32 ((doRes H M).H.get 10), .int .u32 ((doRes H M).H.get 11), (doRes H M).F.val, .bool (doRes H M).K]) ∧ IsRef w' rr (doRes H M).M ∧ Upd [rr] w w' := by
  have r10 := Hs.get_range hh 10
  have r11 := Hs.get_range hh 11
  have r12 := Hs.get_range hh 12
  have r13 := Hs.get_range hh 13
  have t0 : H.two 0 = H.get 11 * 4294967296 + H.get 10 := by rw [Hs.two, Int.add_comm]; rfl
  have t2 : H.two 2 = H.get 13 * 4294967296 + H.get 12 := by rw [Hs.two, Int.add_comm]; rfl
  have t1 : H.two 1 = H.get 12 * 4294967296 + H.get 11 := by rw [Hs.two, Int.add_comm]; rfl
  by_cases c1 : H.get 17 = 1
  · cases hk : M.readK (H.get 10) 4 1
    · rw [show doRes H M = ⟨H, M, M.rdF (H.get 10) 4 1, false⟩ from by simp [doRes, c1, hk], c1]
      exact want1_false M rr _ _ _ _ w hM r10 r11 r12 r13 hk
    · rw [show doRes H M = ⟨H.put 10 (M.readV (H.get 10) 4 1), M, Flt.zero, true⟩ from by simp [doRes, c1, hk], c1]
      simp only [g10, g11]
      exact want1_true M rr _ _ _ _ w hM r10 r11 r12 r13 hk
  by_cases c2 : H.get 17 = 2
  · cases hk : M.readK (H.get 10) 1 1
    · rw [show doRes H M = ⟨H, M, M.rdF (H.get 10) 1 1, false⟩ from by simp [doRes, c2, hk], c2]
      exact want2_false M rr _ _ _ _ w hM r10 r11 r12 r13 hk
    · rw [show doRes H M = ⟨H.put 10 (M.readV (H.get 10) 1 1), M, Flt.zero, true⟩ from by simp [doRes, c2, hk], c2]
      simp only [g10, g11]
      exact want2_true M rr _ _ _ _ w hM r10 r11 r12 r13 hk
  by_cases c3 : H.get 17 = 3
  · have hw := want3 M rr _ _ _ _ w hM r10 r11 r12 r13
    cases hk : M.writeK (H.get 10) 4
    · rw [show doRes H M = ⟨H, M, M.wrF (H.get 10) 4, false⟩ from by simp [doRes, c3, hk], c3]
      rw [hk, writeM_noW hk] at hw
      exact hw
    · rw [show doRes H M = ⟨H, M.writeM (H.get 10) 4 (H.get 11), Flt.zero, true⟩ from by simp [doRes, c3, hk], c3]
      rw [hk, wrF_yes hk] at hw
      exact hw
  by_cases c4 : H.get 17 = 4
  · have hw := want4 M rr _ _ _ _ w hM r10 r11 r12 r13
    cases hk : M.writeK (H.get 10) 1
    · rw [show doRes H M = ⟨H, M, M.wrF (H.get 10) 1, false⟩ from by simp [doRes, c4, hk], c4]
      rw [hk, writeM_noW hk] at hw
      exact hw
    · rw [show doRes H M = ⟨H, M.writeM (H.get 10) 1 (H.get 11), Flt.zero, true⟩ from by simp [doRes, c4, hk], c4]
      rw [hk, wrF_yes hk] at hw
      exact hw
  by_cases c5 : H.get 17 = 5
  · cases hk : divK (H.get 10) (H.get 11) (H.get 12)
    · rw [show doRes H M = ⟨H, M, Flt.div, false⟩ from by simp [doRes, c5, hk], c5]
      exact want5_false M rr _ _ _ _ w hM r10 r11 r12 r13 hk
    · rw [show doRes H M = ⟨(H.put 10 (divQ (H.get 10) (H.get 11) (H.get 12))).put 11 (divR (H.get 10) (H.get 11) (H.get 12)), M, Flt.zero, true⟩ from by simp [doRes, c5, hk], c5]
      simp only [g10, g11, g10', g11']
      exact want5_true M rr _ _ _ _ w hM r10 r11 r12 r13 hk
  by_cases c6 : H.get 17 = 6
  · cases hk : sgK (H.get 10) (H.get 11) (H.get 12)
    · rw [show doRes H M = ⟨H, M, Flt.div, false⟩ from by simp [doRes, c6, hk], c6]
      exact want6_false M rr _ _ _ _ w hM r10 r11 r12 r13 hk
    · rw [show doRes H M = ⟨(H.put 10 (sgQ (H.get 10) (H.get 11) (H.get 12))).put 11 (sgR (H.get 10) (H.get 11) (H.get 12)), M, Flt.zero, true⟩ from by simp [doRes, c6, hk], c6]
      simp only [g10, g11, g10', g11']
      exact want6_true M rr _ _ _ _ w hM r10 r11 r12 r13 hk
  by_cases c7 : H.get 17 = 7
  · have e7 := rd8K_can hm.ok (H.get 10)
    cases hk : M.canK (H.get 10) 8 1
    · rw [hk] at e7
      rw [show doRes H M = ⟨H, M, M.rd8F (H.get 10), false⟩ from by simp [doRes, c7, e7], c7, rd8F_can hm.ok]
      exact want7_false M rr _ _ _ _ w hM r10 r11 r12 r13 hk
    · rw [hk] at e7
      rw [show doRes H M = ⟨two64 H (M.rd8V (H.get 10)), M, Flt.zero, true⟩ from by simp [doRes, c7, e7], c7, rd8V_get _ e7]
      simp only [two64, g10, g11, g10', g11']
      exact want7_true M rr _ _ _ _ w hM r10 r11 r12 r13 hk
  by_cases c8 : H.get 17 = 8
  · cases hk : M.canK (H.get 10) 8 2
    · rw [show doRes H M = ⟨H, M, M.canF (H.get 10) 8 2, false⟩ from by simp [doRes, c8, hk], c8]
      exact want8_false M rr _ _ _ _ w hM r10 r11 r12 r13 hk
    · rw [show doRes H M = ⟨H, M.wr8M (H.get 10) (H.two 1), Flt.zero, true⟩ from by simp [doRes, c8, hk], c8, wr8M_put _ _ hk, t1]
      exact want8_true M rr _ _ _ _ w hM r10 r11 r12 r13 hk
  by_cases c9 : H.get 17 = 9
  · rw [show doRes H M = ⟨two64 H (flDo .add (H.two 0).toNat (H.two 2).toNat), M, Flt.zero, true⟩ from by simp [doRes, c9, flOp], c9]
    simp only [two64, g10, g11, g10', g11', t0, t2]
    exact want9 M rr _ _ _ _ w hM r10 r11 r12 r13
  by_cases c10 : H.get 17 = 10
  · rw [show doRes H M = ⟨two64 H (flDo .sub (H.two 0).toNat (H.two 2).toNat), M, Flt.zero, true⟩ from by simp [doRes, c10, flOp], c10]
    simp only [two64, g10, g11, g10', g11', t0, t2]
    exact want10 M rr _ _ _ _ w hM r10 r11 r12 r13
  by_cases c11 : H.get 17 = 11
  · rw [show doRes H M = ⟨two64 H (flDo .mul (H.two 0).toNat (H.two 2).toNat), M, Flt.zero, true⟩ from by simp [doRes, c11, flOp], c11]
    simp only [two64, g10, g11, g10', g11', t0, t2]
    exact want11 M rr _ _ _ _ w hM r10 r11 r12 r13
  by_cases c12 : H.get 17 = 12
  · rw [show doRes H M = ⟨two64 H (flDo .quo (H.two 0).toNat (H.two 2).toNat), M, Flt.zero, true⟩ from by simp [doRes, c12, flOp], c12]
    simp only [two64, g10, g11, g10', g11', t0, t2]
    exact want12 M rr _ _ _ _ w hM r10 r11 r12 r13
  by_cases c13 : H.get 17 = 13
  · rw [show doRes H M = ⟨H.put 10 (cmpT (cmpZ (H.two 0).toNat (H.two 2).toNat) (cmpP (H.two 0).toNat (H.two 2).toNat) (cmpC (H.two 0).toNat (H.two 2).toNat) 4), M, Flt.zero, true⟩ from by simp [doRes, c13], c13]
    simp only [g10, g11, t0, t2]
    exact want13 M rr _ _ _ _ w hM r10 r11 r12 r13
  by_cases c14 : H.get 17 = 14
  · cases hk : M.canK (H.get 10) (min (H.get 11) 16).toNat 3
    · rw [show doRes H M = ⟨H, M, M.canF (H.get 10) (min (H.get 11) 16).toNat 3, false⟩ from by simp [doRes, c14, hk], c14]
      exact want14_false M rr _ _ _ _ w hM r10 r11 r12 r13 hk
    · rw [show doRes H M = ⟨H.put 10 0, M, Flt.zero, true⟩ from by simp [doRes, c14, hk], c14]
      simp only [g10, g11]
      exact want14_true M rr _ _ _ _ w hM r10 r11 r12 r13 hk
  have hr : ¬ (9 ≤ H.get 17 ∧ H.get 17 ≤ 12) := by omega
  rw [show doRes H M = ⟨H, M, Flt.zero, true⟩ from by simp [doRes, c1, c2, c3, c4, c5, c6, c7, c8, hr, c13, c14]]
  exact want_else M rr _ _ _ _ _ w hM r10 r11 r12 r13 (by simp [c1]) (by simp [c2]) (by simp [c3]) (by simp [c4]) (by simp [c5]) (by simp [c6]) (by simp [c7]) (by simp [c8]) (by simp [c9]) (by simp [c10]) (by simp [c11]) (by simp [c12]) (by simp [c13]) (by simp [c14])
end Go.Proofs.Ytoplekfnghkkdaa

/-
  The host: New with its memory, Copy (slices.Clone), PC; helper.Last for every call. No condition.
-/
namespace Go.Proofs.Ytoplekfnghkkdaa
open Go Go.RowKit
set_option linter.unusedVariables false
set_option linter.unusedSimpArgs false

/-- The host's memory: a block of bytes. -/
structure HMem (w : World) (m : Nat) (H : Hs) : Prop where
  e : H.mem = .slice (some ⟨m, 0, none⟩) 32768 32768
  c : ∃ C : Array Value, w.heap[m]? = some (.cells C 5 (0, 0)) ∧ C.size = 32768 ∧ ∀ u ∈ C.toList, u.oneCell' = true

theorem HMem.keep {w w' : World} {m : Nat} {H : Hs} {S : List Nat} (h : HMem w m H) (u : Upd S w w') (hb : m ∉ S) : HMem w' m H := by
  obtain ⟨C, h1, h2, h3⟩ := h.c
  exact ⟨h.e, C, u.get h1 hb, h2, h3⟩
theorem Hs.put_mem (H : Hs) (i v : Int) : (H.put i v).mem = H.mem := by unfold Hs.put; split <;> rfl
theorem Hs.put_pc (H : Hs) (i v : Int) : (H.put i v).pc = H.pc := by unfold Hs.put; split <;> rfl
theorem HMem.put {w : World} {m : Nat} {H : Hs} (h : HMem w m H) (i v : Int) : HMem w m (H.put i v) := ⟨by rw [Hs.put_mem]; exact h.e, h.c⟩

theorem run_make_host' (w : World) : (Instr.makeSlice 22 (.int .i64 32768) (.int .i64 32768)).run Try.prog w = .ok (.slice (some ⟨w.heap.size, 0, none⟩) 32768 32768) (w.alloc (.cells (madeCells #[.int .u8 0] 32768) 5 (0, 0))) :=
  run_make (P := Try.prog) w 22 5 Try.t5 (.int .u8 0) Try.underlying22 (by kernel_rfl) (by kernel_rfl) .i64 .i64 32768 32768 (by decide) (by decide) (by decide) (by decide)

theorem made_one (n : Nat) : ∀ u ∈ (madeCells #[.int .u8 0] n).toList, u.oneCell' = true := by
  intro u hu
  rw [Array.mem_toList_iff, madeCells, Array.mem_map] at hu
  obtain ⟨k, _, rfl⟩ := hu
  have e : k % (#[Value.int .u8 0]).size = 0 := by simp [Nat.mod_one]
  rw [e]; rfl

set_option maxRecDepth 100000 in
set_option maxHeartbeats 1000000 in
theorem HNewM_any (w : World) :
    Calls Try.prog 19 #[] w fun e w' => ∃ b m, e = .returned (.pointer (some ⟨b, 0, none⟩)) ∧ w.heap.size ≤ b ∧ w.heap.size ≤ m ∧ m ≠ b ∧ IsHost w' b (Hs.zero m) ∧ HMem w' m (Hs.zero m) ∧ Upd [] w w' := by
  have hmk := run_make_host' w
  obtain ⟨C, hC⟩ : ∃ C, madeCells #[.int .u8 0] 32768 = C := ⟨_, rfl⟩
  have hCs : C.size = 32768 := by rw [← hC, size_madeCells]
  have hCo : ∀ u ∈ C.toList, u.oneCell' = true := by rw [← hC]; exact made_one _
  rw [hC] at hmk
  have HC := Lib.hid (And.intro hCs hCo)
  clear hC hCs hCo
  go_enter Try.func19, Try.ntmps19
  go_wp2
  go_ret
  refine ⟨w.heap.size + 1, w.heap.size, rfl, by omega, by omega, by omega, ⟨?_, fun _ => by simp [Hs.zero]⟩, ⟨rfl, C, heap_alloc2_old _ _ _, HC.out⟩, ((Upd.refl _ _).alloc _).alloc _⟩
  have h := heap_alloc2_new w (.cells C 5) (.cells (Hs.zero w.heap.size).cells 125)
  have e : (Hs.zero w.heap.size).cells = #[.int .u32 0, .int .u32 0, .int .u32 0, .int .u32 0, .int .u32 0, .int .u32 0, .int .u32 0, .int .u32 0, .int .u32 0, .int .u32 0, .int .u32 0, .int .u32 0, .int .u32 0, .int .u32 0, .int .u32 0, .int .u32 0, .int .u32 0, .int .u32 0, .int .u32 0, .int .u32 0, .int .u32 0, .int .u32 0, .int .u32 0, .int .u32 0, .int .u32 0, .int .u32 0, .int .u32 0, .int .u32 0, .int .u32 0, .int .u32 0, .int .u32 0, .int .u32 0, .slice (some ⟨w.heap.size, 0, none⟩) 32768 32768, .int .u32 1024, .int .u32 0] := by
    apply Array.toList_inj.1
    rw [Hs.cells, Array.toList_map, Array.toList_range]
    rfl
  rw [e] at h ⊢
  exact h

theorem run_buildNoneB (w : World) : (Instr.buildSlice 22 0 #[]).run Try.prog w = .ok (.slice (some ⟨w.heap.size, 0, none⟩) 0 0) (w.alloc (.cells #[] 5)) := by
  obtain ⟨i, hi, hz0, hz1, hz2⟩ := info_parts info_u8
  simp [Instr.buildSlice, run_underlying Try.underlying22, sizeOf, typeInfo, zeroValue, hi, hz0, newRow, Instr.fill]
  exact congrArg (fun x => w.alloc (.cells x 5)) (by simp)

theorem wpList_buildNoneB {ops : Array Oper} {rest : List Oper} {op : Oper} {a : Act} {w : World} {Q : Exit → Act → World → Prop} (hgd : op.guard = none) (ho : op.op = .buildSlice 22 0 #[])
    (h : wpList Try.prog ops Q rest (a.put op.dst (.slice (some ⟨w.heap.size, 0, none⟩) 0 0)) (w.alloc (.cells #[] 5))) : wpList Try.prog ops Q (op :: rest) a w :=
  wpList_plain hgd fun _ hK => by
    unfold Oper.wp execOp
    simp only [ho, Array.map_empty, Sem.run_bind, run_buildNoneB, Result.andThen_ok, Sem.run_pure]
    exact hK _ _ h

set_option maxRecDepth 100000 in
set_option maxHeartbeats 2000000 in
theorem CloneB_any (m : Nat) (C : Array Value) (w : World) (hC : C.size = 32768) (h1 : ∀ u ∈ C.toList, u.oneCell' = true) (hb : w.heap[m]? = some (.cells C 5 (0, 0))) :
    Calls Try.prog 57 #[.slice (some ⟨m, 0, none⟩) 32768 32768] w fun e w' => ∃ o n c, e = .returned (.slice o n c) ∧ Upd [] w w' := by
  have hnil := fun w : World => Lib.run_eql_slice_nil w 22 5 (some ⟨m, 0, none⟩) 32768 32768 0 0 Try.underlying22
  have HM := Lib.hid (And.intro hC (And.intro h1 hb))
  clear hC h1 hb
  go_enter Try.func57, Try.ntmps57
  have hown : (w.alloc (.cells #[] 5)).ownsRow w.heap.size 5 1 (.slice (some ⟨w.heap.size, 0, none⟩) 0 0) 0 [] := ⟨by simp, .inr ⟨w.heap.size, 0, #[], rfl, Nat.le_refl _, heap_alloc_new _ _, Nat.le_refl _, Nat.zero_le _, rfl, rfl⟩⟩
  have HO := Lib.hid hown
  clear hown
  obtain ⟨i, hi, hz0, hz1, hz2⟩ := info_parts info_u8
  have HI := Lib.hid (And.intro hi (And.intro hz0 (And.intro hz1 hz2)))
  clear hi hz0 hz1 hz2
  have HL := Lib.hid (show ∀ j u, C.toList[j]? = some u → (w.alloc (.cells #[] 5)).cell? ((⟨m, 0, none⟩ : Addr).add j) = some u by
    intro j u hu
    have e : (⟨m, 0, none⟩ : Addr).add j = ⟨m, j, none⟩ := by rcases j with _ | j <;> simp [Addr.add]
    rw [e, cells_of (heap_alloc_keep _ HM.out.2.2), ← hu, Array.getElem?_toList])
  go_wp2_with (first | (refine wpList_buildNoneB rfl rfl ?_) | (at_builtin; refine wpList_append_own _ rfl _ _ 22 rfl w.heap.size 5 i (.int .u8 0) 1 1 Try.underlying22 HI.out.1 HI.out.2.1 HI.out.2.2.1 HI.out.2.2.2 rfl (by decide) _ _ _ rfl HO.out ⟨m, 0, none⟩ 32768 32768 C.toList rfl (by rw [Array.length_toList, HM.out.1]) HL.out HM.out.2.1 (by unfold maxLen; omega) (by omega) (by simp) ?_; intro v' w' hv hg _))
  have hg' : Upd [w.heap.size] (w.alloc (.cells #[] 5)) w' := Upd.of_grown (row := some w.heap.size) hg
  clear hg
  have hx : ∃ o n c, v' = .slice o n c := by
    rcases hv.2 with ⟨h0, _⟩ | ⟨g, cap, cur, h0, _⟩
    · exact ⟨_, _, _, h0⟩
    · exact ⟨_, _, _, h0⟩
  clear hv
  go_ret
  obtain ⟨o, n, c, he⟩ := hx
  exact ⟨o, n, c, ret_of he, ((Upd.refl [] w).alloc _).new hg' (by simp)⟩

def Hs.mem' (H : Hs) (v : Value) : Hs := { H with mem := v }
theorem Hs.cells_mem (H : Hs) (v : Value) : H.cells.setIfInBounds 32 v = (H.mem' v).cells := by
  apply Array.ext_getElem?
  intro k
  rw [Array.getElem?_setIfInBounds, H.size]
  by_cases hk : k < 35
  · rw [(H.mem' v).cell k hk, H.cell k hk]
    by_cases e : 32 = k
    · subst e
      rw [if_pos rfl, if_pos hk]
      rfl
    · rw [if_neg e]
      unfold Hs.at_
      simp [Hs.mem', show ¬ k = 32 from fun h => e h.symm]
  · rw [if_neg (by omega), Array.getElem?_eq_none (by rw [H.size]; omega), Array.getElem?_eq_none (by rw [Hs.size]; omega)]
theorem host_info : (Try.prog.info? 125).map (·.size) = some 35 := by kernel_rfl
theorem Hs.one (H : Hs) (h : H.mem.oneCell' = true) : H.cells.all (·.oneCell') = true := by
  rw [Array.all_eq_true_iff_forall_mem]
  intro u hu
  rw [Hs.cells, Array.mem_map] at hu
  obtain ⟨k, _, rfl⟩ := hu
  unfold Hs.at_
  split
  · rfl
  split
  · exact h
  split <;> rfl

set_option maxRecDepth 100000 in
set_option maxHeartbeats 1000000 in
theorem PC_any (H : Hs) (b : Nat) (w : World) (h : IsHost w b H) :
    Calls Try.prog 26 #[.pointer (some ⟨b, 0, none⟩)] w fun e w' => e = .returned (.int .u32 H.pc) ∧ w = w' := by
  have hc : w.cell? ⟨b, 33, none⟩ = some (.int .u32 H.pc) := by rw [cells_of h.h, H.cell 33 (by decide)]; rfl
  clear h
  go_enter Try.func26, Try.ntmps26
  go_wp2
  go_ret
  exact ⟨rfl, rfl⟩

set_option maxRecDepth 100000 in
set_option maxHeartbeats 1000000 in
theorem Last_all (H : Hs) (b : Nat) (n : Int) (w : World) (h : IsHost w b H) (hn : H.get 17 = n) :
    Calls Try.prog 22 #[.pointer (some ⟨b, 0, none⟩)] w fun e w' => e = .returned (.int .i64 (if n = 16 ∨ n = 17 then n else 0)) ∧ w = w' := by
  have HH := Lib.hid (And.intro h hn)
  clear h hn
  by_cases k1 : n = 16
  · subst k1
    go_enter Try.func22, Try.ntmps22
    go_wp2_with (go_at_call 25; refine (X_any H b 17 _ HH.out.1).mono ?_; rintro e w' ⟨rfl, rfl⟩; rw [HH.out.2])
    go_ret
    exact ⟨rfl, rfl⟩
  by_cases k2 : n = 17
  · subst k2
    go_enter Try.func22, Try.ntmps22
    go_wp2_with (go_at_call 25; refine (X_any H b 17 _ HH.out.1).mono ?_; rintro e w' ⟨rfl, rfl⟩; rw [HH.out.2])
    go_ret
    exact ⟨rfl, rfl⟩
  rw [if_neg (by omega)]
  have q1 : (n == 16) = false := by simp [k1]
  have q2 : (n == 17) = false := by simp [k2]
  clear k1 k2
  go_enter Try.func22, Try.ntmps22
  go_wp2_with (go_at_call 25; refine (X_any H b 17 _ HH.out.1).mono ?_; rintro e w' ⟨rfl, rfl⟩; rw [HH.out.2])
  go_ret
  exact ⟨rfl, rfl⟩

theorem wr_allH (c cs : Array Value) (h : c.size = cs.size) : wr c 0 cs.toList = cs := by
  apply Array.ext_getElem?
  intro k
  have hl : cs.toList.length = cs.size := Array.length_toList
  rw [wr_get _ _ _ _ (by rw [hl, h]; omega), hl]
  by_cases hk : k < cs.size
  · rw [if_pos (by omega), Nat.sub_zero, Array.getElem?_toList]
  · rw [if_neg (by omega), Array.getElem?_eq_none (by omega), Array.getElem?_eq_none (by omega)]

theorem wpList_store_arrH {P : Program} {ops : Array Oper} {rest : List Oper} {op : Oper} {a : Act} {w : World} {Q : Exit → Act → World → Prop} (hgd : op.guard = none) (ty : TypeId) (x y : Operand) (ho : op.op = .store ty x y)
    (b o : Nat) (cs : Array Value) (hx : a.eval x = .pointer (some ⟨b, o, none⟩)) (hy : a.eval y = .agg cs)
    {c : Array Value} {t : TypeId} (hb : w.heap[b]? = some (.cells c t (0, 0))) (hn : o + cs.size ≤ c.size) (hi : (P.info? ty).map (·.size) = some cs.size) (h1 : cs.all (·.oneCell') = true)
    (h : ∀ w', w.setCells b o cs.toList = w' → wpList P ops Q rest (a.put op.dst undef) w') : wpList P ops Q (op :: rest) a w :=
  wpList_store_arr hgd ty x y ho b o cs hx hy hb hn hi h1 (h _ rfl)

theorem arr_newH {w w' : World} {b : Nat} {cs c : Array Value} {t : TypeId} (hw : w.setCells b 0 cs.toList = w') (hb : w.heap[b]? = some (.cells c t (0, 0))) (hc : c.size = cs.size) :
    w'.heap[b]? = some (.cells cs t (0, 0)) ∧ Upd [b] w w' := by
  subst hw
  exact ⟨by rw [heap_setCells_same _ _ _ _ hb, wr_allH c cs hc], (Upd.refl [b] w).setCells (.inl (by simp)) _ _⟩

theorem host_mem {w : World} {b : Nat} {H : Hs} (h : IsHost w b H) : w.cell? ⟨b, 32, none⟩ = some H.mem := by rw [cells_of h.h, H.cell 32 (by decide)]; rfl

set_option maxRecDepth 100000 in
set_option maxHeartbeats 1000000 in
theorem HCopy_any (H : Hs) (b m : Nat) (w : World) (h : IsHost w b H) (hm : HMem w m H) :
    Calls Try.prog 21 #[.pointer (some ⟨b, 0, none⟩)] w fun e w' => ∃ g v, e = .returned (.pointer (some ⟨g, 0, none⟩)) ∧ w.heap.size ≤ g ∧ IsHost w' g (H.mem' v) ∧ Upd [] w w' := by
  obtain ⟨C, h1, h2, h3⟩ := hm.c
  have hmo : H.mem.oneCell' = true := by rw [hm.e]; rfl
  have hc := hm.e
  have HH := Lib.hid (And.intro h (And.intro h1 (And.intro h2 (And.intro h3 hmo))))
  have HC := Lib.hid (And.intro hc trivial)
  have tok : True := trivial
  clear h hm h1 h2 h3 hmo hc
  go_enter Try.func21, Try.ntmps21
  go_wp2_with (first
    | (have _t := tok; clear _t; refine at_load 125 rfl ?_; refine wpList_load_arr rfl 125 _ rfl b 0 rfl H.cells _ (range_whole HH.out.1.h) Try.underlying125 rfl (by rw [Hs.size]; exact host_info) ?_; clear tok)
    | (have _t := HC; clear _t; refine at_store 125 rfl ?_; refine wpList_store_arrH rfl 125 _ _ rfl w.heap.size 0 H.cells rfl rfl (heap_alloc_new w _) (Nat.le_of_eq (by rw [Hs.size]; rfl)) (by rw [Hs.size]; exact host_info) (H.one HH.out.2.2.2.2) ?_; intro w3 hw3; have hz := arr_newH hw3 (heap_alloc_new w _) (Hs.size H).symm; have hw := ((Upd.refl [] w).alloc _).new hz.2 (by simp); have H3 := Lib.hid (And.intro hz.1 hw); have hc3 := host_mem (HH.out.1.keep hw (by simp)); rw [HC.out.1] at hc3; clear hw3 hz hw)
    | (have _t := H3; clear _t; go_at_call 57; refine (CloneB_any m C _ HH.out.2.2.1 HH.out.2.2.2.1 (H3.out.2.get HH.out.2.1 (by simp))).mono ?_; rintro e w4 ⟨o, n, c, rfl, hu⟩; have H4 := Lib.hid (And.intro (hu.get H3.out.1 (by simp)) (H3.out.2.also hu (by simp))); clear hu hc3 H3; have c4 := cells_of H4.out.1 32; rw [H.cell 32 (by decide)] at c4; have f4 := free_of H4.out.1 32))
  go_ret
  have hs := heap_set_same H4.out.1 32 (.slice o n c)
  rw [H.cells_mem] at hs
  exact ⟨w.heap.size, .slice o n c, rfl, Nat.le_refl _, ⟨hs, HH.out.1.ok⟩, H4.out.2.also ((Upd.refl [w.heap.size] _).setCell (by simp) _) (by simp)⟩
end Go.Proofs.Ytoplekfnghkkdaa

/-
  The reference's memory: Poke, Peek: each by its contract. No condition.
-/
namespace Go.Proofs.Ytoplekfnghkkdaa
open Go Go.RowKit
set_option linter.unusedVariables false
set_option linter.unusedSimpArgs false

theorem rightAt_mapped (M : Mem) (x : Int) : (M.rightAt x == 0) = !M.mappedB x := by
  unfold Mem.rightAt Mem.mappedB
  by_cases h : x < 16384
  · rw [if_pos h, decide_eq_true h, Bool.true_and]
    cases hz : M.R (x / 256).toNat == 0
    · simp only [bne, hz]; rfl
    · simp only [bne, hz]; rfl
  · rw [if_neg h, decide_eq_false h, Bool.false_and]
    rfl

theorem IsRef.drew {w : World} {r : Nat} {M : Mem} (h : IsRef w r M) : IsRef w.drew r M := ⟨h.ex, h.ok⟩

set_option maxRecDepth 100000 in
set_option maxHeartbeats 2000000 in
theorem Peek_ref (M : Mem) (r : Nat) (x n : Int) (w : World) (hM : IsRef w r M) (h0 : 0 ≤ x) (h1 : x < 4294967296) :
    Calls Try.prog 72 #[.pointer (some ⟨r, 0, none⟩), .int .u32 x, .int .i64 n] w fun e w' =>
      ∃ v, e = .returned v ∧ w'.ownsRow w.heap.size 5 1 v (M.peek x n).length ((M.peek x n).map (Value.int .u8)) ∧ Upd [] w w' := by
  obtain ⟨i0, hi, hz0, hz1, hz2⟩ := info_parts info_u8
  have HI := Lib.hid (And.intro hi (And.intro hz0 (And.intro hz1 hz2)))
  clear hi hz0 hz1 hz2
  obtain ⟨k, hk⟩ : ∃ k : Nat, (min n 16384).toNat = k := ⟨_, rfl⟩
  have hk2 : Hid (k ≤ 16384) := Lib.hid (by omega)
  have HK := Lib.hid hk
  have hmin : (min n 16384 < 0 ∧ k = 0) ∨ (0 ≤ min n 16384 ∧ min n 16384 = k) := by omega
  have HMin := Lib.hid hmin
  clear hk hmin
  have hfin : ∀ (j : Nat) (v : Value) (w' : World), j = M.peekN x k → w'.ownsRow w.heap.size 5 1 v j ((M.peekL x j).map (Value.int .u8)) → Upd [] w w' →
      ∃ u, Ending.returned v = .returned u ∧ w'.ownsRow w.heap.size 5 1 u (M.peek x n).length ((M.peek x n).map (Value.int .u8)) ∧ Upd [] w w' := by
    intro j v w' hj ho hU
    refine ⟨v, rfl, ?_, hU⟩
    simp only [Mem.peek, HK.out, ← hj, peekL_length]
    exact ho
  have HF := Lib.hid hfin
  clear hfin
  have hrl := hM.lt
  go_enter Try.func72, Try.ntmps72
  go_wp2_with fail
  go_loopw [7, 8, 9] (fun v i _ wr => ∃ j : Nat, j ≤ k ∧ i = .int .i64 j ∧ (∀ t, t < j → M.mappedB (plus x t) = true) ∧ IsRef wr r M ∧ Upd [] w wr ∧ wr.ownsRow w.heap.size 5 1 v j ((M.peekL x j).map (Value.int .u8))) (fun v _ _ _ => k - slLen v)
  case atStart => exact ⟨0, Nat.zero_le _, rfl, by simp, hM, Upd.refl _ _, World.ownsRow_nil _ _ _ _⟩
  case round =>
    obtain ⟨j, hj, rfl, hc, hm, hU, ho⟩ := hrel
    have HC := Lib.hid hc
    have HM := Lib.hid hm
    have HU := Lib.hid hU
    have HO := Lib.hid ho
    clear hc hm hU ho hM
    obtain ⟨sb, sc, rfl⟩ := ownsRow_form HO.out
    have hplt := plus_lt x j
    have hpn := plus_nn x j
    by_cases hlt : j < k
    · have hmn : (j : Int) < n := by have := HMin.out; omega
      have h16 : (j : Int) < 16384 := by have := hk2.out; omega
      have q2 : (x + (j : Int)) % 4294967296 = plus x j := rfl
      cases hb : M.mappedB (plus x j)
      · have HB := Lib.hid hb
        have HR := Lib.hid (show (M.rightAt (plus x j) == 0) = true by rw [rightAt_mapped, hb]; rfl)
        clear hb
        go_wp2_with (go_at_call 136; refine (Right_ref M r (plus x j) _ HM.out (plus_nn x j)).mono ?_; rintro e w' ⟨rfl, rfl⟩; have hr0 := HR.out)
        go_ret
        exact HF.out j _ _ (peekN_stop M x k j hlt HC.out HB.out).symm HO.out HU.out
      · have HB := Lib.hid hb
        have HR := Lib.hid (show (M.rightAt (plus x j) == 0) = false by rw [rightAt_mapped, hb]; rfl)
        clear hb
        have hx := mapped_lt HB.out
        have cb := HM.out.cB (plus x j).toNat (by omega)
        go_wp2_with (first | (go_at_call 136; refine (Right_ref M r (plus x j) _ HM.out (plus_nn x j)).mono ?_; rintro e w' ⟨rfl, rfl⟩; have hr0 := HR.out) | (at_builtin; refine wpList_append_own _ rfl _ _ 22 rfl w.heap.size 5 i0 (.int .u8 0) 1 1 Try.underlying22 HI.out.1 HI.out.2.1 HI.out.2.2.1 HI.out.2.2.2 rfl (by decide) _ _ _ rfl (HO.out.alloc _) ⟨wr.heap.size, 0, none⟩ 1 1 [.int .u8 (M.B (plus x j).toNat)] rfl rfl (one_new _ _ _) (one_oneCell _ _) (by have := hk2.out; unfold maxLen; omega) (by have := hk2.out; omega) (by have := HU.out.size; simp; omega) ?_))
        intro v' w1 hown' hgrow _
        have hU1 := Upd.of_grown hgrow
        have hlt' := HO.out.lt
        have hU2 : Upd (Value.slice sb j sc).ownBlock.toList wr w1 := ((Upd.refl [] wr).alloc _).trans hU1 (by simp) (fun z hz => .inl hz)
        have hne : ∀ z, z ∈ (Value.slice sb j sc).ownBlock.toList → w.heap.size ≤ z := fun z hz => (hlt' z (by simpa using hz)).1
        have hm' := HM.out.keep hU2 (fun h => by have := hne _ h; omega)
        have hu' := HU.out.new hU2 hne
        have HM' := Lib.hid hm'
        have HU' := Lib.hid hu'
        have HO' := Lib.hid hown'
        clear hm' hu' hown' hgrow hU1 hU2 hne hlt' cb
        go_wp2_with fail
        go_roundw
        case rel => exact ⟨j + 1, by omega, by go_num, fun t ht => by
            by_cases e : t = j
            · subst e; exact HB.out
            · exact HC.out t (by omega), HM'.out, HU'.out, by rw [peekL_succ, List.map_append]; exact HO'.out⟩
        case measure => rw [slLen_own HO'.out]; simp [slLen]; omega
    · have hjk : j = k := by omega
      have hpk : j = M.peekN x k := by rw [hjk, peekN_all M x k (fun t ht => HC.out t (by omega))]
      have HP := Lib.hid hpk
      have hmin := HMin.out
      by_cases hmn : (j : Int) < n
      · have h16 : ¬ (j : Int) < 16384 := by omega
        clear hmin hpk hjk
        go_wp2_with fail
        go_ret
        exact HF.out j _ _ HP.out HO.out HU.out
      · clear hmin hpk hjk
        go_wp2_with fail
        go_ret
        exact HF.out j _ _ HP.out HO.out HU.out

end Go.Proofs.Ytoplekfnghkkdaa

/-
  Package page: Copy (slices.Clone), by its contract.
-/
namespace Go.Proofs.Ytoplekfnghkkdaa
open Go Go.RowKit
set_option linter.unusedVariables false
set_option linter.unusedSimpArgs false

theorem run_buildNone (w : World) : (Instr.buildSlice 147 0 #[]).run Try.prog w = .ok (.slice (some ⟨w.heap.size, 0, none⟩) 0 0) (w.alloc (.cells #[] 156)) := by
  simp [Instr.buildSlice, run_underlying Try.underlying147, sizeOf, typeInfo, zeroValue, info_page, page_zero, newRow, Instr.fill]
  exact congrArg (fun x => w.alloc (.cells x 156)) (by simp)

/-- A slice literal without items. -/
theorem wpList_buildNone {ops : Array Oper} {rest : List Oper} {op : Oper} {a : Act} {w : World} {Q : Exit → Act → World → Prop} (hgd : op.guard = none) (ho : op.op = .buildSlice 147 0 #[])
    (h : wpList Try.prog ops Q rest (a.put op.dst (.slice (some ⟨w.heap.size, 0, none⟩) 0 0)) (w.alloc (.cells #[] 156))) : wpList Try.prog ops Q (op :: rest) a w :=
  wpList_plain hgd fun _ hK => by
    unfold Oper.wp execOp
    simp only [ho, Array.map_empty, Sem.run_bind, run_buildNone, Result.andThen_ok, Sem.run_pure]
    exact hK _ _ h

theorem page_list (w : World) {a pb : Nat} {M : Mem} (hM : IsMem w a pb M) : ∀ j u, M.cells.toList[j]? = some u → w.cell? ((⟨pb, 0, none⟩ : Addr).add j) = some u := by
  intro j u hu
  obtain ⟨C, hC, hb⟩ := hM.pg
  have hj : j < 16448 := by
    by_cases h : j < 16448
    · exact h
    · rw [List.getElem?_eq_none (by rw [Array.length_toList, Mem.size_cells]; omega)] at hu; cases hu
  have e : (⟨pb, 0, none⟩ : Addr).add j = ⟨pb, j, none⟩ := by
    rcases j with _ | j <;> simp [Addr.add]
  rw [e, cells_of hb, hC.get j hj, ← hu, Array.getElem?_toList, Mem.getElem?_cells _ _ hj]

theorem cells_oneCell (M : Mem) : ∀ u ∈ M.cells.toList, u.oneCell' = true := by
  intro u hu
  rw [Array.mem_toList_iff, Mem.cells, Array.mem_map] at hu
  obtain ⟨k, _, rfl⟩ := hu
  rw [Mem.at_]; split <;> rfl

theorem owns_holds {w : World} {base : Nat} {v : Value} {M : Mem} (h : w.ownsRow base 156 257 v (0 + 64) M.cells.toList) : ∃ g c C, v = .slice (some ⟨g, 0, none⟩) 64 c ∧ 64 ≤ c ∧ base ≤ g ∧ Holds C M ∧ w.heap[g]? = some (.cells C 156 (0, 0)) := by
  obtain ⟨_, ⟨_, h2⟩ | ⟨g, cap, cur, h1, h2, h3, h4, h5, h6, h7⟩⟩ := h
  · cases h2
  · refine ⟨g, cap, cur, h1, h4, h2, ⟨by rw [h6]; omega, fun k hk => ?_⟩, h3⟩
    have : (cur.toList.take (64 * 257))[k]? = some (M.at_ k) := by rw [h7, Array.getElem?_toList, Mem.getElem?_cells _ _ hk]
    rw [List.getElem?_take, if_pos (by omega), Array.getElem?_toList] at this
    exact this

set_option maxRecDepth 100000 in
set_option maxHeartbeats 2000000 in
theorem Clone_any (M : Mem) (a pb c : Nat) (w : World) (hM : IsMem w a pb M) :
    Calls Try.prog 198 #[.slice (some ⟨pb, 0, none⟩) 64 c] w fun e w' => ∃ g d C, e = .returned (.slice (some ⟨g, 0, none⟩) 64 d) ∧ 64 ≤ d ∧ w.heap.size ≤ g ∧ Holds C M ∧ w'.heap[g]? = some (.cells C 156 (0, 0)) ∧ Upd [] w w' := by
  have hnil := fun w : World => Lib.run_eql_slice_nil w 147 156 (some ⟨pb, 0, none⟩) 64 c 0 0 Try.underlying147
  have HM := Lib.hid hM
  clear hM
  go_enter Try.func198, Try.ntmps198
  have hown : (w.alloc (.cells #[] 156)).ownsRow w.heap.size 156 257 (.slice (some ⟨w.heap.size, 0, none⟩) 0 0) 0 [] := ⟨by simp, .inr ⟨w.heap.size, 0, #[], rfl, Nat.le_refl _, heap_alloc_new _ _, Nat.le_refl _, Nat.zero_le _, rfl, rfl⟩⟩
  have HO := Lib.hid hown
  clear hown
  have hsz : Try.t156.size = 257 := by kernel_rfl
  have hby : Try.t156.bytes = 264 := by kernel_rfl
  have HS := Lib.hid (And.intro hsz hby)
  clear hsz hby
  go_wp2_with (first | (refine wpList_buildNone rfl rfl ?_) | (at_builtin; refine wpList_append_own _ rfl _ _ 147 rfl w.heap.size 156 Try.t156 (.agg zeroPage) 257 264 Try.underlying147 info_page page_zero HS.out.1 HS.out.2 (by simp [Value.cells, zeroPage_size]) (by decide) _ _ _ rfl HO.out ⟨pb, 0, none⟩ 64 c M.cells.toList rfl (by rw [Array.length_toList, Mem.size_cells]) (page_list _ (HM.out.keep ((Upd.refl [] w).alloc _) (by simp) (by simp))) (cells_oneCell M) (by unfold maxLen; omega) (by omega) (by simp) ?_; intro v' w' hv hg _))
  have e1 : ∀ l : List Value, [] ++ l = l := fun l => List.nil_append l
  rw [e1] at hv
  have hg' : Upd [w.heap.size] (w.alloc (.cells #[] 156)) w' := Upd.of_grown (row := some w.heap.size) hg
  clear hg
  have hx := owns_holds hv
  clear hv
  go_ret
  obtain ⟨g, d, C, he, hd, hge, hC, hb⟩ := hx
  exact ⟨g, d, C, ret_of he, hd, hge, hC, hb, ((Upd.refl [] w).alloc _).new hg' (by simp)⟩

set_option maxRecDepth 100000 in
set_option maxHeartbeats 2000000 in
theorem Copy_any (M : Mem) (a pb : Nat) (w : World) (hM : IsMem w a pb M) :
    Calls Try.prog 154 #[.pointer (some ⟨a, 0, none⟩)] w fun e w' => ∃ b qb, e = .returned (.pointer (some ⟨b, 0, none⟩)) ∧ w.heap.size ≤ b ∧ w.heap.size ≤ qb ∧ IsMem w' b qb M ∧ Upd [] w w' := by
  obtain ⟨c, hc, c0⟩ := hM.c0
  have HM := Lib.hid hM
  clear hM
  go_enter Try.func154, Try.ntmps154
  go_wp2_with (go_at_call 198; refine (Clone_any M a pb c _ HM.out).mono ?_; rintro e w1 ⟨g, d, C, rfl, hd, hge, hC, hb, hU⟩; have HB := Lib.hid hb; have HU := Lib.hid hU; clear hb hU)
  go_ret
  refine ⟨w1.heap.size, g, rfl, HU.out.size, hge, ?_, HU.out.alloc _⟩
  exact ⟨⟨d, hd, heap_alloc_new _ _⟩, ⟨C, hC, heap_alloc_keep _ HB.out⟩, HM.out.ok⟩

end Go.Proofs.Ytoplekfnghkkdaa

/-
  Package page: Load, by its contract.
-/
namespace Go.Proofs.Ytoplekfnghkkdaa
open Go Go.RowKit
set_option linter.unusedVariables false
set_option linter.unusedSimpArgs false

/-- A span of pages, with the bytes at its beginning. -/
structure SpanV where
  pg : Int
  ct : Int
  rt : Int
  by_ : ByteArray
  deriving Inhabited

def SpanV.ok (s : SpanV) : Prop := -9223372036854775808 ≤ s.ct ∧ s.ct ≤ 9223372036854775807

/-- Spans in memory: a slice. -/
def SpansIn (w : World) (v : Value) (l : List SpanV) (g : Nat) : Prop :=
  (∃ a c, v = .slice a 0 c ∧ l = []) ∨
  ∃ o c, v = .slice (some ⟨g, o, none⟩) l.length c ∧ g < w.heap.size ∧ l.length ≤ 9223372036854775807 ∧ ∀ i s, l[i]? = some s → w.cell? ⟨g, o + i * 4, none⟩ = some (.int .i64 s.pg) ∧ w.cell? ⟨g, o + i * 4 + 1, none⟩ = some (.int .i64 s.ct) ∧ w.cell? ⟨g, o + i * 4 + 2, none⟩ = some (.int .i64 s.rt) ∧ w.cell? ⟨g, o + i * 4 + 3, none⟩ = some (.string s.by_)

theorem SpansIn.keep {w w' : World} {v : Value} {l : List SpanV} {g : Nat} {S : List Nat} (h : SpansIn w v l g) (u : Upd S w w') (hg : g ∉ S) : SpansIn w' v l g := by
  rcases h with h | ⟨o, c, h1, h2, h4, h3⟩
  · exact .inl h
  · refine .inr ⟨o, c, h1, Nat.lt_of_lt_of_le h2 u.size, h4, fun i s hs => ?_⟩
    have e : ∀ k, w'.cell? ⟨g, k, none⟩ = w.cell? ⟨g, k, none⟩ := fun k => by
      simp only [World.cell?]; rw [u.block g h2 hg]
    rw [e, e, e, e]
    exact h3 i s hs

def strInts (s : ByteArray) : List Int := s.data.toList.map fun b => (b.toNat : Int)

theorem strInts_length (s : ByteArray) : (strInts s).length = s.size := by rw [strInts, List.length_map, Array.length_toList]; rfl

theorem strInts_ok (s : ByteArray) (i : Nat) : 0 ≤ (strInts s).getD i 0 ∧ (strInts s).getD i 0 ≤ 255 := by
  rw [List.getD_eq_getElem?_getD, strInts, List.getElem?_map]
  cases s.data.toList[i]? with
  | none => simp
  | some b =>
    have h := b.toNat_lt
    simp only [Option.map_some, Option.getD_some]
    exact ⟨by omega, by omega⟩

def Mem.spanB (M : Mem) (s : SpanV) : Bool := M.mapB s.pg s.ct s.rt && decide ((s.by_.size : Int) ≤ s.ct * 256)
def Mem.span1 (M : Mem) (s : SpanV) : Mem := (M.mapN s.pg.toNat s.ct.toNat s.rt).poke (s.pg * 256) (strInts s.by_)

def loadN (l : List SpanV) : Nat → Mem
  | 0 => Mem.zero
  | j + 1 => (loadN l j).span1 (l.getD j default)

def loadB (l : List SpanV) : Bool := (List.range l.length).all fun i => (loadN l i).spanB (l.getD i default)
def loadM (l : List SpanV) : Mem := loadN l l.length

/-- What Load leaves. -/
def loadR (l : List SpanV) (M : Mem) : Mem := if loadB l then loadM l else M

theorem loadR_yes {l : List SpanV} {M : Mem} (h : loadB l = true) : loadR l M = loadM l := by rw [loadR, if_pos h]
theorem loadR_no {l : List SpanV} {M : Mem} (h : loadB l = false) : loadR l M = M := by rw [loadR, if_neg (by rw [h]; simp)]

theorem mapB_row {M : Mem} {p n r : Int} (h : M.mapB p n r = true) : 0 ≤ p ∧ 1 ≤ n ∧ n ≤ 64 ∧ p ≤ 64 - n := by
  simp only [Mem.mapB, Mem.all, Bool.and_eq_true] at h
  exact (rowB_iff p n).1 h.2.1

theorem loadB_no {l : List SpanV} {j : Nat} (hj : j < l.length) (h : (loadN l j).spanB (l.getD j default) = false) : loadB l = false := by
  rw [loadB, List.all_eq_false]; exact ⟨j, List.mem_range.2 hj, by rw [h]; simp⟩

theorem loadB_yes {l : List SpanV} (h : ∀ j, j < l.length → (loadN l j).spanB (l.getD j default) = true) : loadB l = true := by
  rw [loadB, List.all_eq_true]; exact fun j hj => h j (List.mem_range.1 hj)

theorem bytes_sl (w : World) (s : ByteArray) (cap : Nat) (f : Nat × Nat) (h : s.size ≤ cap) :
    BySl ((w.drew.alloc (.cells (bytesRow s cap) 5 f))) (.slice (some ⟨w.heap.size, 0, none⟩) s.size cap) (strInts s) w.heap.size := by
  refine .inr ⟨0, cap, _, _, _, by rw [strInts_length], heap_alloc_new _ _, fun i hi => ?_⟩
  rw [strInts_length] at hi
  have hi' : i < s.data.size := hi
  have e : (strInts s).getD i 0 = ((s.data[i]'hi').toNat : Int) := by
    rw [List.getD_eq_getElem?_getD, strInts, List.getElem?_map, Array.getElem?_toList, Array.getElem?_eq_getElem hi']
    rfl
  rw [e, Nat.zero_add, bytesRow, Array.getElem?_append_left (by rw [Array.size_map]; exact hi'), Array.getElem?_map, Array.getElem?_eq_getElem hi']
  rfl

/-- The memory at a, its pages where they were, or new. -/
structure SomeMem (w w' : World) (a pb : Nat) (M : Mem) : Prop where
  ex : ∃ qb, (qb = pb ∨ w.heap.size ≤ qb) ∧ IsMem w' a qb M

theorem SomeMem.mk' {w w' : World} {a pb : Nat} {M : Mem} (qb : Nat) (h : qb = pb ∨ w.heap.size ≤ qb) (k : IsMem w' a qb M) : SomeMem w w' a pb M := ⟨⟨qb, h, k⟩⟩

theorem load_end {w w1 : World} {a pb na nb d : Nat} {M N : Mem} (hN : IsMem w1 na nb N) (hM : IsMem w a pb M) (hU : Upd [] w w1) (hna : w.heap.size ≤ na) (hnb : w.heap.size ≤ nb) (hd : 64 ≤ d)
    (h1 : w1.heap[na]? = some (.cells #[.slice (some ⟨nb, 0, none⟩) 64 d] 149 (0, 0))) : IsMem (w1.setCell ⟨a, 0, none⟩ (.slice (some ⟨nb, 0, none⟩) 64 d)) a nb N := by
  obtain ⟨c, _, h2⟩ := hM.hd
  have h3 := hU.get h2 (by simp)
  obtain ⟨C, h4, h5⟩ := hN.pg
  have ha := hM.al
  exact ⟨⟨d, hd, heap_set_same h3 0 _⟩, ⟨C, h4, heap_set_keep _ (by simp; omega) h5⟩, hN.ok⟩

set_option maxRecDepth 100000 in
set_option maxHeartbeats 4000000 in
theorem Load_any (M : Mem) (a pb g : Nat) (v : Value) (l : List SpanV) (w : World) (hM : IsMem w a pb M) (hl : SpansIn w v l g) (hok : ∀ s, s ∈ l → s.ok) :
    Calls Try.prog 55 #[.pointer (some ⟨a, 0, none⟩), v] w fun e w' => e = .returned (.int .i64 (errI (loadB l) 60)) ∧ SomeMem w w' a pb (loadR l M) ∧ Upd [a] w w' := by
  have hmo : Try.prog.follows .mixedOrders = true := by kernel_rfl
  have HM := Lib.hid hM
  have HL := Lib.hid hl
  clear hM
  have hl2 := hl
  clear hl
  rcases hl2 with ⟨x, c, rfl, rfl⟩ | ⟨o, c, rfl, hg, hlen, hc⟩
  · go_enter Try.func55, Try.ntmps55
    go_wp2_with (go_at_call 29; refine (New_any _).mono ?_; rintro e w1 ⟨na, nb, rfl, hna, hnb, hN, hU⟩; have HN := Lib.hid hN; have HU := Lib.hid hU; clear hN hU)
    go_loopw [11] (fun i wr => i = .int .i64 0 ∧ IsMem wr na nb Mem.zero ∧ Upd [] w wr) (fun _ _ => 0)
    case atStart => exact ⟨rfl, HN.out, HU.out⟩
    case round =>
      obtain ⟨rfl, hN, hU⟩ := hrel
      have HN := Lib.hid hN
      have HU := Lib.hid hU
      clear hN hU
      obtain ⟨d, hd, h1⟩ := HN.out.hd
      have H1 := Lib.hid h1
      have ca : wr.cell? ⟨na, 0, none⟩ = some (.slice (some ⟨nb, 0, none⟩) 64 d) := by rw [cells_of h1]; rfl
      obtain ⟨d2, hd2, h2⟩ := HM.out.hd
      have h2' := HU.out.get h2 (by simp)
      have H2 := Lib.hid h2'
      have hfr : wr.frozen? ⟨a, 0, none⟩ = false := free_of h2' 0
      have hcb : wr.cell? ⟨a, 0, none⟩ = some (.slice (some ⟨pb, 0, none⟩) 64 d2) := by rw [cells_of h2']; rfl
      clear h1 h2 h2'
      go_wp2
      go_ret
      exact ⟨rfl, SomeMem.mk' (M := loadR [] M) nb (.inr hnb) (load_end HN.out HM.out HU.out hna hnb hd H1.out), (HU.out.mono (by simp)).setCell (by simp) _⟩
  · have hcv := fun (w : World) (s : ByteArray) => run_bytes_of_string (P := Try.prog) w 9 22 5 s (by kernel_rfl) (by kernel_rfl) (by kernel_rfl)
    have HC := Lib.hid hc
    clear hc
    have HO := Lib.hid hok
    clear hok
    go_enter Try.func55, Try.ntmps55
    go_wp2_with (go_at_call 29; refine (New_any _).mono ?_; rintro e w1 ⟨na, nb, rfl, hna, hnb, hN, hU⟩; have HN := Lib.hid hN; have HU := Lib.hid hU; clear hN hU)
    go_loopw [11] (fun i wr => ∃ j : Nat, j ≤ l.length ∧ i = .int .i64 j ∧ (∀ k, k < j → (loadN l k).spanB (l.getD k default) = true) ∧ IsMem wr na nb (loadN l j) ∧ Upd [] w wr) (fun i _ => l.length - (intOf i).toNat)
    case atStart => exact ⟨0, Nat.zero_le _, rfl, by omega, HN.out, HU.out⟩
    case round =>
      obtain ⟨j, hj, rfl, hall, hN, hU⟩ := hrel
      clear HN HU
      have HN := Lib.hid hN
      have HU := Lib.hid hU
      have HA := Lib.hid hall
      clear hN hU hall
      by_cases hlt : j < l.length
      · obtain ⟨s, hs⟩ : ∃ s, l[j]? = some s := ⟨l[j], List.getElem?_eq_getElem hlt⟩
        have hsd : l.getD j default = s := by rw [List.getD_eq_getElem?_getD, hs]; rfl
        have hcs := HL.out.keep HU.out (by simp)
        obtain ⟨c0, c1, c2, c3⟩ : wr.cell? ⟨g, o + j * 4, none⟩ = some (.int .i64 s.pg) ∧ wr.cell? ⟨g, o + j * 4 + 1, none⟩ = some (.int .i64 s.ct) ∧ wr.cell? ⟨g, o + j * 4 + 2, none⟩ = some (.int .i64 s.rt) ∧ wr.cell? ⟨g, o + j * 4 + 3, none⟩ = some (.string s.by_) := by
          rcases hcs with ⟨_, _, hv, _⟩ | ⟨o', c', hv, _, _, h⟩
          · injection hv with _ e _; omega
          · injection hv with e _ _
            injection e with e
            injection e with _ e _
            subst e
            exact h j s hs
        have hsm : s.ok := HO.out s (List.mem_of_getElem? hs)
        have HS := Lib.hid hsm
        have HSD := Lib.hid hsd
        clear hcs hs hsm hsd
        have hmb : (loadN l j).mapB s.pg s.ct s.rt = true ∨ (loadN l j).mapB s.pg s.ct s.rt = false := by cases (loadN l j).mapB s.pg s.ct s.rt <;> simp
        rcases hmb with hmb | hmb
        · have hrow := mapB_row hmb
          have HB := Lib.hid hmb
          clear hmb
          by_cases hsz : (s.by_.size : Int) ≤ s.ct * 256
          · obtain ⟨p1, p2, p3, p4⟩ := hrow
            have q1 : s.pg * 256 % 4294967296 = s.pg * 256 := by omega
            have q2 : 0 ≤ s.pg * 256 := by omega
            have q3 : s.pg * 256 < 4294967296 := by omega
            go_wp2_with (first | (go_at_call 30; refine (Map_yes (loadN l j) na nb s.pg s.ct s.rt _ (HN.out.keep ((Upd.refl [] _).alloc _) (by simp) (by simp)) HS.out.1 HB.out).mono ?_; rintro e w2 ⟨rfl, hM2, hU2⟩; have HM2 := Lib.hid hM2; have HU2 := Lib.hid hU2; have cs2 : ∀ o, w2.cell? ⟨wr.heap.size, o, none⟩ = #[Value.int .i64 s.pg, .int .i64 s.ct, .int .i64 s.rt, .string s.by_][o]? := cells_of (hU2.get (heap_alloc_new _ _) (by have := HN.out.pl; simp; omega)); clear hM2 hU2) | (go_at_call 32; refine (Poke_any _ na nb (s.pg * 256) _ (strInts s.by_) w2.heap.size _ (HM2.out.keep (((Upd.refl [] _).drew).alloc _) (by simp) (by simp)) q2 q3 (bytes_sl _ _ _ _ (grownCap_ge _ _ _ _)) (by have := HM2.out.pl; omega) (strInts_ok _) (by rw [strInts_length]; unfold maxLen; omega)).mono ?_; rintro e w3 ⟨rfl, hM3, hU3⟩; have HM3 := Lib.hid hM3; have HU3 := Lib.hid hU3; clear hM3 hU3))
            go_roundw
            case rel =>
              refine ⟨j + 1, by omega, by go_num, fun k hk => ?_, ?_, ?_⟩
              · by_cases e : k = j
                · subst e
                  rw [HSD.out, Mem.spanB, HB.out]
                  simpa using hsz
                · exact HA.out k (by omega)
              · have h := HM3.out
                rw [loadN, HSD.out]
                exact h
              · have hn : ∀ x, x ∈ [nb] → x ∈ ([] : List Nat) ∨ w.heap.size ≤ x := by simpa using hnb
                exact ((((HU.out.alloc _).also HU2.out hn).drew).alloc _).also HU3.out hn
            case measure => simp [intOf]; omega
          · obtain ⟨p1, p2, p3, p4⟩ := hrow
            have hsz' : s.ct * 256 < s.by_.size := by omega
            go_wp2_with (go_at_call 30; refine (Map_yes (loadN l j) na nb s.pg s.ct s.rt _ (HN.out.keep ((Upd.refl [] _).alloc _) (by simp) (by simp)) HS.out.1 HB.out).mono ?_; rintro e w2 ⟨rfl, hM2, hU2⟩; have HM2 := Lib.hid hM2; have HU2 := Lib.hid hU2; have cs2 : ∀ o, w2.cell? ⟨wr.heap.size, o, none⟩ = #[Value.int .i64 s.pg, .int .i64 s.ct, .int .i64 s.rt, .string s.by_][o]? := cells_of (hU2.get (heap_alloc_new _ _) (by have := HN.out.pl; simp; omega)); clear hM2 hU2)
            go_ret
            have hn : ∀ x, x ∈ [nb] → x ∈ ([] : List Nat) ∨ w.heap.size ≤ x := by simpa using hnb
            have hno : loadB l = false := loadB_no hlt (by rw [HSD.out, Mem.spanB]; simp; omega)
            have hU' := (HU.out.alloc _).also HU2.out hn
            exact ⟨by rw [hno]; rfl, by rw [loadR_no hno]; exact SomeMem.mk' pb (.inl rfl) (HM.out.keep hU' (by simp) (by simp)), hU'.mono (by simp)⟩
        · have HB := Lib.hid hmb
          clear hmb
          go_wp2_with (go_at_call 30; refine (Map_no (loadN l j) na nb s.pg s.ct s.rt _ (HN.out.keep ((Upd.refl [] _).alloc _) (by simp) (by simp)) HS.out.1 HB.out).mono ?_; rintro e w2 ⟨rfl, hU2⟩; have HU2 := Lib.hid hU2; clear hU2)
          go_ret
          have hno : loadB l = false := loadB_no hlt (by rw [HSD.out, Mem.spanB, HB.out]; rfl)
          have hU' := (HU.out.alloc _).also HU2.out (by simp)
          exact ⟨by rw [hno]; rfl, by rw [loadR_no hno]; exact SomeMem.mk' pb (.inl rfl) (HM.out.keep hU' (by simp) (by simp)), hU'.mono (by simp)⟩
      · obtain ⟨d, hd, h1⟩ := HN.out.hd
        have H1 := Lib.hid h1
        have ca : wr.cell? ⟨na, 0, none⟩ = some (.slice (some ⟨nb, 0, none⟩) 64 d) := by rw [cells_of h1]; rfl
        obtain ⟨d2, hd2, h2⟩ := HM.out.hd
        have h2' := HU.out.get h2 (by simp)
        have H2 := Lib.hid h2'
        have hfr : wr.frozen? ⟨a, 0, none⟩ = false := free_of h2' 0
        have hcb : wr.cell? ⟨a, 0, none⟩ = some (.slice (some ⟨pb, 0, none⟩) 64 d2) := by rw [cells_of h2']; rfl
        clear h1 h2 h2'
        go_wp2
        go_ret
        have e : j = l.length := by omega
        subst e
        have hyes := loadB_yes HA.out
        exact ⟨by rw [hyes]; rfl, by rw [loadR_yes hyes]; exact SomeMem.mk' nb (.inr hnb) (load_end HN.out HM.out HU.out hna hnb hd H1.out), (HU.out.mono (by simp)).setCell (by simp) _⟩

end Go.Proofs.Ytoplekfnghkkdaa

/-
  The reference's memory: its zero value. No condition.
-/
namespace Go.Proofs.Ytoplekfnghkkdaa
open Go Go.RowKit
set_option linter.unusedVariables false
set_option linter.unusedSimpArgs false

structure Rep (v : Value) (l : List Value) (n : Nat) : Prop where
  eq : l = List.replicate n v

theorem Rep.append {v : Value} {l m : List Value} {a b : Nat} (h : Rep v l a) (k : Rep v m b) : Rep v (l.append m) (a + b) :=
  ⟨by rw [h.eq, k.eq]; exact List.replicate_append_replicate⟩

structure Rep2 (v u : Value) (l : List Value) (n m : Nat) : Prop where
  eq : l = List.replicate n v ++ List.replicate m u

theorem Rep2.append {v u : Value} {l l' : List Value} {n m m' : Nat} (h : Rep2 v u l n m) (k : Rep u l' m') : Rep2 v u (l.append l') n (m + m') :=
  ⟨by rw [h.eq, k.eq]; show (List.replicate n v ++ List.replicate m u) ++ List.replicate m' u = _; rw [List.append_assoc, List.replicate_append_replicate]⟩

theorem Rep.leaf {v : Value} {l : List Value} (h : l = List.replicate l.length v) : Rep v l l.length := ⟨h⟩
theorem Rep2.leaf {v u : Value} {l : List Value} (h : l = List.replicate l.length v) : Rep2 v u l l.length 0 := ⟨by rw [List.replicate_zero, List.append_nil]; exact h⟩

theorem zero_ref_shape : ∃ l n m, Try.t95.zero = some (.agg l.toArray) ∧ Rep2 (.int .i64 0) (.int .u8 0) l n m ∧ n = 64 ∧ m = 16384 := by
  apply Exists.intro
  apply Exists.intro
  apply Exists.intro
  apply And.intro
  · unfold Try.t95; exact rfl
  apply And.intro
  · repeat (first | (with_reducible apply Rep2.append) | (with_reducible apply Rep.append) | exact Rep.leaf (by kernel_rfl) | exact Rep2.leaf (by kernel_rfl))
  · exact ⟨by kernel_rfl, by kernel_rfl⟩

theorem zero_ref : ∃ Z : Array Value, Try.t95.zero = some (.agg Z) ∧ HoldsR Z Mem.zero := by
  obtain ⟨l, n, m, h, k, hn, hm⟩ := zero_ref_shape
  have hk := k.eq
  clear k
  refine ⟨l.toArray, h, ?_, fun i hi => ?_⟩
  · clear h
    rw [List.size_toArray, hk, List.length_append, List.length_replicate, List.length_replicate, hn, hm]
  · clear h
    rw [hk, List.getElem?_toArray]
    by_cases h64 : i < 64
    · rw [List.getElem?_append_left (by rw [List.length_replicate]; omega), List.getElem?_replicate, if_pos (by omega), Mem.rat, if_pos h64]
      rfl
    · rw [List.getElem?_append_right (by rw [List.length_replicate]; omega), List.length_replicate, List.getElem?_replicate, if_pos (by omega), Mem.rat, if_neg h64]
      rfl

theorem info_ref : Try.prog.info? 95 = some Try.t95 := by kernel_rfl

/-- The reference's new memory, as it is built. -/
theorem run_build_ref : ∃ Z : Array Value, HoldsR Z Mem.zero ∧ ∀ w, (Instr.build 95 #[]).run Try.prog w = .ok (.agg Z) w := by
  obtain ⟨Z, hz, hZ⟩ := zero_ref
  refine ⟨Z, hZ, fun w => ?_⟩
  have hz' : (zeroValue 95).run Try.prog w = .ok (.agg Z) w := by
    generalize hT : Try.t95 = T at hz
    have hi := info_ref
    rw [hT] at hi
    clear hT
    simp [zeroValue, typeInfo, hi, hz]
  clear hz
  unfold Instr.build
  simp only [Sem.run_bind, hz', Result.andThen_ok, Try.runUnderlying95]
  simp only [Array.mapM_eq_mapM_toList, List.mapM_cons, List.mapM_nil, Sem.run_bind, Sem.run_pure, Result.andThen_ok, Sem.run_map]
  have h49 : ∀ w, (sizeOf 92).run Try.prog w = .ok 64 w := Try.sizeOf92
  have h50 : ∀ w, (sizeOf 93).run Try.prog w = .ok 16384 w := Try.sizeOf93
  simp only [h49, h50, Result.andThen_ok]
  rfl

theorem ref_info : (Try.prog.info? 95).map (·.size) = some 16448 := by kernel_rfl

theorem rat_one (M : Mem) (k : Nat) : (M.rat k).oneCell' = true := by
  unfold Mem.rat; split <;> rfl

theorem HoldsR.one {C : Array Value} {M : Mem} (h : HoldsR C M) : C.all (·.oneCell') = true := by
  rw [Array.all_eq_true]
  intro i hi
  have hi' : i < 16448 := by rw [← h.size]; exact hi
  have e := h.get i hi'
  rw [Array.getElem?_eq_getElem hi] at e
  injection e with e
  rw [e]
  exact rat_one M i

theorem IsRef.new {w : World} {C : Array Value} {M : Mem} (h : HoldsR C M) (hok : M.Ok) : IsRef (w.alloc (.cells C 95 (0, 0))) w.heap.size M := ⟨⟨C, h, heap_alloc_new _ _⟩, hok⟩

theorem strInts_get (s : ByteArray) (k : Nat) (h : k < s.size) : (strInts s).getD k 0 = ((s[k].toNat : Nat) : Int) := by
  have hi' : k < s.data.size := h
  rw [List.getD_eq_getElem?_getD, strInts, List.getElem?_map, Array.getElem?_toList, Array.getElem?_eq_getElem hi']
  rfl

/-- The reference's bytes of a string's first k, from a place on. -/
def Mem.strN (M : Mem) (o : Nat) (s : ByteArray) : Nat → Mem
  | 0 => M
  | k + 1 => (M.strN o s k).setB (o + k) ((strInts s).getD k 0)

theorem Mem.strN_ok {M : Mem} (h : M.Ok) (o : Nat) (s : ByteArray) : ∀ k, (M.strN o s k).Ok
  | 0 => h
  | k + 1 => Mem.setB_ok (Mem.strN_ok h o s k) _ (strInts_ok s k).1 (strInts_ok s k).2

theorem pokeN_strN (M : Mem) (p : Int) (hp0 : 0 ≤ p) (s : ByteArray) : ∀ k : Nat, p * 256 + k ≤ 16384 → M.pokeN (p * 256) (strInts s) k = M.strN (p.toNat * 256) s k
  | 0, _ => rfl
  | k + 1, h => by
    rw [Mem.pokeN, Mem.strN, pokeN_strN M p hp0 s k (by omega)]
    congr 1
    unfold plus
    omega

end Go.Proofs.Ytoplekfnghkkdaa
