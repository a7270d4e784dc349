/-
  The reference's memory: Get, Put, Size, Read, Write: each by its contract. No condition.
-/
import Derived.Test.YtncafchgdgmeaaaRfC
namespace Go.Proofs.Ytncafchgdgmeaaa
open Go Go.RowKit
set_option linter.unusedVariables false
set_option linter.unusedSimpArgs false

theorem get_bound {M : Mem} (h : M.Ok) (x : Int) (j : Nat) : 0 ≤ M.get x j ∧ M.get x j < 2 ^ (8 * j) := by
  induction j with
  | zero => simp [Mem.get]
  | succ j ih =>
    have hb := h.B (plus x j).toNat
    simp only [Mem.get]
    have hp : (0 : Int) < 2 ^ (8 * j) := Int.pow_pos (by decide)
    have e : (2 : Int) ^ (8 * (j + 1)) = 256 * 2 ^ (8 * j) := by
      rw [Nat.mul_add, Int.pow_add]; simp [Int.mul_comm]
    rw [e]
    generalize (2 : Int) ^ (8 * j) = p at *
    generalize M.B (plus x j).toNat = b at *
    have h1 : 0 ≤ b * p := Int.mul_nonneg hb.1 (by omega)
    have h2 : b * p ≤ 255 * p := Int.mul_le_mul_of_nonneg_right hb.2 (by omega)
    omega

theorem or_add64 (g b : Int) (k : Nat) (hg0 : 0 ≤ g) (hg : g < 2 ^ k) (hb0 : 0 ≤ b) (hk : b * 2 ^ k + g < 18446744073709551616) : bits .or .u64 g (b * 2 ^ k % 18446744073709551616) = g + b * 2 ^ k := by
  obtain ⟨g, rfl⟩ := Int.eq_ofNat_of_zero_le hg0
  obtain ⟨b, rfl⟩ := Int.eq_ofNat_of_zero_le hb0
  have hg' : g < 2 ^ k := by exact_mod_cast hg
  have e0 : ((b : Int) * 2 ^ k) = ((b * 2 ^ k : Nat) : Int) := by
    rw [Int.natCast_mul, Int.natCast_pow]; rfl
  rw [e0] at hk
  have e2 : g ||| b * 2 ^ k = g + b * 2 ^ k := by
    rw [Nat.or_comm, nat_join k _ _ (Nat.mul_mod_left _ _) hg', Nat.add_comm]
  rw [e0]
  generalize hq : b * 2 ^ k = q at *
  have e1 : (q : Int) % 18446744073709551616 = (q : Int) := by omega
  rw [e1, u64_or_nat _ _ (by omega) (by omega), e2]
  rfl

theorem get_or64 {M : Mem} (h : M.Ok) (x : Int) (j : Nat) (hj : j < 8) :
    bits .or .u64 (M.get x j) (M.B (plus x j).toNat * 2 ^ (8 * j) % 18446744073709551616) = M.get x (j + 1) := by
  have hb := h.B (plus x j).toNat
  have hg := get_bound h x j
  simp only [Mem.get]
  refine or_add64 _ _ _ hg.1 hg.2 hb.1 ?_
  have h2 := (get_bound h x (j + 1)).2
  simp only [Mem.get] at h2
  have : (2 : Int) ^ (8 * (j + 1)) ≤ 2 ^ 64 := by
    have := Nat.pow_le_pow_right (show 0 < 2 by decide) (show 8 * (j + 1) ≤ 64 by omega)
    exact_mod_cast this
  have e : (2 : Int) ^ 64 = 18446744073709551616 := by decide
  omega

theorem wrap_u64 (z : Int) : IntKind.u64.wrap z = z % 18446744073709551616 := by simp [IntKind.wrap, IntKind.signed, IntKind.bits]

set_option maxRecDepth 100000 in
set_option maxHeartbeats 1000000 in
theorem Get_ref (M : Mem) (r n : Nat) (x : Int) (w : World) (hM : IsRef w r M) (h0 : 0 ≤ x) (h1 : x < 4294967296) (hn : n ≤ 8) (hx : ∀ t, t < n → plus x t < 16384) :
    Calls Try.prog 88 #[.pointer (some ⟨r, 0, none⟩), .int .u32 x, .int .i64 n] w fun e w' => e = .returned (.int .u64 (M.get x n)) ∧ w = w' := by
  have HX := Lib.hid hx
  have HM := Lib.hid hM
  clear hM hx
  go_enter Try.func88, Try.ntmps88
  go_wp2_with fail
  go_loop [7, 8] (fun v i => ∃ j : Nat, j ≤ n ∧ i = .int .i64 j ∧ v = .int .u64 (M.get x j)) (fun _ i => n - (intOf i).toNat)
  case atStart => exact ⟨0, Nat.zero_le _, rfl, rfl⟩
  case round =>
    obtain ⟨j, hj, rfl, rfl⟩ := hrel
    by_cases hlt : j < n
    · have hd : decide ((j : Int) < n) = true := by simp; omega
      have hlt' : (j : Int) < 8 := by omega
      have hpl := HX.out j hlt
      have hpn := plus_nn x j
      have cb := HM.out.cB (plus x j).toNat (by omega)
      have q2 : (x + (j : Int)) % 4294967296 = plus x j := rfl
      have hbd := HM.out.ok.B (plus x j).toNat
      go_wp2_with fail
      go_round
      case rel => exact ⟨j + 1, by omega, by go_num, by rw [wrap_u64, get_or64 HM.out.ok x j (by omega)]⟩
      case measure => simp [intOf]; omega
    · obtain rfl : n = j := by omega
      go_wp2_with fail
      go_ret
      exact ⟨rfl, rfl⟩

set_option maxRecDepth 100000 in
set_option maxHeartbeats 1000000 in
theorem Put_ref (M : Mem) (r n : Nat) (x v : Int) (w : World) (hM : IsRef w r M) (h0 : 0 ≤ x) (h1 : x < 4294967296) (hn : n ≤ 8) (hx : ∀ t, t < n → plus x t < 16384) (hv0 : 0 ≤ v) (hv1 : v < 18446744073709551616) :
    Calls Try.prog 87 #[.pointer (some ⟨r, 0, none⟩), .int .u32 x, .int .i64 n, .int .u64 v] w fun e w' => e = .returned (.tuple #[]) ∧ IsRef w' r (M.putN x v n) ∧ Upd [r] w w' := by
  have HX := Lib.hid hx
  have HM := Lib.hid hM
  clear hM hx
  go_enter Try.func87, Try.ntmps87
  go_wp2_with fail
  go_loopw [8] (fun i wr => ∃ j : Nat, j ≤ n ∧ i = .int .i64 j ∧ IsRef wr r (M.putN x v j) ∧ Upd [r] w wr) (fun i _ => n - (intOf i).toNat)
  case atStart => exact ⟨0, Nat.zero_le _, rfl, HM.out, Upd.refl _ _⟩
  case round =>
    obtain ⟨j, hj, rfl, hR, hU⟩ := hrel
    have HR := Lib.hid hR
    have HU := Lib.hid hU
    clear hR hU
    by_cases hlt : j < n
    · have hd : decide ((j : Int) < n) = true := by simp; omega
      have hlt' : (j : Int) < 8 := by omega
      have hpl := HX.out j hlt
      have hpn := plus_nn x j
      have cb := HR.out.cB (plus x j).toNat (by omega)
      have fb := HR.out.free (64 + (plus x j).toNat)
      have q2 : (x + (j : Int)) % 4294967296 = plus x j := rfl
      go_wp2_with fail
      go_roundw
      case rel => exact ⟨j + 1, by omega, by go_num, HR.out.setB (plus x j).toNat (v / 2 ^ (8 * j) % 256) (by omega) (by omega) (by omega), HU.out.setCell (by simp) _⟩
      case measure => simp [intOf]; omega
    · obtain rfl : n = j := by omega
      go_wp2_with fail
      go_end0
      exact ⟨rfl, HR.out, HU.out⟩

theorem Size_ref (n : Int) (w : World) :
    Calls Try.prog 97 #[.int .i64 n] w fun e w' => e = .returned (.int .i64 (widthI n)) ∧ w = w' := by
  by_cases h1 : n = 1
  · have HV := Lib.hid (show widthI n = n by rw [widthI, if_pos (.inl h1)])
    subst h1
    go_enter Try.func97, Try.ntmps97
    go_wp2
    go_ret
    exact ⟨by rw [HV.out]; rfl, rfl⟩
  · by_cases h2 : n = 2
    · have HV := Lib.hid (show widthI n = n by rw [widthI, if_pos (.inr h2)])
      subst h2
      go_enter Try.func97, Try.ntmps97
      go_wp2
      go_ret
      exact ⟨by rw [HV.out]; rfl, rfl⟩
    · have HV := Lib.hid (show widthI n = 4 by rw [widthI, if_neg (by omega)])
      have e1 : (n == 1) = false := by simpa using h1
      have e2 : (n == 2) = false := by simpa using h2
      clear h1 h2
      go_enter Try.func97, Try.ntmps97
      go_wp2
      go_ret
      exact ⟨by rw [HV.out]; rfl, rfl⟩

theorem rightI_mem (r : Int) : rightI r = 1 ∨ rightI r = 2 ∨ rightI r = 4 := by
  unfold rightI; split <;> omega

/-- That a byte lacks a right, and that it can't be used so, is one thing. -/
theorem canBad_bad {M : Mem} (hM : M.Ok) (x r : Int) (n : Nat) (hr : r = 1 ∨ r = 2 ∨ r = 4) : M.canBad x n r = M.bad x r n := by
  rw [Mem.canBad, Mem.bad]
  congr 1
  funext i
  have h := lack_can hM (plus x i) (plus_nn x i) r hr
  by_cases hc : M.can (plus x i) r = true
  · rw [h.2 hc, hc]; rfl
  · have hl : M.lack (plus x i) r ≠ 0 := fun e => hc (h.1 e)
    rw [Bool.not_eq_true] at hc
    rw [hc]
    simpa using hl

theorem lack_one {M : Mem} (hM : M.Ok) (y : Int) (r : Int) (hr : r = 1 ∨ r = 2 ∨ r = 4) (h : M.lack y r ≠ 0) : M.lack y r = r := by
  revert h
  unfold Mem.lack
  obtain ⟨q0, q7⟩ := Mem.rightAt_range hM y
  generalize M.rightAt y = q at *
  have hq : q = 0 ∨ q = 1 ∨ q = 2 ∨ q = 3 ∨ q = 4 ∨ q = 5 ∨ q = 6 ∨ q = 7 := by omega
  rcases hr with rfl | rfl | rfl <;> rcases hq with rfl | rfl | rfl | rfl | rfl | rfl | rfl | rfl <;> decide +kernel

theorem canF_rdF {M : Mem} (hM : M.Ok) (x b r : Int) : M.canF x (widthI b).toNat (rightI r) = M.rdF x b r := by
  rw [Mem.canF, Mem.rdF, canBad_bad hM x _ _ (rightI_mem r)]
  cases h : M.bad x (rightI r) (widthI b).toNat with
  | none => rfl
  | some i =>
    have h2 := h
    rw [← canBad_bad hM x _ _ (rightI_mem r)] at h2
    have h3 := List.find?_some h2
    simp only [bne_iff_ne, ne_eq] at h3
    simp only [lack_one hM _ _ (rightI_mem r) h3]

theorem canK_readK {M : Mem} (hM : M.Ok) (x b r : Int) : M.canK x (widthI b).toNat (rightI r) = M.readK x b r := by
  rw [Mem.canK, Mem.readK, canBad_bad hM x _ _ (rightI_mem r)]

theorem canF_wrF {M : Mem} (hM : M.Ok) (x b : Int) : M.canF x (widthI b).toNat 2 = M.wrF x b := by
  have h := canF_rdF hM x b 2
  have e : rightI 2 = 2 := rfl
  rw [e] at h
  rw [h]
  simp only [Mem.rdF, Mem.wrF, e]

theorem canK_writeK {M : Mem} (hM : M.Ok) (x b : Int) : M.canK x (widthI b).toNat 2 = M.writeK x b := by
  have h := canK_readK hM x b 2
  have e : rightI 2 = 2 := rfl
  rw [e] at h
  rw [h]
  simp only [Mem.readK, Mem.writeK, e]

theorem can_all_lt {M : Mem} (x r : Int) (n : Nat) (h : M.bad x r n = none) : ∀ t, t < n → plus x t < 16384 :=
  fun t ht => can_lt (plus_nn x t) ((bad_isNone M x n r).1 h t ht)

end Go.Proofs.Ytncafchgdgmeaaa
