/-
  Package page: Unmap, Protect: each by its contract.
-/
import Derived.Test.YtncafchgdgmeaaaPgC
namespace Go.Proofs.Ytncafchgdgmeaaa
open Go Go.RowKit
set_option linter.unusedVariables false
set_option linter.unusedSimpArgs false

theorem wr_zero (M : Mem) (p k : Nat) (h : p + k ≤ 64) : wr M.cells (p * 257) (Builtin.zeroCells zeroPage k).toList = (M.mapN p k 0).cells := by
  have hl : (Builtin.zeroCells zeroPage k).toList.length = k * 257 := by simp [Builtin.zeroCells, zeroPage_size]
  apply Array.ext_getElem?
  intro i
  rw [wr_get _ _ _ _ (by rw [hl, M.size_cells]; omega), hl]
  by_cases hk : i < 16448
  · rw [Mem.getElem?_cells _ _ hk, Mem.getElem?_cells _ _ hk]
    by_cases e : p * 257 ≤ i ∧ i < p * 257 + k * 257
    · rw [if_pos e]
      have h1 : i - p * 257 < k * 257 := by omega
      rw [Array.getElem?_toList, Builtin.zeroCells, Array.getElem?_map, Array.getElem?_range, zeroPage_size, if_pos h1]
      simp only [Option.map_some, Option.some.injEq]
      have hz := made_zero_fn (i - p * 257)
      rw [zeroPage_size] at hz
      rw [hz]
      have hm : (i - p * 257) % 257 = i % 257 := by omega
      have hp : p ≤ i / 257 ∧ i / 257 < p + k := by omega
      simp only [Mem.at_, hm, Mem.zero, Mem.mapN]
      by_cases e2 : i % 257 = 0
      · simp [e2, hp]
      · have hq := Nat.mod_lt i (show 257 > 0 by decide)
        have : (i / 257 * 256 + (i % 257 - 1)) / 256 = i / 257 := by omega
        simp [e2, this, hp]
    · rw [if_neg e]
      have hp : ¬ (p ≤ i / 257 ∧ i / 257 < p + k) := by omega
      simp only [Mem.at_, Mem.mapN]
      by_cases e2 : i % 257 = 0
      · simp [e2, hp]
      · have hq := Nat.mod_lt i (show 257 > 0 by decide)
        have : (i / 257 * 256 + (i % 257 - 1)) / 256 = i / 257 := by omega
        simp [e2, this, hp]
  · rw [if_neg (by omega), Array.getElem?_eq_none (by rw [Mem.size_cells]; omega), Array.getElem?_eq_none (by rw [Mem.size_cells]; omega)]

theorem zero_one (k : Nat) : (Builtin.zeroCells zeroPage k).all (·.oneCell') = true := by
  rw [Array.all_eq_true_iff_forall_mem]
  intro v hv
  simp only [Builtin.zeroCells, Array.mem_map] at hv
  obtain ⟨j, _, rfl⟩ := hv
  rw [made_zero_fn]
  exact Mem.at_one _ _

theorem run_clear_pages (M : Mem) (a pb p k c : Nat) (w : World) (hM : IsMem w a pb M) (hk : 0 < k) (h : p + k ≤ 64) (ty : TypeId) (cs : Array Bool) :
    (builtin .clear #[104] ty cs #[.slice (some ⟨pb, p * 257, none⟩) k c]).run Try.prog w = .ok (.value (.tuple #[])) (w.setCells pb (p * 257) (Builtin.zeroCells zeroPage k).toList) := by
  rw [BigFrame.builtin_clear]
  have hz : (zeroValue 113).run Try.prog w = .ok (.agg zeroPage) w := by
    simp [zeroValue, page_zero]
  have hl : (Builtin.zeroCells zeroPage k).size = k * 257 := by simp [Builtin.zeroCells, zeroPage_size]
  have ht := hM.there (p * 257) (k * 257) (by omega)
  have hs := run_storeCells_cells (P := Try.prog) pb (p * 257) (Builtin.zeroCells zeroPage k).toList 0 w (fun j hj => by simpa using (ht j (by simpa [hl] using hj)).1) (fun j hj => by simpa using (ht j (by simpa [hl] using hj)).2)
    (fun v hv => (Array.all_eq_true_iff_forall_mem.1 (zero_one k)) v (by simpa using hv))
  obtain ⟨j, rfl⟩ : ∃ j, k = j + 1 := ⟨k - 1, by omega⟩
  unfold Builtin.clear_
  simp only [Nat.add_zero] at hs
  simp [Sem.run_bind, hz, Value.cells, hs]

set_option maxRecDepth 100000 in
set_option maxHeartbeats 1000000 in
theorem Unmap_no (M : Mem) (a pb : Nat) (at_ n : Int) (w : World) (hM : IsMem w a pb M) (hn : -9223372036854775808 ≤ n) (h : M.unmapB at_ n = false) :
    Calls Try.prog 27 #[.pointer (some ⟨a, 0, none⟩), .int .i64 at_, .int .i64 n] w fun e w' => e = .returned (.int .i64 61) ∧ Upd [] w w' := by
  have HA := Lib.hid h
  clear h
  go_enter Try.func27, Try.ntmps27
  go_wp2_with (first | (go_at_call 55; refine (all_any M a pb at_ n true _ hM hn).mono ?_; rintro e w' ⟨rfl, hU⟩; rw [show M.all at_ n true = false from HA.out]))
  go_ret
  exact ⟨rfl, hU⟩

set_option maxRecDepth 100000 in
set_option maxHeartbeats 1000000 in
theorem Unmap_yes (M : Mem) (a pb : Nat) (at_ n : Int) (w : World) (hM : IsMem w a pb M) (hn : -9223372036854775808 ≤ n) (h : M.unmapB at_ n = true) :
    Calls Try.prog 27 #[.pointer (some ⟨a, 0, none⟩), .int .i64 at_, .int .i64 n] w fun e w' => e = .returned (.int .i64 0) ∧ IsMem w' a pb (M.mapN at_.toNat n.toNat 0) ∧ Upd [pb] w w' := by
  have ha : M.all at_ n true = true := h
  have hrow : rowB at_ n = true := by
    simp only [Mem.all, Bool.and_eq_true] at ha; exact ha.1
  obtain ⟨g1, g2, g3, g4⟩ := (rowB_iff at_ n).1 hrow
  have HA := Lib.hid ha
  have HW := Lib.hid hrow
  clear h ha hrow
  obtain ⟨p, rfl⟩ := Int.eq_ofNat_of_zero_le g1
  obtain ⟨k, rfl⟩ := Int.eq_ofNat_of_zero_le (show 0 ≤ n by omega)
  rw [Int.toNat_natCast, Int.toNat_natCast]
  go_enter Try.func27, Try.ntmps27
  go_wp2_with (first | (go_at_call 55; refine (all_any M a pb p k true _ hM hn).mono ?_; rintro e w1 ⟨rfl, hU⟩; rw [HA.out]; have hM1 := hM.keep hU (by simp) (by simp); have HU := Lib.hid hU; have HM1 := Lib.hid hM1; clear hU hM1) | (go_at_call 56; refine (row_yes a pb p k _ M HM1.out HW.out).mono ?_; rintro e w2 ⟨cc, rfl, rfl⟩; rw [Int.toNat_natCast, Int.toNat_natCast]) | (refine wpList_builtin1 rfl .clear _ #[104] rfl (.slice (some ⟨pb, p * 257, none⟩) k cc) rfl (.tuple #[]) _ (run_clear_pages M a pb p k cc _ HM1.out (by omega) (by omega) _) ?_))
  go_ret
  exact ⟨rfl, HM1.out.wr _ _ (by simp [Builtin.zeroCells, zeroPage_size]; omega) (wr_zero _ _ _ (by omega)) (HM1.out.ok.mapN_ok' _ _), (HU.out.mono (T := [pb]) (by simp)).setCells (by simp) _ _⟩

set_option maxRecDepth 100000 in
set_option maxHeartbeats 1000000 in
theorem Protect_no (M : Mem) (a pb : Nat) (at_ n r : Int) (w : World) (hM : IsMem w a pb M) (hn : -9223372036854775808 ≤ n) (h : M.protB at_ n r = false) :
    Calls Try.prog 66 #[.pointer (some ⟨a, 0, none⟩), .int .i64 at_, .int .i64 n, .int .i64 r] w fun e w' => e = .returned (.int .i64 61) ∧ Upd [] w w' := by
  cases hr : rightsB r
  · have HR := Lib.hid hr
    clear hr h
    go_enter Try.func66, Try.ntmps66
    go_wp2_with (first | (go_at_call 54; refine (isRights_any r _).mono ?_; rintro e w' ⟨rfl, rfl⟩; rw [HR.out]))
    go_ret
    exact ⟨rfl, Upd.refl _ _⟩
  · have ha : M.all at_ n true = false := by simpa [Mem.protB, hr] using h
    have HR := Lib.hid hr
    have HA := Lib.hid ha
    clear hr h ha
    go_enter Try.func66, Try.ntmps66
    go_wp2_with (first | (go_at_call 54; refine (isRights_any r _).mono ?_; rintro e w' ⟨rfl, rfl⟩; rw [HR.out]) | (go_at_call 55; refine (all_any M a pb at_ n true _ hM hn).mono ?_; rintro e w' ⟨rfl, hU⟩; rw [HA.out]))
    go_ret
    exact ⟨rfl, hU⟩

set_option maxRecDepth 100000 in
set_option maxHeartbeats 1000000 in
theorem Protect_yes (M : Mem) (a pb : Nat) (at_ n r : Int) (w : World) (hM : IsMem w a pb M) (hn : -9223372036854775808 ≤ n) (h : M.protB at_ n r = true) :
    Calls Try.prog 66 #[.pointer (some ⟨a, 0, none⟩), .int .i64 at_, .int .i64 n, .int .i64 r] w fun e w' => e = .returned (.int .i64 0) ∧ IsMem w' a pb (M.protN at_.toNat n.toNat r) ∧ Upd [pb] w w' := by
  simp only [Mem.protB, Bool.and_eq_true] at h
  obtain ⟨hr, ha⟩ := h
  have hrow : rowB at_ n = true := by
    simp only [Mem.all, Bool.and_eq_true] at ha; exact ha.1
  obtain ⟨g1, g2, g3, g4⟩ := (rowB_iff at_ n).1 hrow
  have HR := Lib.hid hr
  have HA := Lib.hid ha
  have HW := Lib.hid hrow
  clear hr ha hrow
  obtain ⟨p, rfl⟩ := Int.eq_ofNat_of_zero_le g1
  obtain ⟨k, rfl⟩ := Int.eq_ofNat_of_zero_le (show 0 ≤ n by omega)
  rw [Int.toNat_natCast, Int.toNat_natCast]
  go_enter Try.func66, Try.ntmps66
  go_wp2_with (first | (go_at_call 54; refine (isRights_any r _).mono ?_; rintro e w' ⟨rfl, rfl⟩; rw [HR.out]) | (go_at_call 55; refine (all_any M a pb p k true _ hM hn).mono ?_; rintro e w1 ⟨rfl, hU⟩; rw [HA.out]; have hM1 := hM.keep hU (by simp) (by simp); have HU := Lib.hid hU; have HM1 := Lib.hid hM1; clear hU hM1) | (go_at_call 56; refine (row_yes a pb p k _ M HM1.out HW.out).mono ?_; rintro e w2 ⟨cc, rfl, rfl⟩; rw [Int.toNat_natCast, Int.toNat_natCast]))
  go_loopw [11, 31] (fun _ i wr => ∃ j : Nat, j ≤ k ∧ i = .int .i64 j ∧ IsMem wr a pb (M.protN p j r) ∧ Upd [pb] w wr) (fun _ i _ => k - (intOf i).toNat)
  case atStart => exact ⟨0, Nat.zero_le _, rfl, by rw [Mem.protN_zero]; exact HM1.out, HU.out.mono (by simp)⟩
  case round =>
    obtain ⟨j, hj, rfl, hMj, hUj⟩ := hrel
    have hc : p + j < 64 → wr.cell? ⟨pb, p * 257 + j * 257, none⟩ = some (.int .i64 ((M.protN p j r).R (p + j))) := fun h => by
      rw [← hMj.cR _ h, Nat.add_mul]
    have hf : wr.frozen? ⟨pb, p * 257 + j * 257, none⟩ = false := hMj.free _
    have HMj := Lib.hid hMj
    have HUj := Lib.hid hUj
    clear hMj hUj
    by_cases hlt : j < k
    · have hc := hc (by omega)
      go_wp2
      go_roundw
      case rel =>
        refine ⟨j + 1, by omega, by go_num, ?_, HUj.out.setCell (by simp) _⟩
        have h := HMj.out.set ((p + j) * 257) (.int .i64 r) (by omega) (Mem.cells_setR _ _ _ (by omega)) (by rw [Mem.protN_succ]; exact Mem.protN_ok HM1.out.ok _ _ (by have := (rightsB_iff r).1 HR.out; omega) ((rightsB_iff r).1 HR.out).2)
        rw [Mem.protN_succ, Nat.add_mul] at h
        exact h
      case measure => simp [intOf]; omega
    · clear hc
      go_wp2
      go_ret
      have e : j = k := by omega
      subst e
      exact ⟨rfl, HMj.out, HUj.out⟩

end Go.Proofs.Ytncafchgdgmeaaa
