/-
  Package page: Unmap, Protect: each by its contract.
-/
import Derived.Test.YtdgclmibbmofcaaMg01
import Derived.Test.YtdgclmibbmofcaaMg03
import Derived.Test.YtdgclmibbmofcaaMg02
import Derived.Deep.QuietTactic
import Derived.BigQuiet
import Derived.Test.YtdgclmibbmofcaaMg04
namespace Go.Proofs.Ytdgclmibbmofcaa
open Go Go.RowKit
set_option linter.unusedVariables false
set_option linter.unusedSimpArgs false

theorem wr_zero (M : Mem) (p k : Nat) (h : p + k ≤ 64) : wr M.cells (p * 257) (Builtin.zeroCells zeroPage k).toList = (M.mapN p k 0).cells := by
  have hl : (Builtin.zeroCells zeroPage k).toList.length = k * 257 := by simp [Builtin.zeroCells, zeroPage_size]
  apply Array.ext_getElem?
  intro i
  rw [wr_get _ _ _ _ (by rw [hl, M.size_cells]; omega), hl]
  by_cases hk : i < 16448
  · rw [Mem.getElem?_cells _ _ hk, Mem.getElem?_cells _ _ hk]
    by_cases e : p * 257 ≤ i ∧ i < p * 257 + k * 257
    · rw [if_pos e]
      have h1 : i - p * 257 < k * 257 := by omega
      rw [Array.getElem?_toList, Builtin.zeroCells, Array.getElem?_map, Array.getElem?_range, zeroPage_size, if_pos h1]
      simp only [Option.map_some, Option.some.injEq]
      have hz := made_zero_fn (i - p * 257)
      rw [zeroPage_size] at hz
      rw [hz]
      have hm : (i - p * 257) % 257 = i % 257 := by omega
      have hp : p ≤ i / 257 ∧ i / 257 < p + k := by omega
      simp only [Mem.at_, hm, Mem.zero, Mem.mapN]
      by_cases e2 : i % 257 = 0
      · simp [e2, hp]
      · have hq := Nat.mod_lt i (show 257 > 0 by decide)
        have : (i / 257 * 256 + (i % 257 - 1)) / 256 = i / 257 := by omega
        simp [e2, this, hp]
    · rw [if_neg e]
      have hp : ¬ (p ≤ i / 257 ∧ i / 257 < p + k) := by omega
      simp only [Mem.at_, Mem.mapN]
      by_cases e2 : i % 257 = 0
      · simp [e2, hp]
      · have hq := Nat.mod_lt i (show 257 > 0 by decide)
        have : (i / 257 * 256 + (i % 257 - 1)) / 256 = i / 257 := by omega
        simp [e2, this, hp]
  · rw [if_neg (by omega), Array.getElem?_eq_none (by rw [Mem.size_cells]; omega), Array.getElem?_eq_none (by rw [Mem.size_cells]; omega)]

theorem zero_one (k : Nat) : (Builtin.zeroCells zeroPage k).all (·.oneCell') = true := by
  rw [Array.all_eq_true_iff_forall_mem]
  intro v hv
  simp only [Builtin.zeroCells, Array.mem_map] at hv
  obtain ⟨j, _, rfl⟩ := hv
  rw [made_zero_fn]
  exact Mem.at_one _ _

theorem run_clear_pages (M : Mem) (a pb p k c : Nat) (w : World) (hM : IsMem w a pb M) (hk : 0 < k) (h : p + k ≤ 64) (ty : TypeId) (cs : Array Bool) :
    (builtin .clear #[71] ty cs #[.slice (some ⟨pb, p * 257, none⟩) k c]).run Try.prog w = .ok (.value (.tuple #[])) (w.setCells pb (p * 257) (Builtin.zeroCells zeroPage k).toList) := by
  rw [BigFrame.builtin_clear]
  have hz : (zeroValue 108).run Try.prog w = .ok (.agg zeroPage) w := by
    simp [zeroValue, page_zero]
  have hl : (Builtin.zeroCells zeroPage k).size = k * 257 := by simp [Builtin.zeroCells, zeroPage_size]
  have ht := hM.there (p * 257) (k * 257) (by omega)
  have hs := run_storeCells_cells (P := Try.prog) pb (p * 257) (Builtin.zeroCells zeroPage k).toList 0 w (fun j hj => by simpa using (ht j (by simpa [hl] using hj)).1) (fun j hj => by simpa using (ht j (by simpa [hl] using hj)).2)
    (fun v hv => (Array.all_eq_true_iff_forall_mem.1 (zero_one k)) v (by simpa using hv))
  obtain ⟨j, rfl⟩ : ∃ j, k = j + 1 := ⟨k - 1, by omega⟩
  unfold Builtin.clear_
  simp only [Nat.add_zero] at hs
  simp [Sem.run_bind, hz, Value.cells, hs]

set_option maxRecDepth 100000 in
set_option maxHeartbeats 1000000 in
theorem Unmap_no (M : Mem) (a pb : Nat) (at_ n : Int) (w : World) (hM : IsMem w a pb M) (hn : -9223372036854775808 ≤ n) (h : M.unmapB at_ n = false) :
    Calls Try.prog 52 #[.pointer (some ⟨a, 0, none⟩), .int .i64 at_, .int .i64 n] w fun e w' => e = .returned (.int .i64 61) ∧ Upd [] w w' := by
  have HA := Lib.hid h
  clear h
  go_enter Try.func52, Try.ntmps52
  go_wp2_with (first | (go_at_call 44; refine (all_any M a pb at_ n true _ hM hn).mono ?_; rintro e w' ⟨rfl, hU⟩; rw [show M.all at_ n true = false from HA.out]))
  go_ret
  exact ⟨rfl, hU⟩

set_option maxRecDepth 100000 in
set_option maxHeartbeats 1000000 in
theorem Unmap_yes (M : Mem) (a pb : Nat) (at_ n : Int) (w : World) (hM : IsMem w a pb M) (hn : -9223372036854775808 ≤ n) (h : M.unmapB at_ n = true) :
    Calls Try.prog 52 #[.pointer (some ⟨a, 0, none⟩), .int .i64 at_, .int .i64 n] w fun e w' => e = .returned (.int .i64 0) ∧ IsMem w' a pb (M.mapN at_.toNat n.toNat 0) ∧ Upd [pb] w w' := by
  have ha : M.all at_ n true = true := h
  have hrow : rowB at_ n = true := by
    simp only [Mem.all, Bool.and_eq_true] at ha; exact ha.1
  obtain ⟨g1, g2, g3, g4⟩ := (rowB_iff at_ n).1 hrow
  have HA := Lib.hid ha
  have HW := Lib.hid hrow
  clear h ha hrow
  obtain ⟨p, rfl⟩ := Int.eq_ofNat_of_zero_le g1
  obtain ⟨k, rfl⟩ := Int.eq_ofNat_of_zero_le (show 0 ≤ n by omega)
  rw [Int.toNat_natCast, Int.toNat_natCast]
  go_enter Try.func52, Try.ntmps52
  go_wp2_with (first | (go_at_call 44; refine (all_any M a pb p k true _ hM hn).mono ?_; rintro e w1 ⟨rfl, hU⟩; rw [HA.out]; have hM1 := hM.keep hU (by simp) (by simp); have HU := Lib.hid hU; have HM1 := Lib.hid hM1; clear hU hM1) | (go_at_call 45; refine (row_yes a pb p k _ M HM1.out HW.out).mono ?_; rintro e w2 ⟨cc, rfl, rfl⟩; rw [Int.toNat_natCast, Int.toNat_natCast]) | (refine wpList_builtin1 rfl .clear _ #[71] rfl (.slice (some ⟨pb, p * 257, none⟩) k cc) rfl (.tuple #[]) _ (run_clear_pages M a pb p k cc _ HM1.out (by omega) (by omega) _) ?_))
  go_ret
  exact ⟨rfl, HM1.out.wr _ _ (by simp [Builtin.zeroCells, zeroPage_size]; omega) (wr_zero _ _ _ (by omega)) (HM1.out.ok.mapN_ok' _ _), (HU.out.mono (T := [pb]) (by simp)).setCells (by simp) _ _⟩

set_option maxRecDepth 100000 in
set_option maxHeartbeats 1000000 in
theorem Protect_no (M : Mem) (a pb : Nat) (at_ n r : Int) (w : World) (hM : IsMem w a pb M) (hn : -9223372036854775808 ≤ n) (h : M.protB at_ n r = false) :
    Calls Try.prog 53 #[.pointer (some ⟨a, 0, none⟩), .int .i64 at_, .int .i64 n, .int .i64 r] w fun e w' => e = .returned (.int .i64 61) ∧ Upd [] w w' := by
  cases hr : rightsB r
  · have HR := Lib.hid hr
    clear hr h
    go_enter Try.func53, Try.ntmps53
    go_wp2_with (first | (go_at_call 43; refine (isRights_any r _).mono ?_; rintro e w' ⟨rfl, rfl⟩; rw [HR.out]))
    go_ret
    exact ⟨rfl, Upd.refl _ _⟩
  · have ha : M.all at_ n true = false := by simpa [Mem.protB, hr] using h
    have HR := Lib.hid hr
    have HA := Lib.hid ha
    clear hr h ha
    go_enter Try.func53, Try.ntmps53
    go_wp2_with (first | (go_at_call 43; refine (isRights_any r _).mono ?_; rintro e w' ⟨rfl, rfl⟩; rw [HR.out]) | (go_at_call 44; refine (all_any M a pb at_ n true _ hM hn).mono ?_; rintro e w' ⟨rfl, hU⟩; rw [HA.out]))
    go_ret
    exact ⟨rfl, hU⟩

set_option maxRecDepth 100000 in
set_option maxHeartbeats 1000000 in
theorem Protect_yes (M : Mem) (a pb : Nat) (at_ n r : Int) (w : World) (hM : IsMem w a pb M) (hn : -9223372036854775808 ≤ n) (h : M.protB at_ n r = true) :
    Calls Try.prog 53 #[.pointer (some ⟨a, 0, none⟩), .int .i64 at_, .int .i64 n, .int .i64 r] w fun e w' => e = .returned (.int .i64 0) ∧ IsMem w' a pb (M.protN at_.toNat n.toNat r) ∧ Upd [pb] w w' := by
  simp only [Mem.protB, Bool.and_eq_true] at h
  obtain ⟨hr, ha⟩ := h
  have hrow : rowB at_ n = true := by
    simp only [Mem.all, Bool.and_eq_true] at ha; exact ha.1
  obtain ⟨g1, g2, g3, g4⟩ := (rowB_iff at_ n).1 hrow
  have HR := Lib.hid hr
  have HA := Lib.hid ha
  have HW := Lib.hid hrow
  clear hr ha hrow
  obtain ⟨p, rfl⟩ := Int.eq_ofNat_of_zero_le g1
  obtain ⟨k, rfl⟩ := Int.eq_ofNat_of_zero_le (show 0 ≤ n by omega)
  rw [Int.toNat_natCast, Int.toNat_natCast]
  go_enter Try.func53, Try.ntmps53
  go_wp2_with (first | (go_at_call 43; refine (isRights_any r _).mono ?_; rintro e w' ⟨rfl, rfl⟩; rw [HR.out]) | (go_at_call 44; refine (all_any M a pb p k true _ hM hn).mono ?_; rintro e w1 ⟨rfl, hU⟩; rw [HA.out]; have hM1 := hM.keep hU (by simp) (by simp); have HU := Lib.hid hU; have HM1 := Lib.hid hM1; clear hU hM1) | (go_at_call 45; refine (row_yes a pb p k _ M HM1.out HW.out).mono ?_; rintro e w2 ⟨cc, rfl, rfl⟩; rw [Int.toNat_natCast, Int.toNat_natCast]))
  go_loopw [11, 31] (fun _ i wr => ∃ j : Nat, j ≤ k ∧ i = .int .i64 j ∧ IsMem wr a pb (M.protN p j r) ∧ Upd [pb] w wr) (fun _ i _ => k - (intOf i).toNat)
  case atStart => exact ⟨0, Nat.zero_le _, rfl, by rw [Mem.protN_zero]; exact HM1.out, HU.out.mono (by simp)⟩
  case round =>
    obtain ⟨j, hj, rfl, hMj, hUj⟩ := hrel
    have hc : p + j < 64 → wr.cell? ⟨pb, p * 257 + j * 257, none⟩ = some (.int .i64 ((M.protN p j r).R (p + j))) := fun h => by
      rw [← hMj.cR _ h, Nat.add_mul]
    have hf : wr.frozen? ⟨pb, p * 257 + j * 257, none⟩ = false := hMj.free _
    have HMj := Lib.hid hMj
    have HUj := Lib.hid hUj
    clear hMj hUj
    by_cases hlt : j < k
    · have hc := hc (by omega)
      go_wp2
      go_roundw
      case rel =>
        refine ⟨j + 1, by omega, by go_num, ?_, HUj.out.setCell (by simp) _⟩
        have h := HMj.out.set ((p + j) * 257) (.int .i64 r) (by omega) (Mem.cells_setR _ _ _ (by omega)) (by rw [Mem.protN_succ]; exact Mem.protN_ok HM1.out.ok _ _ (by have := (rightsB_iff r).1 HR.out; omega) ((rightsB_iff r).1 HR.out).2)
        rw [Mem.protN_succ, Nat.add_mul] at h
        exact h
      case measure => simp [intOf]; omega
    · clear hc
      go_wp2
      go_ret
      have e : j = k := by omega
      subst e
      exact ⟨rfl, HMj.out, HUj.out⟩

end Go.Proofs.Ytdgclmibbmofcaa

/-
  The reference's memory (ferrymanref6): how it lies in cells; there, mapped, set, Map, Unmap, Protect: each by its contract.
-/
namespace Go.Proofs.Ytdgclmibbmofcaa
open Go Go.RowKit
set_option linter.unusedVariables false
set_option linter.unusedSimpArgs false

theorem Upd.drewN {S : List Nat} {a b : World} (h : Upd S a b) (n : Nat) : Upd S a (b.drewN n) := ⟨h.os, h.tape, h.output, h.size, h.block⟩

/-- The cell at place k of the reference's memory: 64 rights, 16384 bytes. -/
def Mem.rat (M : Mem) (k : Nat) : Value := if k < 64 then .int .i64 (M.R k) else .int .u8 (M.B (k - 64))

structure HoldsR (C : Array Value) (M : Mem) : Prop where
  size : C.size = 16448
  get : ∀ k, k < 16448 → C[k]? = some (M.rat k)

structure IsRef (w : World) (r : Nat) (M : Mem) : Prop where
  ex : ∃ C, HoldsR C M ∧ w.heap[r]? = some (.cells C 30 (0, 0))
  ok : M.Ok

theorem IsRef.lt {w : World} {r : Nat} {M : Mem} (h : IsRef w r M) : r < w.heap.size := by
  obtain ⟨C, _, h1⟩ := h.ex; exact lt_of_heap h1

theorem IsRef.keep {w w' : World} {r : Nat} {M : Mem} {S : List Nat} (h : IsRef w r M) (u : Upd S w w') (hr : r ∉ S) : IsRef w' r M := by
  obtain ⟨C, h1, h2⟩ := h.ex
  exact ⟨⟨C, h1, u.get h2 hr⟩, h.ok⟩

theorem IsRef.cR {w : World} {r : Nat} {M : Mem} (h : IsRef w r M) (p : Nat) (hp : p < 64) : w.cell? ⟨r, p, none⟩ = some (.int .i64 (M.R p)) := by
  obtain ⟨C, h1, h2⟩ := h.ex
  rw [cells_of h2, h1.get p (by omega), Mem.rat, if_pos hp]

theorem IsRef.cB {w : World} {r : Nat} {M : Mem} (h : IsRef w r M) (a : Nat) (ha : a < 16384) : w.cell? ⟨r, 64 + a, none⟩ = some (.int .u8 (M.B a)) := by
  obtain ⟨C, h1, h2⟩ := h.ex
  rw [cells_of h2, h1.get _ (by omega), Mem.rat, if_neg (by omega), Nat.add_sub_cancel_left]

theorem IsRef.free {w : World} {r : Nat} {M : Mem} (h : IsRef w r M) (o : Nat) : w.frozen? ⟨r, o, none⟩ = false := by
  obtain ⟨C, h1, h2⟩ := h.ex
  exact free_of h2 o

theorem IsRef.setR {w : World} {r : Nat} {M : Mem} (h : IsRef w r M) (p : Nat) (v : Int) (hp : p < 64) (h0 : 0 ≤ v) (h7 : v ≤ 7) : IsRef (w.setCell ⟨r, p, none⟩ (.int .i64 v)) r (M.setR p v) := by
  obtain ⟨C, h1, h2⟩ := h.ex
  refine ⟨⟨_, ⟨by rw [Array.size_setIfInBounds]; exact h1.size, fun k hk => ?_⟩, heap_set_same h2 p _⟩, Mem.setR_ok h.ok p h0 h7⟩
  rw [Array.getElem?_setIfInBounds, h1.get k hk, h1.size]
  by_cases e : p = k
  · subst e
    rw [if_pos rfl, if_pos (by omega), Mem.rat, if_pos hp]
    simp [Mem.setR]
  · rw [if_neg e]
    simp only [Mem.rat, Mem.setR]
    by_cases hk2 : k < 64
    · rw [if_pos hk2, if_pos hk2, if_neg (fun h => e h.symm)]
    · rw [if_neg hk2, if_neg hk2]

theorem IsRef.setB {w : World} {r : Nat} {M : Mem} (h : IsRef w r M) (a : Nat) (v : Int) (ha : a < 16384) (h0 : 0 ≤ v) (h7 : v ≤ 255) : IsRef (w.setCell ⟨r, 64 + a, none⟩ (.int .u8 v)) r (M.setB a v) := by
  obtain ⟨C, h1, h2⟩ := h.ex
  refine ⟨⟨_, ⟨by rw [Array.size_setIfInBounds]; exact h1.size, fun k hk => ?_⟩, heap_set_same h2 _ _⟩, Mem.setB_ok h.ok a h0 h7⟩
  rw [Array.getElem?_setIfInBounds, h1.get k hk, h1.size]
  by_cases e : 64 + a = k
  · subst e
    rw [if_pos rfl, if_pos (by omega), Mem.rat, if_neg (by omega), Nat.add_sub_cancel_left]
    simp [Mem.setB]
  · rw [if_neg e]
    simp only [Mem.rat, Mem.setB]
    by_cases hk2 : k < 64
    · rw [if_pos hk2, if_pos hk2]
    · rw [if_neg hk2, if_neg hk2, if_neg (by omega)]

set_option maxRecDepth 100000 in
set_option maxHeartbeats 1000000 in
theorem there_any (p n : Int) (w : World) (hn : -9223372036854775808 ≤ n) (hn2 : n ≤ 9223372036854775807) :
    Calls Try.prog 29 #[.int .i64 p, .int .i64 n] w fun e w' => e = .returned (.bool (rowB p n)) ∧ w = w' := by
  by_cases h1 : 0 ≤ p
  · by_cases h2 : p < 64
    · by_cases h3 : 0 < n
      · by_cases h4 : n ≤ 64 - p
        · have HV := Lib.hid (show rowB p n = true from (rowB_iff p n).2 (by omega))
          go_enter Try.func29, Try.ntmps29
          go_wp2
          go_ret
          exact ⟨by rw [HV.out]; rfl, rfl⟩
        · have HV := Lib.hid (show rowB p n = false by rw [← Bool.not_eq_true, rowB_iff]; omega)
          have h4' : 64 - p < n := by omega
          go_enter Try.func29, Try.ntmps29
          go_wp2
          go_ret
          exact ⟨by rw [HV.out]; rfl, rfl⟩
      · have HV := Lib.hid (show rowB p n = false by rw [← Bool.not_eq_true, rowB_iff]; omega)
        have h3' : n ≤ 0 := by omega
        go_enter Try.func29, Try.ntmps29
        go_wp2
        go_ret
        exact ⟨by rw [HV.out]; rfl, rfl⟩
    · have HV := Lib.hid (show rowB p n = false by rw [← Bool.not_eq_true, rowB_iff]; omega)
      have h2' : 64 ≤ p := by omega
      go_enter Try.func29, Try.ntmps29
      go_wp2
      go_ret
      exact ⟨by rw [HV.out]; rfl, rfl⟩
  · have HV := Lib.hid (show rowB p n = false by rw [← Bool.not_eq_true, rowB_iff]; omega)
    have h1' : p < 0 := by omega
    go_enter Try.func29, Try.ntmps29
    go_wp2
    go_ret
    exact ⟨by rw [HV.out]; rfl, rfl⟩

def Mem.allR (M : Mem) (p q : Nat) : Bool := (List.range (q - p)).all fun i => M.R (p + i) != 0
def Mem.anyR (M : Mem) (p q : Nat) : Bool := (List.range (q - p)).any fun i => M.R (p + i) != 0

theorem allR_succ (M : Mem) (p q : Nat) (h : p ≤ q) : M.allR p (q + 1) = (M.allR p q && (M.R q != 0)) := by
  have e : q + 1 - p = (q - p) + 1 := by omega
  have e2 : p + (q - p) = q := by omega
  simp [Mem.allR, e, List.range_succ, e2]
theorem anyR_succ (M : Mem) (p q : Nat) (h : p ≤ q) : M.anyR p (q + 1) = (M.anyR p q || (M.R q != 0)) := by
  have e : q + 1 - p = (q - p) + 1 := by omega
  have e2 : p + (q - p) = q := by omega
  simp [Mem.anyR, e, List.range_succ, e2]

set_option maxRecDepth 100000 in
set_option maxHeartbeats 1000000 in
theorem mapped_ref (M : Mem) (r p k : Nat) (w : World) (hM : IsRef w r M) (h : p + k ≤ 64) :
    Calls Try.prog 30 #[.pointer (some ⟨r, 0, none⟩), .int .i64 p, .int .i64 k] w fun e w' => e = .returned (.tuple #[.bool (M.allR p (p + k)), .bool (M.anyR p (p + k))]) ∧ Upd [] w w' := by
  have hmo : Try.prog.follows .mixedOrders = true := by kernel_rfl
  have HM := Lib.hid hM
  clear hM
  go_enter Try.func30, Try.ntmps30
  go_wp2_with fail
  go_loopw [8, 9, 10] (fun a b i wr => ∃ q : Nat, p ≤ q ∧ q ≤ p + k ∧ i = .int .i64 q ∧ a = .bool (M.allR p q) ∧ b = .bool (M.anyR p q) ∧ Upd [] w wr) (fun _ _ i _ => p + k - (intOf i).toNat)
  case atStart => exact ⟨p, Nat.le_refl _, by omega, rfl, by simp [Mem.allR], by simp [Mem.anyR], Upd.refl _ _⟩
  case round =>
    obtain ⟨q, hq0, hq, rfl, rfl, rfl, hU⟩ := hrel
    have hcR := (HM.out.keep hU (by simp)).cR q
    have HU := Lib.hid hU
    clear hU
    by_cases hlt : q < p + k
    · have hA := allR_succ M p q hq0
      have hE := anyR_succ M p q hq0
      have hcR := hcR (by omega)
      have h64 : q < 64 := by omega
      have hlt' : (q : Int) < p + k := by omega
      cases ha : M.allR p q <;> cases hb : M.anyR p q
      all_goals
        rw [ha] at hA
        rw [hb] at hE
        have HAE := Lib.hid (And.intro hA hE)
        clear hA hE ha hb
        go_wp2_with fail
        go_quiet (fail)
        go_wp2_with fail
        go_roundw
        case rel => exact ⟨q + 1, by omega, by omega, by go_num, by rw [HAE.out.1]; rfl, by rw [HAE.out.2]; rfl, HU.out.drewN _⟩
        case measure => simp [intOf]; omega
    · have e : q = p + k := by omega
      subst e
      clear hcR
      go_wp2_with fail
      go_ret2
      exact ⟨rfl, HU.out⟩

end Go.Proofs.Ytdgclmibbmofcaa

/-
  The reference's memory: set, Map, Unmap, Protect: each by its contract. No condition.
-/
namespace Go.Proofs.Ytdgclmibbmofcaa
open Go Go.RowKit
set_option linter.unusedVariables false
set_option linter.unusedSimpArgs false

/-- Pages p up to q have rights, and (if fresh) noughts. -/
def Mem.setTo (M : Mem) (p q : Nat) (r : Int) (fr : Bool) : Mem :=
  ⟨fun i => if p ≤ i ∧ i < q then r else M.R i, fun x => if fr = true ∧ p ≤ x / 256 ∧ x / 256 < q then 0 else M.B x⟩

/-- Page q's first j bytes are noughts. -/
def Mem.clr (M : Mem) (q j : Nat) : Mem := ⟨M.R, fun x => if q * 256 ≤ x ∧ x < q * 256 + j then 0 else M.B x⟩

theorem Mem.setTo_self (M : Mem) (p : Nat) (r : Int) (fr : Bool) : M.setTo p p r fr = M := by
  apply Mem.ext'
  · funext i; simp only [Mem.setTo]; rw [if_neg (by omega)]
  · funext x; simp only [Mem.setTo]; rw [if_neg (by omega)]

theorem Mem.clr_zero (M : Mem) (q : Nat) : M.clr q 0 = M := by
  apply Mem.ext'
  · rfl
  · funext x; simp only [Mem.clr]; rw [if_neg (by omega)]

theorem Mem.clr_succ (M : Mem) (q j : Nat) : (M.clr q j).setB (q * 256 + j) 0 = M.clr q (j + 1) := by
  apply Mem.ext'
  · rfl
  · funext x
    simp only [Mem.clr, Mem.setB]
    by_cases e : x = q * 256 + j
    · rw [if_pos e, if_pos (by omega)]
    · rw [if_neg e]
      by_cases h : q * 256 ≤ x ∧ x < q * 256 + j
      · rw [if_pos h, if_pos (by omega)]
      · rw [if_neg h, if_neg (by omega)]

theorem Mem.setTo_fresh (M : Mem) (p q : Nat) (r : Int) (h : p ≤ q) : ((M.setTo p q r true).setR q r).clr q 256 = M.setTo p (q + 1) r true := by
  apply Mem.ext'
  · funext i
    simp only [Mem.setTo, Mem.setR, Mem.clr]
    by_cases e : i = q
    · rw [if_pos e, if_pos (by omega)]
    · rw [if_neg e]
      by_cases h : p ≤ i ∧ i < q
      · rw [if_pos h, if_pos (by omega)]
      · rw [if_neg h, if_neg (by omega)]
  · funext x
    simp only [Mem.setTo, Mem.setR, Mem.clr, true_and]
    by_cases e : q * 256 ≤ x ∧ x < q * 256 + 256
    · rw [if_pos e, if_pos (by omega)]
    · rw [if_neg e]
      by_cases h : p ≤ x / 256 ∧ x / 256 < q
      · rw [if_pos h, if_pos (by omega)]
      · rw [if_neg h, if_neg (by omega)]

theorem Mem.setTo_stale (M : Mem) (p q : Nat) (r : Int) (h : p ≤ q) : (M.setTo p q r false).setR q r = M.setTo p (q + 1) r false := by
  apply Mem.ext'
  · funext i
    simp only [Mem.setTo, Mem.setR]
    by_cases e : i = q
    · rw [if_pos e, if_pos (by omega)]
    · rw [if_neg e]
      by_cases h : p ≤ i ∧ i < q
      · rw [if_pos h, if_pos (by omega)]
      · rw [if_neg h, if_neg (by omega)]
  · funext x
    simp [Mem.setTo, Mem.setR]

theorem Mem.setTo_map (M : Mem) (p k : Nat) (r : Int) : M.setTo p (p + k) r true = M.mapN p k r := by
  apply Mem.ext' <;> (funext x; simp [Mem.setTo, Mem.mapN])

theorem Mem.setTo_prot (M : Mem) (p k : Nat) (r : Int) : M.setTo p (p + k) r false = M.protN p k r := by
  apply Mem.ext' <;> (funext x; simp [Mem.setTo, Mem.protN])

set_option maxRecDepth 100000 in
set_option maxHeartbeats 1000000 in
theorem set_ref (M : Mem) (r p k : Nat) (v : Int) (fr : Bool) (w : World) (hM : IsRef w r M) (h : p + k ≤ 64) (h0 : 0 ≤ v) (h7 : v ≤ 7) :
    Calls Try.prog 31 #[.pointer (some ⟨r, 0, none⟩), .int .i64 p, .int .i64 k, .int .i64 v, .bool fr] w fun e w' => e = .returned (.tuple #[]) ∧ IsRef w' r (M.setTo p (p + k) v fr) ∧ Upd [r] w w' := by
  have HM := Lib.hid hM
  clear hM
  go_enter Try.func31, Try.ntmps31
  go_wp2_with fail
  go_loopw [10, 11] (fun i _ wr => ∃ q : Nat, p ≤ q ∧ q ≤ p + k ∧ i = .int .i64 q ∧ IsRef wr r (M.setTo p q v fr) ∧ Upd [r] w wr) (fun i _ _ => p + k - (intOf i).toNat)
  case atStart => exact ⟨p, Nat.le_refl _, by omega, rfl, by rw [Mem.setTo_self]; exact HM.out, Upd.refl _ _⟩
  case round =>
    obtain ⟨q, hq0, hq, rfl, hR, hU⟩ := hrel
    by_cases hlt : q < p + k
    · have hcR := hR.cR q (by omega)
      have hfR := hR.free q
      have hlt' : (q : Int) < p + k := by omega
      have h64 : q < 64 := by omega
      have HR := Lib.hid hR
      have HU := Lib.hid hU
      clear hR hU
      cases fr
      · go_wp2_with fail
        go_loopw [11] (fun i wr2 => i = .int .i64 0 ∧ IsRef wr2 r (M.setTo p (q + 1) v false) ∧ Upd [r] w wr2) (fun _ _ => 0)
        case atStart => exact ⟨rfl, by rw [← Mem.setTo_stale _ _ _ _ hq0]; exact HR.out.setR q v h64 h0 h7, HU.out.setCell (by simp) _⟩
        case round =>
          obtain ⟨rfl, hR2, hU2⟩ := hrel
          have HR2 := Lib.hid hR2
          have HU2 := Lib.hid hU2
          clear hR2 hU2
          go_wp2_with fail
          go_roundw
          case rel => exact ⟨q + 1, by omega, by omega, by go_num, HR2.out, HU2.out⟩
          case measure => simp [intOf]; omega
      · go_wp2_with fail
        go_loopw [11] (fun i wr2 => ∃ j : Nat, j ≤ 256 ∧ i = .int .i64 j ∧ IsRef wr2 r (((M.setTo p q v true).setR q v).clr q j) ∧ Upd [r] w wr2) (fun i _ => 256 - (intOf i).toNat)
        case atStart => exact ⟨0, by omega, rfl, by rw [Mem.clr_zero]; exact HR.out.setR q v h64 h0 h7, HU.out.setCell (by simp) _⟩
        case round =>
          obtain ⟨j, hj, rfl, hR2, hU2⟩ := hrel
          by_cases hjl : j < 256
          · have hcB := hR2.cB (q * 256 + j) (by omega)
            have hfB := hR2.free (64 + (q * 256 + j))
            have HR2 := Lib.hid hR2
            have HU2 := Lib.hid hU2
            clear hR2 hU2
            go_wp2_with fail
            go_roundw
            case rel => exact ⟨j + 1, by omega, by go_num, by rw [← Mem.clr_succ]; exact HR2.out.setB (q * 256 + j) 0 (by omega) (by omega) (by omega), HU2.out.setCell (by simp) _⟩
            case measure => simp [intOf]; omega
          · have e : j = 256 := by omega
            subst e
            have HR2 := Lib.hid hR2
            have HU2 := Lib.hid hU2
            clear hR2 hU2
            go_wp2_with fail
            go_roundw
            case rel => exact ⟨q + 1, by omega, by omega, by go_num, by rw [← Mem.setTo_fresh _ _ _ _ hq0]; exact HR2.out, HU2.out⟩
            case measure => simp [intOf]; omega
    · have e : q = p + k := by omega
      subst e
      have HR := Lib.hid hR
      have HU := Lib.hid hU
      clear hR hU
      go_wp2_with fail
      go_end0
      exact ⟨rfl, HR.out, HU.out⟩

theorem all_false_any (M : Mem) (p k : Nat) (h : rowB p k = true) : M.all p k false = !M.anyR p (p + k) := by
  have e : p + k - p = k := by omega
  simp [Mem.all, h, Mem.anyR, Mem.odd, e]
  
theorem all_true_all (M : Mem) (p k : Nat) (h : rowB p k = true) : M.all p k true = M.allR p (p + k) := by
  have e : p + k - p = k := by omega
  rw [Mem.all, h, Bool.true_and, Mem.allR, e, Int.toNat_natCast, Int.toNat_natCast, List.all_eq_not_any_not]
  congr 2
  funext i
  simp only [Mem.odd]
  cases M.R (p + i) != 0 <;> rfl

theorem all_no {M : Mem} {p n : Int} {b : Bool} (h : rowB p n = false) : M.all p n b = false := by rw [Mem.all, h, Bool.false_and]

/-- What Map, Unmap, Protect leave. -/
def Mem.mapM (M : Mem) (p n r : Int) : Mem := if M.mapB p n r then M.mapN p.toNat n.toNat r else M
def Mem.unmapM (M : Mem) (p n : Int) : Mem := if M.unmapB p n then M.mapN p.toNat n.toNat 0 else M
def Mem.protM (M : Mem) (p n r : Int) : Mem := if M.protB p n r then M.protN p.toNat n.toNat r else M

set_option maxRecDepth 100000 in
set_option maxHeartbeats 1000000 in
theorem Map_ref (M : Mem) (r : Nat) (p n v : Int) (w : World) (hM : IsRef w r M) (hn : -9223372036854775808 ≤ n) (hn2 : n ≤ 9223372036854775807) :
    Calls Try.prog 11 #[.pointer (some ⟨r, 0, none⟩), .int .i64 p, .int .i64 n, .int .i64 v] w fun e w' => e = .returned (.int .i64 (errI (M.mapB p n v) 61)) ∧ IsRef w' r (M.mapM p n v) ∧ Upd [r] w w' := by
  by_cases hrow : rowB p n = true
  · obtain ⟨g1, g2, g3, g4⟩ := (rowB_iff p n).1 hrow
    obtain ⟨p, rfl⟩ := Int.eq_ofNat_of_zero_le g1
    obtain ⟨k, rfl⟩ := Int.eq_ofNat_of_zero_le (show 0 ≤ n by omega)
    by_cases h1 : v < 1
    · have HB := Lib.hid (show M.mapB p k v = false by rw [Mem.mapB, show rightsB v = false from by rw [← Bool.not_eq_true, rightsB_iff]; omega, Bool.false_and])
      have HW := Lib.hid hrow
      have HM := Lib.hid hM
      clear hrow hM
      go_enter Try.func11, Try.ntmps11
      go_wp2_with (go_at_call 29; refine (there_any p k _ hn hn2).mono ?_; rintro e w' ⟨rfl, rfl⟩; rw [HW.out])
      go_ret
      exact ⟨by rw [HB.out]; rfl, by rw [Mem.mapM, HB.out]; exact HM.out, Upd.refl _ _⟩
    · by_cases h7 : 7 < v
      · have HB := Lib.hid (show M.mapB p k v = false by rw [Mem.mapB, show rightsB v = false from by rw [← Bool.not_eq_true, rightsB_iff]; omega, Bool.false_and])
        have HW := Lib.hid hrow
        have HM := Lib.hid hM
        clear hrow hM
        go_enter Try.func11, Try.ntmps11
        go_wp2_with (go_at_call 29; refine (there_any p k _ hn hn2).mono ?_; rintro e w' ⟨rfl, rfl⟩; rw [HW.out])
        go_ret
        exact ⟨by rw [HB.out]; rfl, by rw [Mem.mapM, HB.out]; exact HM.out, Upd.refl _ _⟩
      · have hall := all_false_any M p k hrow
        have hr : rightsB v = true := (rightsB_iff v).2 (by omega)
        have hv0 : 0 ≤ v := by omega
        have hv7 : v ≤ 7 := by omega
        cases ha : M.anyR p (p + k)
        · have HB := Lib.hid (show M.mapB p k v = true by rw [Mem.mapB, hr, hall, ha]; rfl)
          have HW := Lib.hid hrow
          have HM := Lib.hid hM
          have HA := Lib.hid ha
          clear hrow hM hall hr ha
          go_enter Try.func11, Try.ntmps11
          go_wp2_with (first | (go_at_call 29; refine (there_any p k _ hn hn2).mono ?_; rintro e w' ⟨rfl, rfl⟩; rw [HW.out]) | (go_at_call 30; refine (mapped_ref M r p k _ HM.out (by omega)).mono ?_; rintro e w1 ⟨rfl, hU⟩; rw [HA.out]; have HM1 := Lib.hid (HM.out.keep hU (by simp)); have HU := Lib.hid hU; clear hU) | (go_at_call 31; refine (set_ref M r p k v true _ HM1.out (by omega) hv0 hv7).mono ?_; rintro e w2 ⟨rfl, hM2, hU2⟩; have HM2 := Lib.hid hM2; have HU2 := Lib.hid hU2; clear hM2 hU2))
          go_ret
          exact ⟨by rw [HB.out]; rfl, by rw [Mem.mapM, HB.out, if_pos rfl, ← Mem.setTo_map]; exact HM2.out, (HU.out.mono (T := [r]) (by simp)).also HU2.out (fun _ h => .inl h)⟩
        · have HB := Lib.hid (show M.mapB p k v = false by rw [Mem.mapB, hr, hall, ha]; rfl)
          have HW := Lib.hid hrow
          have HM := Lib.hid hM
          have HA := Lib.hid ha
          clear hrow hM hall hr ha
          go_enter Try.func11, Try.ntmps11
          go_wp2_with (first | (go_at_call 29; refine (there_any p k _ hn hn2).mono ?_; rintro e w' ⟨rfl, rfl⟩; rw [HW.out]) | (go_at_call 30; refine (mapped_ref M r p k _ HM.out (by omega)).mono ?_; rintro e w1 ⟨rfl, hU⟩; rw [HA.out]; have HM1 := Lib.hid (HM.out.keep hU (by simp)); have HU := Lib.hid hU; clear hU))
          go_ret
          exact ⟨by rw [HB.out]; rfl, by rw [Mem.mapM, HB.out]; exact HM1.out, HU.out.mono (by simp)⟩
  · have hrow' : rowB p n = false := by simpa using hrow
    have HB := Lib.hid (show M.mapB p n v = false by rw [Mem.mapB, all_no hrow', Bool.and_false])
    have HW := Lib.hid hrow'
    have HM := Lib.hid hM
    clear hrow hM hrow'
    go_enter Try.func11, Try.ntmps11
    go_wp2_with (go_at_call 29; refine (there_any p n _ hn hn2).mono ?_; rintro e w' ⟨rfl, rfl⟩; rw [HW.out])
    go_ret
    exact ⟨by rw [HB.out]; rfl, by rw [Mem.mapM, HB.out]; exact HM.out, Upd.refl _ _⟩

set_option maxRecDepth 100000 in
set_option maxHeartbeats 1000000 in
theorem Protect_ref (M : Mem) (r : Nat) (p n v : Int) (w : World) (hM : IsRef w r M) (hn : -9223372036854775808 ≤ n) (hn2 : n ≤ 9223372036854775807) :
    Calls Try.prog 10 #[.pointer (some ⟨r, 0, none⟩), .int .i64 p, .int .i64 n, .int .i64 v] w fun e w' => e = .returned (.int .i64 (errI (M.protB p n v) 61)) ∧ IsRef w' r (M.protM p n v) ∧ Upd [r] w w' := by
  by_cases hrow : rowB p n = true
  · obtain ⟨g1, g2, g3, g4⟩ := (rowB_iff p n).1 hrow
    obtain ⟨p, rfl⟩ := Int.eq_ofNat_of_zero_le g1
    obtain ⟨k, rfl⟩ := Int.eq_ofNat_of_zero_le (show 0 ≤ n by omega)
    by_cases h1 : v < 1
    · have HB := Lib.hid (show M.protB p k v = false by rw [Mem.protB, show rightsB v = false from by rw [← Bool.not_eq_true, rightsB_iff]; omega, Bool.false_and])
      have HW := Lib.hid hrow
      have HM := Lib.hid hM
      clear hrow hM
      go_enter Try.func10, Try.ntmps10
      go_wp2_with (go_at_call 29; refine (there_any p k _ hn hn2).mono ?_; rintro e w' ⟨rfl, rfl⟩; rw [HW.out])
      go_ret
      exact ⟨by rw [HB.out]; rfl, by rw [Mem.protM, HB.out]; exact HM.out, Upd.refl _ _⟩
    · by_cases h7 : 7 < v
      · have HB := Lib.hid (show M.protB p k v = false by rw [Mem.protB, show rightsB v = false from by rw [← Bool.not_eq_true, rightsB_iff]; omega, Bool.false_and])
        have HW := Lib.hid hrow
        have HM := Lib.hid hM
        clear hrow hM
        go_enter Try.func10, Try.ntmps10
        go_wp2_with (go_at_call 29; refine (there_any p k _ hn hn2).mono ?_; rintro e w' ⟨rfl, rfl⟩; rw [HW.out])
        go_ret
        exact ⟨by rw [HB.out]; rfl, by rw [Mem.protM, HB.out]; exact HM.out, Upd.refl _ _⟩
      · have hall := all_true_all M p k hrow
        have hr : rightsB v = true := (rightsB_iff v).2 (by omega)
        have hv0 : 0 ≤ v := by omega
        have hv7 : v ≤ 7 := by omega
        cases ha : M.allR p (p + k)
        · have HB := Lib.hid (show M.protB p k v = false by rw [Mem.protB, hr, hall, ha]; rfl)
          have HW := Lib.hid hrow
          have HM := Lib.hid hM
          have HA := Lib.hid ha
          clear hrow hM hall hr ha
          go_enter Try.func10, Try.ntmps10
          go_wp2_with (first | (go_at_call 29; refine (there_any p k _ hn hn2).mono ?_; rintro e w' ⟨rfl, rfl⟩; rw [HW.out]) | (go_at_call 30; refine (mapped_ref M r p k _ HM.out (by omega)).mono ?_; rintro e w1 ⟨rfl, hU⟩; rw [HA.out]; have HM1 := Lib.hid (HM.out.keep hU (by simp)); have HU := Lib.hid hU; clear hU))
          go_ret
          exact ⟨by rw [HB.out]; rfl, by rw [Mem.protM, HB.out]; exact HM1.out, HU.out.mono (by simp)⟩
        · have HB := Lib.hid (show M.protB p k v = true by rw [Mem.protB, hr, hall, ha]; rfl)
          have HW := Lib.hid hrow
          have HM := Lib.hid hM
          have HA := Lib.hid ha
          clear hrow hM hall hr ha
          go_enter Try.func10, Try.ntmps10
          go_wp2_with (first | (go_at_call 29; refine (there_any p k _ hn hn2).mono ?_; rintro e w' ⟨rfl, rfl⟩; rw [HW.out]) | (go_at_call 30; refine (mapped_ref M r p k _ HM.out (by omega)).mono ?_; rintro e w1 ⟨rfl, hU⟩; rw [HA.out]; have HM1 := Lib.hid (HM.out.keep hU (by simp)); have HU := Lib.hid hU; clear hU) | (go_at_call 31; refine (set_ref M r p k v false _ HM1.out (by omega) hv0 hv7).mono ?_; rintro e w2 ⟨rfl, hM2, hU2⟩; have HM2 := Lib.hid hM2; have HU2 := Lib.hid hU2; clear hM2 hU2))
          go_ret
          exact ⟨by rw [HB.out]; rfl, by rw [Mem.protM, HB.out, if_pos rfl, ← Mem.setTo_prot]; exact HM2.out, (HU.out.mono (T := [r]) (by simp)).also HU2.out (fun _ h => .inl h)⟩
  · have hrow' : rowB p n = false := by simpa using hrow
    have HB := Lib.hid (show M.protB p n v = false by rw [Mem.protB, all_no hrow', Bool.and_false])
    have HW := Lib.hid hrow'
    have HM := Lib.hid hM
    clear hrow hM hrow'
    go_enter Try.func10, Try.ntmps10
    go_wp2_with (go_at_call 29; refine (there_any p n _ hn hn2).mono ?_; rintro e w' ⟨rfl, rfl⟩; rw [HW.out])
    go_ret
    exact ⟨by rw [HB.out]; rfl, by rw [Mem.protM, HB.out]; exact HM.out, Upd.refl _ _⟩

set_option maxRecDepth 100000 in
set_option maxHeartbeats 1000000 in
theorem Unmap_ref (M : Mem) (r : Nat) (p n : Int) (w : World) (hM : IsRef w r M) (hn : -9223372036854775808 ≤ n) (hn2 : n ≤ 9223372036854775807) :
    Calls Try.prog 9 #[.pointer (some ⟨r, 0, none⟩), .int .i64 p, .int .i64 n] w fun e w' => e = .returned (.int .i64 (errI (M.unmapB p n) 61)) ∧ IsRef w' r (M.unmapM p n) ∧ Upd [r] w w' := by
  by_cases hrow : rowB p n = true
  · obtain ⟨g1, g2, g3, g4⟩ := (rowB_iff p n).1 hrow
    obtain ⟨p, rfl⟩ := Int.eq_ofNat_of_zero_le g1
    obtain ⟨k, rfl⟩ := Int.eq_ofNat_of_zero_le (show 0 ≤ n by omega)
    have hall := all_true_all M p k hrow
    cases ha : M.allR p (p + k)
    · have HB := Lib.hid (show M.unmapB p k = false by rw [Mem.unmapB, hall, ha])
      have HW := Lib.hid hrow
      have HM := Lib.hid hM
      have HA := Lib.hid ha
      clear hrow hM hall ha
      go_enter Try.func9, Try.ntmps9
      go_wp2_with (first | (go_at_call 29; refine (there_any p k _ hn hn2).mono ?_; rintro e w' ⟨rfl, rfl⟩; rw [HW.out]) | (go_at_call 30; refine (mapped_ref M r p k _ HM.out (by omega)).mono ?_; rintro e w1 ⟨rfl, hU⟩; rw [HA.out]; have HM1 := Lib.hid (HM.out.keep hU (by simp)); have HU := Lib.hid hU; clear hU))
      go_ret
      exact ⟨by rw [HB.out]; rfl, by rw [Mem.unmapM, HB.out]; exact HM1.out, HU.out.mono (by simp)⟩
    · have HB := Lib.hid (show M.unmapB p k = true by rw [Mem.unmapB, hall, ha])
      have HW := Lib.hid hrow
      have HM := Lib.hid hM
      have HA := Lib.hid ha
      clear hrow hM hall ha
      go_enter Try.func9, Try.ntmps9
      go_wp2_with (first | (go_at_call 29; refine (there_any p k _ hn hn2).mono ?_; rintro e w' ⟨rfl, rfl⟩; rw [HW.out]) | (go_at_call 30; refine (mapped_ref M r p k _ HM.out (by omega)).mono ?_; rintro e w1 ⟨rfl, hU⟩; rw [HA.out]; have HM1 := Lib.hid (HM.out.keep hU (by simp)); have HU := Lib.hid hU; clear hU) | (go_at_call 31; refine (set_ref M r p k 0 true _ HM1.out (by omega) (by decide) (by decide)).mono ?_; rintro e w2 ⟨rfl, hM2, hU2⟩; have HM2 := Lib.hid hM2; have HU2 := Lib.hid hU2; clear hM2 hU2))
      go_ret
      exact ⟨by rw [HB.out]; rfl, by rw [Mem.unmapM, HB.out, if_pos rfl, ← Mem.setTo_map]; exact HM2.out, (HU.out.mono (T := [r]) (by simp)).also HU2.out (fun _ h => .inl h)⟩
  · have hrow' : rowB p n = false := by simpa using hrow
    have HB := Lib.hid (show M.unmapB p n = false by rw [Mem.unmapB, all_no hrow'])
    have HW := Lib.hid hrow'
    have HM := Lib.hid hM
    clear hrow hM hrow'
    go_enter Try.func9, Try.ntmps9
    go_wp2_with (go_at_call 29; refine (there_any p n _ hn hn2).mono ?_; rintro e w' ⟨rfl, rfl⟩; rw [HW.out])
    go_ret
    exact ⟨by rw [HB.out]; rfl, by rw [Mem.unmapM, HB.out]; exact HM.out, Upd.refl _ _⟩

end Go.Proofs.Ytdgclmibbmofcaa

/-
  Package page: Write, by its contract.
-/
namespace Go.Proofs.Ytdgclmibbmofcaa
open Go Go.RowKit
set_option linter.unusedVariables false
set_option linter.unusedSimpArgs false

/-- What holds of the world while Write asks for the bytes, and while it writes them. -/
structure WriteB (M : Mem) (a pb : Nat) (w : World) (w1 : World) : Prop where
  f : w1.heap[w.heap.size]? = some (.cells #[.int .i64 0, .int .u32 0, .int .u32 0, .int .i64 0] 112 (0, 0))
  k : w1.heap[w.heap.size + 1]? = some (.cells #[.bool false] 4 (0, 0))
  m : IsMem w1 a pb M
  u : Upd [pb] w w1
  al : a < w.heap.size
  pl : pb < w.heap.size

structure WriteC (M : Mem) (a pb : Nat) (w : World) (g : Nat) (cur : Array Value) (w1 : World) : Prop where
  f : w1.heap[w.heap.size]? = some (.cells #[.int .i64 0, .int .u32 0, .int .u32 0, .int .i64 0] 112 (0, 0))
  k : w1.heap[w.heap.size + 1]? = some (.cells #[.bool false] 4 (0, 0))
  m : IsMem w1 a pb M
  u : Upd [pb] w w1
  g : w1.heap[g]? = some (.cells cur 133 (0, 0))

theorem WriteC.store {M : Mem} {a pb : Nat} {w w1 : World} {g : Nat} {cur : Array Value} (h : WriteC M a pb w g cur w1) (ha : a < w.heap.size) (hp : pb < w.heap.size) (hg : w.heap.size ≤ g) {y : Int} (h0 : 0 ≤ y) (h1 : y < 16384) {b : Int} (hb0 : 0 ≤ b) (hb1 : b ≤ 255) :
    WriteC (M.setB y.toNat b) a pb w g cur (w1.setCell ⟨pb, cellOf y, none⟩ (.int .u8 b)) :=
  ⟨heap_set_keep _ (by simp <;> omega) h.f, heap_set_keep _ (by simp <;> omega) h.k, h.m.store h0 h1 hb0 hb1, h.u.setCell (by simp) _, heap_set_keep _ (by simp <;> omega) h.g⟩

/-- The bytes of a number laid from x on, j of them. -/
def Mem.putN (M : Mem) (x v : Int) : Nat → Mem
  | 0 => M
  | j + 1 => (M.putN x v j).setB (plus x j).toNat (v / 2 ^ (8 * j) % 256)

theorem Mem.putN_R (M : Mem) (x v : Int) : ∀ j, (M.putN x v j).R = M.R
  | 0 => rfl
  | j + 1 => Mem.putN_R M x v j

def ptrs (pb : Nat) (x : Int) (j : Nat) : List Value := (List.range j).map fun t => .pointer (some ⟨pb, cellOf (plus x t), none⟩)

theorem ptrs_succ (pb : Nat) (x : Int) (j : Nat) : ptrs pb x (j + 1) = ptrs pb x j ++ [.pointer (some ⟨pb, cellOf (plus x j), none⟩)] := by
  simp [ptrs, List.range_succ]

theorem ptrs_get (pb : Nat) (x : Int) (n j : Nat) (hj : j < n) : (ptrs pb x n)[j]? = some (.pointer (some ⟨pb, cellOf (plus x j), none⟩)) := by
  simp [ptrs, hj]

theorem info_pu8 : (Try.prog.info? 133).map (fun i => (i.zero, i.size, i.bytes)) = some (some (.pointer none), 1, 8) := by kernel_rfl

theorem write_results (tmps : Array Value) (fb kb : Nat) (y0 y1 y2 y3 : Int) (k : Bool) (w : World) (h8 : tmps.getD 8 undef = .pointer (some ⟨fb, 0, none⟩)) (h9 : tmps.getD 9 undef = .pointer (some ⟨kb, 0, none⟩))
    (hf : w.heap[fb]? = some (.cells #[.int .i64 y0, .int .u32 y1, .int .u32 y2, .int .i64 y3] 112 (0, 0))) (hk : w.heap[kb]? = some (.cells #[.bool k] 4 (0, 0))) :
    (results Try.f49 tmps).run Try.prog w = .ok (.tuple #[.agg #[.int .i64 y0, .int .u32 y1, .int .u32 y2, .int .i64 y3], .bool k]) w := by
  have cf : ∀ o, w.cell? ⟨fb, o, none⟩ = #[.int .i64 y0, .int .u32 y1, .int .u32 y2, .int .i64 y3][o]? := cells_of hf
  have ck : ∀ o, w.cell? ⟨kb, o, none⟩ = #[.bool k][o]? := cells_of hk
  rw [Array.getD_eq_getD_getElem?] at h8 h9
  simp [results, Try.results49, go_sem, h8, h9, cf, ck]

def writeDefers (w : World) : List Deferred :=
  [{ target := .fn (.func 66) #[], args := #[.pointer (some ⟨w.heap.size, 0, none⟩), .pointer (some ⟨w.heap.size + 1, 0, none⟩)] }]

theorem write_door_panic (M : Mem) (a pb : Nat) (w w1 : World) (y r : Int) (tmps : Array Value) (R : Ending → World → Prop) (h8 : tmps.getD 8 undef = .pointer (some ⟨w.heap.size, 0, none⟩)) (h9 : tmps.getD 9 undef = .pointer (some ⟨w.heap.size + 1, 0, none⟩)) (hB : WriteB M a pb w w1)
    (hR : ∀ w', Upd [pb] w w' → IsMem w' a pb M → R (.returned (.tuple #[pageFault y r, .bool false])) w') :
    Leaves Try.prog Try.f49 tmps R (writeDefers w) (.panicking [{ v := .iface 112 (pageFault y r), recovered := false }]) w1 := by
  have hal := hB.al
  have hpl := hB.pl
  refine leaves_cons (f := 66) (args := #[.pointer (some ⟨w.heap.size, 0, none⟩), .pointer (some ⟨w.heap.size + 1, 0, none⟩)]) (by simp) (by simp [go_sem]) ?_
  refine (caught_panicking _ _ _ _ _ _ _ _ _ _ _ [] w1 hB.f hB.k (by omega)).mono ?_
  rintro e u' w2 ⟨rfl, rfl, hf, hk, hU⟩
  simp only [settle, List.dropWhile_nil]
  exact ⟨_, write_results _ _ _ _ _ _ _ _ w2 h8 h9 hf hk, hR _ (hB.u.also hU (by simp <;> omega)) (hB.m.keep hU (by simp <;> omega) (by simp <;> omega))⟩

theorem write_door_ret (w w1 : World) (tmps : Array Value) (R : Ending → World → Prop) (h8 : tmps.getD 8 undef = .pointer (some ⟨w.heap.size, 0, none⟩)) (h9 : tmps.getD 9 undef = .pointer (some ⟨w.heap.size + 1, 0, none⟩))
    (hf : w1.heap[w.heap.size]? = some (.cells #[.int .i64 0, .int .u32 0, .int .u32 0, .int .i64 0] 112 (0, 0)))
    (hk : w1.heap[w.heap.size + 1]? = some (.cells #[.bool true] 4 (0, 0)))
    (hR : R (.returned (.tuple #[.agg #[.int .i64 0, .int .u32 0, .int .u32 0, .int .i64 0], .bool true])) w1) :
    Leaves Try.prog Try.f49 tmps R (writeDefers w) .returning w1 := by
  refine leaves_cons (f := 66) (args := #[.pointer (some ⟨w.heap.size, 0, none⟩), .pointer (some ⟨w.heap.size + 1, 0, none⟩)]) (by simp) (by simp [go_sem]) ?_
  refine (caught_idle _ _ w1).mono ?_
  rintro e u' w2 ⟨rfl, rfl, rfl⟩
  simp only [settle]
  exact ⟨_, write_results _ _ _ _ _ _ _ _ w1 h8 h9 hf hk, hR⟩

/-- What Write tells, and leaves. -/
def Mem.writeF (M : Mem) (x bytes : Int) : Value :=
  match M.bad x 2 (widthI bytes).toNat with | none => .agg #[.int .i64 0, .int .u32 0, .int .u32 0, .int .i64 0] | some i => pageFault (plus x i) 2
def Mem.writeK (M : Mem) (x bytes : Int) : Bool := (M.bad x 2 (widthI bytes).toNat).isNone
def Mem.writeM (M : Mem) (x bytes v : Int) : Mem :=
  match M.bad x 2 (widthI bytes).toNat with | none => M.putN x v (widthI bytes).toNat | some _ => M

set_option maxRecDepth 100000 in
set_option maxHeartbeats 4000000 in
theorem Write_any (M : Mem) (a pb : Nat) (x bytes v : Int) (w : World) (hM : IsMem w a pb M) (h0 : 0 ≤ x) (h1 : x < 4294967296) (hv0 : 0 ≤ v) (hv1 : v < 4294967296) :
    Calls Try.prog 49 #[.pointer (some ⟨a, 0, none⟩), .int .u32 x, .int .i64 bytes, .int .u32 v] w fun e w' =>
      e = .returned (.tuple #[M.writeF x bytes, .bool (M.writeK x bytes)]) ∧ IsMem w' a pb (M.writeM x bytes v) ∧ Upd [pb] w w' := by
  have hal := hM.al
  have hpl := hM.pl
  have hw3 := width_cases bytes
  obtain ⟨n, hn⟩ : ∃ n : Nat, widthI bytes = n := ⟨(widthI bytes).toNat, by omega⟩
  have HN := Lib.hid hn
  have hn4 : n ≤ 4 := by omega
  have hn0 : 0 < n := by omega
  clear hw3 hn
  obtain ⟨i0, hi, hz0, hz1, hz2⟩ := info_parts info_pu8
  have HI := Lib.hid (And.intro hi (And.intro hz0 (And.intro hz1 hz2)))
  clear hi hz0 hz1 hz2
  have hfinP : ∀ (j : Nat) (w' : World), j < n → (∀ t, t < j → M.can (plus x t) 2 = true) → M.can (plus x j) 2 = false → Upd [pb] w w' → IsMem w' a pb M →
      (fun e w' => e = Ending.returned (.tuple #[M.writeF x bytes, .bool (M.writeK x bytes)]) ∧ IsMem w' a pb (M.writeM x bytes v) ∧ Upd [pb] w w') (.returned (.tuple #[pageFault (plus x j) 2, .bool false])) w' := by
    intro j w' hj hc hb hU hm
    have hbad := bad_some M x 2 n j hj hc hb
    simp only [Mem.writeF, Mem.writeK, Mem.writeM, HN.out, Int.toNat_natCast, hbad]
    exact ⟨rfl, hm, hU⟩
  have HFP := Lib.hid hfinP
  clear hfinP
  have hfinK : ∀ (w' : World), (∀ t, t < n → M.can (plus x t) 2 = true) → Upd [pb] w w' → IsMem w' a pb (M.putN x v n) →
      (fun e w' => e = Ending.returned (.tuple #[M.writeF x bytes, .bool (M.writeK x bytes)]) ∧ IsMem w' a pb (M.writeM x bytes v) ∧ Upd [pb] w w') (.returned (.tuple #[.agg #[.int .i64 0, .int .u32 0, .int .u32 0, .int .i64 0], .bool true])) w' := by
    intro w' hc hU hm
    have hbad := bad_none M x 2 n hc
    simp only [Mem.writeF, Mem.writeK, Mem.writeM, HN.out, Int.toNat_natCast, hbad]
    exact ⟨rfl, hm, hU⟩
  have HFK := Lib.hid hfinK
  clear hfinK
  have hstart : WriteB M a pb w ((w.alloc (Obj.cells #[Value.int IntKind.i64 0, Value.int IntKind.u32 0, Value.int IntKind.u32 0, Value.int IntKind.i64 0] 112)).alloc (Obj.cells #[Value.bool false] 4)) := by
    refine ⟨heap_alloc2_old _ _ _, heap_alloc2_new _ _ _, ?_, ?_, hal, hpl⟩
    · exact hM.keep (S := []) (((Upd.refl _ _).alloc _).alloc _) (by simp) (by simp)
    · exact ((Upd.refl _ _).alloc _).alloc _
  have HS := Lib.hid hstart
  clear hstart hM
  go_enter_defers Try.func49, Try.ntmps49
  go_wp2_with (go_at_call 67; refine (width_any bytes _).mono ?_; rintro e w' ⟨rfl, rfl⟩; rw [HN.out])
  go_loopw [10, 11, 16] (fun s _ i wr => ∃ j : Nat, j ≤ n ∧ i = .int .i64 j ∧ (∀ t, t < j → M.can (plus x t) 2 = true) ∧ WriteB M a pb w wr ∧ wr.ownsRow (w.heap.size + 2) 133 1 s j (ptrs pb x j) ∧ w.heap.size + 2 ≤ wr.heap.size) (fun _ _ i _ => n - (intOf i).toNat)
  case atStart => exact ⟨0, Nat.zero_le _, rfl, by simp, HS.out, World.ownsRow_nil _ _ _ _, by simp⟩
  case round =>
    obtain ⟨j, hj, rfl, hcan, hB, hown, hsz⟩ := hrel
    have HC := Lib.hid hcan
    have HB := Lib.hid hB
    have HO := Lib.hid hown
    clear hcan hB hown
    by_cases hlt : j < n
    · cases hb : M.can (plus x j) 2
      · have HBad := Lib.hid hb
        clear hb
        go_wp2_with (go_at_call 68; refine (at_bad a pb (plus x j) _ _ M HB.out.m (plus_nn x j) HBad.out).mono ?_; rintro e w2 ⟨rfl, rfl⟩)
        exact write_door_panic M a pb w wr _ _ _ _ rfl rfl HB.out (fun w' hU hm => HFP.out j w' hlt HC.out HBad.out hU hm)
      · have HGood := Lib.hid hb
        clear hb
        go_wp2_with (first | (go_at_call 68; refine (at_ok a pb (plus x j) _ _ M HB.out.m (plus_nn x j) HGood.out).mono ?_; rintro e w2 ⟨rfl, rfl⟩) | (at_builtin; refine wpList_append_own _ rfl _ _ 132 rfl (w.heap.size + 2) 133 i0 (.pointer none) 1 8 Try.underlying132 HI.out.1 HI.out.2.1 HI.out.2.2.1 HI.out.2.2.2 rfl (by decide) _ _ _ rfl (HO.out.alloc _) ⟨wr.heap.size, 0, none⟩ 1 1 [.pointer (some ⟨pb, cellOf (plus x j), none⟩)] rfl rfl ?_ ?_ ?_ ?_ ?_ ?_))
        · intro t u hu
          rcases t with _ | t
          · simp only [List.getElem?_cons_zero, Option.some.injEq] at hu
            subst hu
            rw [Addr.add_mid, cells_of (heap_alloc_new _ _)]
            rfl
          · simp at hu
        · intro u hu
          simp only [List.mem_singleton] at hu
          subst hu; rfl
        · unfold maxLen; omega
        · omega
        · simp; omega
        · intro v' w1 hown' hgrow _
          have hU1 := Upd.of_grown hgrow
          have hB' : WriteB M a pb w w1 := by
            have hlt' := HO.out.lt
            have hU2 : Upd u10.ownBlock.toList wr w1 := ((Upd.refl [] wr).alloc _).trans hU1 (by simp) (fun z hz => .inl hz)
            have hne : ∀ z, z ∈ u10.ownBlock.toList → w.heap.size + 2 ≤ z := fun z hz => (hlt' z (by simpa using hz)).1
            have hal := HB.out.al
            have hpl := HB.out.pl
            exact ⟨hU2.get HB.out.f (fun h => by have := hne _ h; omega), hU2.get HB.out.k (fun h => by have := hne _ h; omega), HB.out.m.keep hU2 (fun h => by have := hne _ h; omega) (fun h => by have := hne _ h; omega), HB.out.u.also hU2 (fun z hz => .inr (by have := hne z hz; omega)), hal, hpl⟩
          have hsz' := hgrow.size
          have HB' := Lib.hid hB'
          have HO' := Lib.hid hown'
          have HS' := Lib.hid hsz'
          clear hB' hown' hgrow hU1 hsz'
          go_wp2_with fail
          go_roundw
          case rel => exact ⟨j + 1, by omega, by go_num, fun t ht => by
              by_cases e : t = j
              · subst e; exact HGood.out
              · exact HC.out t (by omega), HB'.out, by rw [ptrs_succ]; exact HO'.out, by have := HS'.out; simp at this; omega⟩
          case measure => simp [intOf]; omega
    · have e : j = n := by omega
      obtain ⟨hl, ⟨_, h⟩ | ⟨g, cap, cur, rfl, hg, hh, hc1, hc2, hc3, hc4⟩⟩ := HO.out
      · omega
      · subst e
        have hcell : ∀ t, t < j → cur[t]? = some (.pointer (some ⟨pb, cellOf (plus x t), none⟩)) := fun t ht => by
          have := ptrs_get pb x j t ht
          rw [← hc4, List.getElem?_take, if_pos (by omega), Array.getElem?_toList] at this
          exact this
        have HCell := Lib.hid hcell
        have hstart2 : WriteC (M.putN x v 0) a pb w g cur wr := ⟨HB.out.f, HB.out.k, HB.out.m, HB.out.u, hh⟩
        have HS2 := Lib.hid hstart2
        clear hh hcell hl hstart2 hc3 hc4 HO hsz
        go_wp2_with fail
        go_loopw [12, 13, 31] (fun _ _ i wr => ∃ t : Nat, t ≤ j ∧ i = .int .i64 t ∧ WriteC (M.putN x v t) a pb w g cur wr) (fun _ _ i _ => j - (intOf i).toNat)
        case atStart => exact ⟨0, Nat.zero_le _, rfl, HS2.out⟩
        case round =>
          obtain ⟨t, ht, rfl, hB2⟩ := hrel
          have HB2 := Lib.hid hB2
          clear hB2
          by_cases hlt2 : t < j
          · have cg : wr.cell? ⟨g, t, none⟩ = some (.pointer (some ⟨pb, cellOf (plus x t), none⟩)) := by rw [cells_of HB2.out.g]; exact HCell.out t hlt2
            have hx := can_lt (plus_nn x t) (HC.out t hlt2)
            have cb := HB2.out.m.cbyte _ (plus_nn x t) hx
            have fb : ∀ o, wr.frozen? ⟨pb, o, none⟩ = false := HB2.out.m.free
            go_wp2_with fail
            go_roundw
            case rel => exact ⟨t + 1, by omega, by go_num, HB2.out.store hal hpl (by omega) (plus_nn x t) hx (by omega) (by omega)⟩
            case measure => simp [intOf]; omega
          · have e2 : t = j := by omega
            subst e2
            have cf : ∀ o, wr.cell? ⟨w.heap.size, o, none⟩ = #[.int .i64 0, .int .u32 0, .int .u32 0, .int .i64 0][o]? := cells_of HB2.out.f
            have ff : ∀ o, wr.frozen? ⟨w.heap.size, o, none⟩ = false := free_of HB2.out.f
            have ck : ∀ o, wr.cell? ⟨w.heap.size + 1, o, none⟩ = #[.bool false][o]? := cells_of HB2.out.k
            have fk : ∀ o, wr.frozen? ⟨w.heap.size + 1, o, none⟩ = false := free_of HB2.out.k
            go_wp2_with fail
            refine write_door_ret w _ _ _ rfl rfl ?_ ?_ (HFK.out _ HC.out ?_ ?_)
            · refine heap_set_keep _ (by simp) ?_
              have h := heap_set_same (heap_set_same (heap_set_same (heap_set_same HB2.out.f 0 (.int .i64 0)) 1 (.int .u32 0)) 2 (.int .u32 0)) 3 (.int .i64 0)
              exact h
            · exact heap_set_same (heap_set_keep _ (by simp) (heap_set_keep _ (by simp) (heap_set_keep _ (by simp) (heap_set_keep _ (by simp) HB2.out.k)))) 0 _
            · exact ((((HB2.out.u.setCell (by simp) _).setCell (by simp) _).setCell (by simp) _).setCell (by simp) _).setCell (by simp) _
            · exact HB2.out.m.keep (S := [w.heap.size, w.heap.size + 1]) (((((Upd.refl _ _).setCell (by simp) _).setCell (by simp) _).setCell (by simp) _).setCell (by simp) _ |>.setCell (by simp) _) (by simp <;> omega) (by simp <;> omega)
end Go.Proofs.Ytdgclmibbmofcaa

/-
  Faults as plain data; the rights that bytes lack; results in memory: a bool, a fault. No condition.
-/
namespace Go.Proofs.Ytdgclmibbmofcaa
open Go Go.RowKit
set_option linter.unusedVariables false
set_option linter.unusedSimpArgs false

theorem fault_info : (Try.prog.info? 112).map (·.size) = some 4 := by kernel_rfl

theorem store4 {w : World} {b : Nat} {t : TypeId} {a0 a1 a2 a3 : Value} (h : w.heap[b]? = some (.cells #[a0, a1, a2, a3] t (0, 0))) (u0 u1 u2 u3 : Value) :
    ((((w.setCell ⟨b, 0, none⟩ u0).setCell ⟨b, 0 + 1, none⟩ u1).setCell ⟨b, 0 + 2, none⟩ u2).setCell ⟨b, 0 + 3, none⟩ u3).heap[b]? = some (.cells #[u0, u1, u2, u3] t (0, 0)) :=
  heap_set_same (heap_set_same (heap_set_same (heap_set_same h 0 u0) 1 u1) 2 u2) 3 u3

theorem Upd_store4 {S : List Nat} {w0 w : World} {b : Nat} (h : Upd S w0 w) (hb : b ∈ S ∨ w0.heap.size ≤ b) (u0 u1 u2 u3 : Value) :
    Upd S w0 ((((w.setCell ⟨b, 0, none⟩ u0).setCell ⟨b, 0 + 1, none⟩ u1).setCell ⟨b, 0 + 2, none⟩ u2).setCell ⟨b, 0 + 3, none⟩ u3) :=
  (((h.setCell (p := ⟨b, 0, none⟩) hb _).setCell (p := ⟨b, 0 + 1, none⟩) hb _).setCell (p := ⟨b, 0 + 2, none⟩) hb _).setCell (p := ⟨b, 0 + 3, none⟩) hb _

/-- A fault's four numbers. -/
structure Flt where
  k : Int
  pc : Int
  a : Int
  wt : Int
  deriving DecidableEq

def Flt.cells (f : Flt) : Array Value := #[.int .i64 f.k, .int .u32 f.pc, .int .u32 f.a, .int .i64 f.wt]
def Flt.val (f : Flt) : Value := .agg #[.int .i64 f.k, .int .u32 f.pc, .int .u32 f.a, .int .i64 f.wt]
def Flt.zero : Flt := ⟨0, 0, 0, 0⟩

def Mem.rdF (M : Mem) (x bytes right : Int) : Flt := match M.bad x (rightI right) (widthI bytes).toNat with | none => Flt.zero | some i => ⟨1, 0, plus x i, rightI right⟩
def Mem.wrF (M : Mem) (x bytes : Int) : Flt := match M.bad x 2 (widthI bytes).toNat with | none => Flt.zero | some i => ⟨1, 0, plus x i, 2⟩

theorem Mem.readF_val (M : Mem) (x bytes right : Int) : M.readF x bytes right = (M.rdF x bytes right).val := by
  unfold Mem.readF Mem.rdF; cases M.bad x (rightI right) (widthI bytes).toNat <;> rfl
theorem Mem.writeF_val (M : Mem) (x bytes : Int) : M.writeF x bytes = (M.wrF x bytes).val := by
  unfold Mem.writeF Mem.wrF; cases M.bad x 2 (widthI bytes).toNat <;> rfl

/-- The least one of some rights. -/
def lowI (l : Int) : Int := bits .and .i64 l (wrap64 (-l))

/-- The rights of the page of a byte. -/
def Mem.rightAt (M : Mem) (x : Int) : Int := if x < 16384 then M.R (x / 256).toNat else 0

/-- The least right that a byte lacks. -/
def Mem.lack (M : Mem) (x r : Int) : Int := lowI (bits .andNot .i64 r (M.rightAt x))

theorem res_flt {tmps : Array Value} {w : World} (a : Tmp) (b : Nat) (F : Flt) (ha : tmps.getD a undef = .pointer (some ⟨b, 0, none⟩)) (hb : w.heap[b]? = some (.cells #[.int .i64 F.k, .int .u32 F.pc, .int .u32 F.a, .int .i64 F.wt] 112 (0, 0))) :
    (resRun tmps (.cell a 112)).run Try.prog w = .ok F.val w :=
  res_row a 112 b _ _ ha hb Try.underlying112 rfl fault_info

/-- The first of n bytes that lacks a right. -/
def Mem.canBad (M : Mem) (x : Int) (n : Nat) (r : Int) : Option Nat := (List.range n).find? fun i => M.lack (plus x i) r != 0
def Mem.canF (M : Mem) (x : Int) (n : Nat) (r : Int) : Flt := match M.canBad x n r with | none => Flt.zero | some i => ⟨1, 0, plus x i, M.lack (plus x i) r⟩
def Mem.canK (M : Mem) (x : Int) (n : Nat) (r : Int) : Bool := (M.canBad x n r).isNone

theorem canBad_some (M : Mem) (x : Int) (n : Nat) (r : Int) (j : Nat) (hj : j < n) (hc : ∀ t, t < j → M.lack (plus x t) r = 0) (hb : M.lack (plus x j) r ≠ 0) : M.canBad x n r = some j := by
  rw [Mem.canBad, List.find?_range_eq_some]
  exact ⟨by simpa using hb, by simpa using hj, fun t ht => by simp [hc t ht]⟩

theorem canBad_none (M : Mem) (x : Int) (n : Nat) (r : Int) (hc : ∀ t, t < n → M.lack (plus x t) r = 0) : M.canBad x n r = none := by
  rw [Mem.canBad, List.find?_eq_none]
  intro t ht
  simp [hc t (List.mem_range.1 ht)]

/-- A byte lacks the right to be written just where it can't be written. -/
theorem lack_can {M : Mem} (hM : M.Ok) (y : Int) (h0 : 0 ≤ y) (r : Int) (hr : r = 1 ∨ r = 2 ∨ r = 4) : (M.lack y r = 0) ↔ (M.can y r = true) := by
  unfold Mem.lack Mem.can Mem.rightAt
  by_cases h : y < 16384
  · rw [if_pos h, decide_eq_true h, Bool.true_and]
    have hR := hM.R (y / 256).toNat
    generalize M.R (y / 256).toNat = q at *
    obtain ⟨q0, q7⟩ := hR
    have hq : q = 0 ∨ q = 1 ∨ q = 2 ∨ q = 3 ∨ q = 4 ∨ q = 5 ∨ q = 6 ∨ q = 7 := by omega
    rcases hr with rfl | rfl | rfl <;> rcases hq with rfl | rfl | rfl | rfl | rfl | rfl | rfl | rfl <;> decide +kernel
  · rw [if_neg h, decide_eq_false h, Bool.false_and]
    rcases hr with rfl | rfl | rfl <;> decide +kernel

theorem find?_isNone {p : Nat → Bool} {n : Nat} : ((List.range n).find? p).isNone = true ↔ ∀ t, t < n → p t = false := by
  rw [Option.isNone_iff_eq_none, List.find?_eq_none]
  constructor
  · intro h t ht
    have := h t (List.mem_range.2 ht)
    simpa using this
  · intro h t ht
    simp [h t (List.mem_range.1 ht)]

theorem bad_isNone (M : Mem) (x : Int) (n : Nat) (r : Int) : M.bad x r n = none ↔ ∀ t, t < n → M.can (plus x t) r = true := by
  rw [← Option.isNone_iff_eq_none, Mem.bad, find?_isNone]
  simp

end Go.Proofs.Ytdgclmibbmofcaa
