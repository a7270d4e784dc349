/-
  Package page: Map, Unmap, Protect: each by its contract.
-/
import Derived.Test.YtncafchgdgmeaaaPgB
import Derived.Laws.Build
namespace Go.Proofs.Ytncafchgdgmeaaa
open Go Go.RowKit
set_option linter.unusedVariables false
set_option linter.unusedSimpArgs false

/-- Pages from p on, k of them, with these rights and noughts. -/
def Mem.mapN (M : Mem) (p k : Nat) (r : Int) : Mem :=
  ⟨fun q => if p ≤ q ∧ q < p + k then r else M.R q, fun x => if p ≤ x / 256 ∧ x / 256 < p + k then 0 else M.B x⟩

def Mem.protN (M : Mem) (p k : Nat) (r : Int) : Mem :=
  ⟨fun q => if p ≤ q ∧ q < p + k then r else M.R q, M.B⟩

theorem Mem.mapN_zero (M : Mem) (p : Nat) (r : Int) : M.mapN p 0 r = M := by
  apply Mem.ext'
  · funext q; simp only [Mem.mapN]; rw [if_neg (by omega)]
  · funext x; simp only [Mem.mapN]; rw [if_neg (by omega)]

theorem Mem.mapN_succ (M : Mem) (p k : Nat) (r : Int) : (M.mapN p k r).setPage (p + k) ⟨fun _ => r, fun _ => 0⟩ = M.mapN p (k + 1) r := by
  apply Mem.ext'
  · funext q
    simp only [Mem.mapN, Mem.setPage]
    by_cases e : q = p + k
    · rw [if_pos e, if_pos (by omega)]
    · rw [if_neg e]
      by_cases h : p ≤ q ∧ q < p + k
      · rw [if_pos h, if_pos (by omega)]
      · rw [if_neg h, if_neg (by omega)]
  · funext x
    simp only [Mem.mapN, Mem.setPage]
    by_cases e : x / 256 = p + k
    · rw [if_pos e, if_pos (by omega)]
    · rw [if_neg e]
      by_cases h : p ≤ x / 256 ∧ x / 256 < p + k
      · rw [if_pos h, if_pos (by omega)]
      · rw [if_neg h, if_neg (by omega)]

theorem Mem.protN_zero (M : Mem) (p : Nat) (r : Int) : M.protN p 0 r = M := by
  apply Mem.ext'
  · funext q; simp only [Mem.protN]; rw [if_neg (by omega)]
  · rfl

theorem Mem.protN_succ (M : Mem) (p k : Nat) (r : Int) : (M.protN p k r).setR (p + k) r = M.protN p (k + 1) r := by
  apply Mem.ext'
  · funext q
    simp only [Mem.protN, Mem.setR]
    by_cases e : q = p + k
    · rw [if_pos e, if_pos (by omega)]
    · rw [if_neg e]
      by_cases h : p ≤ q ∧ q < p + k
      · rw [if_pos h, if_pos (by omega)]
      · rw [if_neg h, if_neg (by omega)]
  · rfl

theorem Mem.mapN_ok {M : Mem} (h : M.Ok) (p k : Nat) {r : Int} (h0 : 0 ≤ r) (h7 : r ≤ 7) : (M.mapN p k r).Ok :=
  ⟨fun q => by simp only [Mem.mapN]; split; exact ⟨h0, h7⟩; exact h.R q, fun q => by simp only [Mem.mapN]; split; simp; exact h.B q⟩
theorem Mem.Ok.mapN_ok' {M : Mem} (h : M.Ok) (p k : Nat) : (M.mapN p k 0).Ok := Mem.mapN_ok h p k (by decide) (by decide)
theorem Mem.protN_ok {M : Mem} (h : M.Ok) (p k : Nat) {r : Int} (h0 : 0 ≤ r) (h7 : r ≤ 7) : (M.protN p k r).Ok :=
  ⟨fun q => by simp only [Mem.protN]; split; exact ⟨h0, h7⟩; exact h.R q, h.B⟩

/-- What Map does: may it, and what is there behind it. -/
def Mem.mapB (M : Mem) (at_ n r : Int) : Bool := rightsB r && M.all at_ n false
def Mem.unmapB (M : Mem) (at_ n : Int) : Bool := M.all at_ n true
def Mem.protB (M : Mem) (at_ n r : Int) : Bool := rightsB r && M.all at_ n true

def onePage (r : Int) : Mem := ⟨fun _ => r, fun _ => 0⟩

theorem zeroPage_eq (r : Int) : zeroPage.setIfInBounds 0 (.int .i64 r) = (onePage r).page 0 := by
  apply Array.ext_getElem?
  intro k
  rw [Array.getElem?_setIfInBounds, zeroPage_size]
  by_cases hk : k < 257
  · rw [Mem.page, Array.getElem?_map, Array.getElem?_range, if_pos hk]
    by_cases e : k = 0
    · subst e; simp [Mem.at_, onePage]
    · rw [if_neg (by omega), zeroPage, Array.getElem?_append_right (by simp; omega), Array.getElem?_replicate, if_pos (by simp; omega)]
      have : ¬ (0 * 257 + k) % 257 = 0 := by omega
      simp [Mem.at_, onePage, this]
      omega
  · rw [if_neg (by omega), Array.getElem?_eq_none (by rw [zeroPage_size]; omega), Array.getElem?_eq_none (by rw [Mem.size_page]; omega)]

theorem build_page (r : Int) (w : World) : (Instr.build 113 #[(0, .int .i64 r)]).run Try.prog w = .ok (.agg ((onePage r).page 0)) w := by
  rw [← zeroPage_eq]
  have hz : (zeroValue 113).run Try.prog w = .ok (.agg zeroPage) w := by
    simp [zeroValue, page_zero]
  unfold Instr.build
  simp only [Sem.run_bind, hz, Result.andThen_ok, Try.runUnderlying113]
  simp only [Array.mapM_eq_mapM_toList, List.mapM_cons, List.mapM_nil, Sem.run_bind, Sem.run_pure, Result.andThen_ok, Try.sizeOf3, Try.sizeOf111, Sem.run_map]
  have hf : Instr.fill (fun x => (#[(0, 1), (1, 256)] : Array (Nat × Nat))[x]?) (Value.agg zeroPage).cells [(0, Value.int .i64 r)] = some (zeroPage.setIfInBounds 0 (Value.int .i64 r)) := by
    simp [Instr.fill, Value.cells, zeroPage_size]
  rw [hf]
  rfl

set_option maxRecDepth 100000 in
set_option maxHeartbeats 1000000 in
theorem Map_no (M : Mem) (a pb : Nat) (at_ n r : Int) (w : World) (hM : IsMem w a pb M) (hn : -9223372036854775808 ≤ n) (h : M.mapB at_ n r = false) :
    Calls Try.prog 16 #[.pointer (some ⟨a, 0, none⟩), .int .i64 at_, .int .i64 n, .int .i64 r] w fun e w' => e = .returned (.int .i64 61) ∧ Upd [] w w' := by
  cases hr : rightsB r
  · have HR := Lib.hid hr
    clear hr h
    go_enter Try.func16, Try.ntmps16
    go_wp2_with (first | (go_at_call 54; refine (isRights_any r _).mono ?_; rintro e w' ⟨rfl, rfl⟩; rw [HR.out]))
    go_ret
    exact ⟨rfl, Upd.refl _ _⟩
  · have ha : M.all at_ n false = false := by simpa [Mem.mapB, hr] using h
    have HR := Lib.hid hr
    have HA := Lib.hid ha
    clear hr h ha
    go_enter Try.func16, Try.ntmps16
    go_wp2_with (first | (go_at_call 54; refine (isRights_any r _).mono ?_; rintro e w' ⟨rfl, rfl⟩; rw [HR.out]) | (go_at_call 55; refine (all_any M a pb at_ n false _ hM hn).mono ?_; rintro e w' ⟨rfl, hU⟩; rw [HA.out]))
    go_ret
    exact ⟨rfl, hU⟩

/-- A page laid into the row. -/
theorem IsMem.setPage {w : World} {a pb : Nat} {M : Mem} (h : IsMem w a pb M) (p : Nat) (N : Mem) (q : Nat) (hp : p < 64) (hN : N.page q = (N.page p)) (hok : N.Ok) :
    IsMem (w.setCells pb (p * 257) (N.page q).toList) a pb (M.setPage p N) := by
  refine h.wr _ _ ?_ ?_ ⟨fun q => by simp only [Mem.setPage]; split; exact hok.R p; exact h.ok.R q, fun x => by simp only [Mem.setPage]; split; exact hok.B x; exact h.ok.B x⟩
  · rw [Array.length_toList, Mem.size_page]; omega
  · rw [hN, Mem.wr_page _ _ _ hp]

theorem onePage_ok {r : Int} (h : 1 ≤ r ∧ r ≤ 7) : (onePage r).Ok := ⟨fun _ => by simp only [onePage]; omega, fun _ => by simp [onePage]⟩

theorem onePage_page (r : Int) (q p : Nat) : (onePage r).page q = (onePage r).page p := by
  unfold Mem.page
  have h : (fun j => (onePage r).at_ (q * 257 + j)) = (fun j => (onePage r).at_ (p * 257 + j)) := by
    funext j
    have h1 : ∀ i, (i * 257 + j) % 257 = j % 257 := fun i => by rw [Nat.mul_comm]; exact Nat.mul_add_mod _ _ _
    simp only [Mem.at_, onePage, h1]
  rw [h]

set_option maxRecDepth 100000 in
set_option maxHeartbeats 1000000 in
theorem Map_yes (M : Mem) (a pb : Nat) (at_ n r : Int) (w : World) (hM : IsMem w a pb M) (hn : -9223372036854775808 ≤ n) (h : M.mapB at_ n r = true) :
    Calls Try.prog 16 #[.pointer (some ⟨a, 0, none⟩), .int .i64 at_, .int .i64 n, .int .i64 r] w fun e w' => e = .returned (.int .i64 0) ∧ IsMem w' a pb (M.mapN at_.toNat n.toNat r) ∧ Upd [pb] w w' := by
  simp only [Mem.mapB, Bool.and_eq_true] at h
  obtain ⟨hr, ha⟩ := h
  have hrow : rowB at_ n = true := by
    simp only [Mem.all, Bool.and_eq_true] at ha; exact ha.1
  obtain ⟨g1, g2, g3, g4⟩ := (rowB_iff at_ n).1 hrow
  have HR := Lib.hid hr
  have HA := Lib.hid ha
  have HW := Lib.hid hrow
  clear hr ha hrow
  obtain ⟨p, rfl⟩ := Int.eq_ofNat_of_zero_le g1
  obtain ⟨k, rfl⟩ := Int.eq_ofNat_of_zero_le (show 0 ≤ n by omega)
  rw [Int.toNat_natCast, Int.toNat_natCast]
  go_enter Try.func16, Try.ntmps16
  go_wp2_with (first | (go_at_call 54; refine (isRights_any r _).mono ?_; rintro e w' ⟨rfl, rfl⟩; rw [HR.out]) | (go_at_call 55; refine (all_any M a pb p k false _ hM hn).mono ?_; rintro e w1 ⟨rfl, hU⟩; rw [HA.out]; have hM1 := hM.keep hU (by simp) (by simp); have HU := Lib.hid hU; have HM1 := Lib.hid hM1; clear hU hM1) | (go_at_call 56; refine (row_yes a pb p k _ M HM1.out HW.out).mono ?_; rintro e w2 ⟨cc, rfl, rfl⟩; rw [Int.toNat_natCast, Int.toNat_natCast]))
  go_loopw [11, 31] (fun _ i wr => ∃ j : Nat, j ≤ k ∧ i = .int .i64 j ∧ IsMem wr a pb (M.mapN p j r) ∧ Upd [pb] w wr) (fun _ i _ => k - (intOf i).toNat)
  case atStart => exact ⟨0, Nat.zero_le _, rfl, by rw [Mem.mapN_zero]; exact HM1.out, HU.out.mono (by simp)⟩
  case round =>
    obtain ⟨j, hj, rfl, hMj, hUj⟩ := hrel
    have HMj := Lib.hid hMj
    have HUj := Lib.hid hUj
    clear hMj hUj
    by_cases hlt : j < k
    · obtain ⟨CC, hpg1, hpg2⟩ := HMj.out.pg
      have HP1 := Lib.hid hpg1
      have HP := Lib.hid hpg2
      clear hpg1 hpg2
      go_wp2_with (first | (refine wpList_build rfl 113 _ rfl [(0, .int .i64 r)] rfl _ (build_page r _) ?_) | (refine wpList_store_arr rfl 113 _ _ rfl pb (p * 257 + j * 257) ((onePage r).page 0) rfl rfl HP.out (by have := HP1.out.size; rw [Mem.size_page]; omega) (by rw [Mem.size_page]; exact page_info) (Mem.page_one _ _) ?_))
      go_roundw
      case rel =>
        refine ⟨j + 1, by omega, by go_num, ?_, HUj.out.setCells (by simp) _ _⟩
        have h := HMj.out.setPage (p + j) (onePage r) 0 (by omega) (onePage_page _ _ _) (onePage_ok ((rightsB_iff r).1 HR.out))
        rw [show (p + j) * 257 = p * 257 + j * 257 from by omega] at h
        rw [← Mem.mapN_succ]
        exact h
      case measure => simp [intOf]; omega
    · go_wp2
      go_ret
      have e : j = k := by omega
      subst e
      exact ⟨rfl, HMj.out, HUj.out⟩

end Go.Proofs.Ytncafchgdgmeaaa
