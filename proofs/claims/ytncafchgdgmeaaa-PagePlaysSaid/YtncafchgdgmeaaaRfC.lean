/-
  The reference's memory: Right, Lacks, Size, Get, Put: each by its contract. No condition.
-/
import Derived.Test.YtncafchgdgmeaaaRfB
import Derived.Test.YtncafchgdgmeaaaFlt
namespace Go.Proofs.Ytncafchgdgmeaaa
open Go Go.RowKit
set_option linter.unusedVariables false
set_option linter.unusedSimpArgs false

set_option maxRecDepth 100000 in
set_option maxHeartbeats 1000000 in
theorem Right_ref (M : Mem) (r : Nat) (x : Int) (w : World) (hM : IsRef w r M) (h0 : 0 ≤ x) :
    Calls Try.prog 72 #[.pointer (some ⟨r, 0, none⟩), .int .u32 x] w fun e w' => e = .returned (.int .i64 (M.rightAt x)) ∧ w = w' := by
  by_cases h : x < 16384
  · have hc := hM.cR (x / 256).toNat (by omega)
    have HV := Lib.hid (show M.rightAt x = M.R (x / 256).toNat by rw [Mem.rightAt, if_pos h])
    have HM := Lib.hid hM
    have q1 : 0 ≤ x / 256 := by omega
    have q2 : x / 256 < 64 := by omega
    clear hM
    go_enter Try.func72, Try.ntmps72
    go_wp2_with fail
    go_ret
    exact ⟨by rw [HV.out]; rfl, rfl⟩
  · have HV := Lib.hid (show M.rightAt x = 0 by rw [Mem.rightAt, if_neg h])
    have HM := Lib.hid hM
    clear hM
    go_enter Try.func72, Try.ntmps72
    go_wp2_with fail
    go_ret
    exact ⟨by rw [HV.out]; rfl, rfl⟩

theorem Mem.rightAt_range {M : Mem} (hM : M.Ok) (x : Int) : 0 ≤ M.rightAt x ∧ M.rightAt x ≤ 7 := by
  unfold Mem.rightAt
  split
  · exact hM.R _
  · omega

theorem lowI_zero (l : Int) (h0 : 0 ≤ l) (h7 : l ≤ 7) : (lowI l = 0) ↔ (l = 0) := by
  have : l = 0 ∨ l = 1 ∨ l = 2 ∨ l = 3 ∨ l = 4 ∨ l = 5 ∨ l = 6 ∨ l = 7 := by omega
  rcases this with rfl | rfl | rfl | rfl | rfl | rfl | rfl | rfl <;> decide +kernel

theorem andNot_range (a b : Int) (a0 : 0 ≤ a) (a7 : a ≤ 7) (b0 : 0 ≤ b) (b7 : b ≤ 7) : 0 ≤ bits .andNot .i64 a b ∧ bits .andNot .i64 a b ≤ 7 := by
  have ha : a = 0 ∨ a = 1 ∨ a = 2 ∨ a = 3 ∨ a = 4 ∨ a = 5 ∨ a = 6 ∨ a = 7 := by omega
  have hb : b = 0 ∨ b = 1 ∨ b = 2 ∨ b = 3 ∨ b = 4 ∨ b = 5 ∨ b = 6 ∨ b = 7 := by omega
  rcases ha with rfl | rfl | rfl | rfl | rfl | rfl | rfl | rfl <;> rcases hb with rfl | rfl | rfl | rfl | rfl | rfl | rfl | rfl <;> decide +kernel

/-- All rights that a byte lacks. -/
def Mem.miss (M : Mem) (x r : Int) : Int := bits .andNot .i64 r (M.rightAt x)

theorem miss_lack {M : Mem} (hM : M.Ok) (x r : Int) (r0 : 0 ≤ r) (r7 : r ≤ 7) : (M.miss x r = 0) ↔ (M.lack x r = 0) := by
  have h1 := Mem.rightAt_range hM x
  have h2 := andNot_range r _ r0 r7 h1.1 h1.2
  rw [Mem.lack, lowI_zero _ h2.1 h2.2]
  rfl

set_option maxRecDepth 100000 in
set_option maxHeartbeats 2000000 in
theorem Lacks_ref (M : Mem) (r n : Nat) (x rt : Int) (w : World) (hM : IsRef w r M) (h0 : 0 ≤ x) (h1 : x < 4294967296) (hn : n ≤ 16) (r0 : 0 ≤ rt) (r7 : rt ≤ 7) :
    Calls Try.prog 37 #[.pointer (some ⟨r, 0, none⟩), .int .u32 x, .int .i64 n, .int .i64 rt] w fun e w' => e = .returned (.tuple #[(M.canF x n rt).val, .bool (!M.canK x n rt)]) ∧ Upd [] w w' := by
  have HM := Lib.hid hM
  clear hM
  go_enter Try.func37, Try.ntmps37
  go_wp2_with fail
  go_loopw [10, 11, 12] (fun i _ _ wr => ∃ j : Nat, j ≤ n ∧ i = .int .i64 j ∧ (∀ t, t < j → M.lack (plus x t) rt = 0) ∧ wr.heap[w.heap.size]? = some (.cells #[.int .i64 0, .int .u32 0, .int .u32 0, .int .i64 0] 32 (0, 0)) ∧ Upd [] w wr) (fun i _ _ _ => n - (intOf i).toNat)
  case atStart => exact ⟨0, Nat.zero_le _, rfl, by simp, heap_alloc_new _ _, (Upd.refl _ _).alloc _⟩
  case round =>
    obtain ⟨j, hj, rfl, hcan, hf, hU⟩ := hrel
    have HC := Lib.hid hcan
    have HU := Lib.hid hU
    have HR := Lib.hid (HM.out.keep hU (by simp))
    have HF := Lib.hid hf
    have cf := cells_of hf
    have ff := free_of hf
    clear hcan hU hf
    by_cases hlt : j < n
    · have hd : decide ((j : Int) < n) = true := by simp; omega
      have q1 : (j : Int) % 4294967296 = j := by omega
      have q2 : (x + j) % 4294967296 = plus x j := rfl
      by_cases hb : M.miss (plus x j) rt = 0
      · have HG := Lib.hid ((miss_lack HM.out.ok (plus x j) rt r0 r7).1 hb)
        have hb' : bits .andNot .i64 rt (M.rightAt (plus x j)) = 0 := hb
        have HB := Lib.hid hb'
        clear hb hb'
        go_wp2_with (go_at_call 72; refine (Right_ref M r (plus x j) _ HR.out (plus_nn x j)).mono ?_; rintro e w2 ⟨rfl, rfl⟩; have hb' := HB.out)
        go_roundw
        case rel => exact ⟨j + 1, by omega, by go_num, fun t ht => by
            by_cases e : t = j
            · subst e; exact HG.out
            · exact HC.out t (by omega), HF.out, HU.out⟩
        case measure => simp [intOf]; omega
      · have HG := Lib.hid (fun h => hb ((miss_lack HM.out.ok (plus x j) rt r0 r7).2 h))
        have hb' : (bits .andNot .i64 rt (M.rightAt (plus x j)) == 0) = false := by simpa [Mem.miss] using hb
        have HB := Lib.hid hb'
        have HL := Lib.hid (show bits .and .i64 (bits .andNot .i64 rt (M.rightAt (plus x j))) (wrap64 (-bits .andNot .i64 rt (M.rightAt (plus x j)))) = M.lack (plus x j) rt from rfl)
        clear hb hb'
        go_wp2_with (go_at_call 72; refine (Right_ref M r (plus x j) _ HR.out (plus_nn x j)).mono ?_; rintro e w2 ⟨rfl, rfl⟩; have hb' := HB.out)
        have hbad := canBad_some M x n rt j hlt HC.out HG.out
        have hF := store4 HF.out (.int .i64 1) (.int .u32 0) (.int .u32 (plus x j)) (.int .i64 (M.lack (plus x j) rt))
        rw [HL.out]
        refine bodyPost_ret (v := .tuple #[(Flt.mk 1 0 (plus x j) (M.lack (plus x j) rt)).val, .bool true]) (results_two' rfl (res_flt 8 w.heap.size ⟨1, 0, plus x j, M.lack (plus x j) rt⟩ rfl hF) (res_tmp 9 rfl)) rfl ⟨?_, Upd_store4 (b := w.heap.size) HU.out (.inr (Nat.le_refl _)) _ _ _ _⟩
        rw [Mem.canF, Mem.canK, hbad]
        rfl
    · obtain rfl : n = j := by omega
      have hbad := Lib.hid (canBad_none M x n rt HC.out)
      go_wp2_with fail
      have hF := store4 HF.out (.int .i64 0) (.int .u32 0) (.int .u32 0) (.int .i64 0)
      refine bodyPost_ret (v := .tuple #[Flt.zero.val, .bool false]) (results_two' rfl (res_flt 8 w.heap.size Flt.zero rfl hF) (res_tmp 9 rfl)) rfl ⟨?_, Upd_store4 (b := w.heap.size) HU.out (.inr (Nat.le_refl _)) _ _ _ _⟩
      rw [Mem.canF, Mem.canK, hbad.out]
      rfl

end Go.Proofs.Ytncafchgdgmeaaa
