/-
  The reference's memory: Right, Lacks, Size, Get, Put: each by its contract. No condition.
-/
import Derived.Test.YtdgclmibbmofcaaMg05
import Derived.Test.YtdgclmibbmofcaaMg04
import Derived.ChangeSlices
import Derived.Deep.CutRange
import Derived.Laws.IdiomCopy
import Derived.Test.YtdgclmibbmofcaaMg02
import Derived.StillTailTactics
import Derived.Outline
import Derived.Deep.Cut
namespace Go.Proofs.Ytdgclmibbmofcaa
open Go Go.RowKit
set_option linter.unusedVariables false
set_option linter.unusedSimpArgs false

set_option maxRecDepth 100000 in
set_option maxHeartbeats 1000000 in
theorem Right_ref (M : Mem) (r : Nat) (x : Int) (w : World) (hM : IsRef w r M) (h0 : 0 ≤ x) :
    Calls Try.prog 54 #[.pointer (some ⟨r, 0, none⟩), .int .u32 x] w fun e w' => e = .returned (.int .i64 (M.rightAt x)) ∧ w = w' := by
  by_cases h : x < 16384
  · have hc := hM.cR (x / 256).toNat (by omega)
    have HV := Lib.hid (show M.rightAt x = M.R (x / 256).toNat by rw [Mem.rightAt, if_pos h])
    have HM := Lib.hid hM
    have q1 : 0 ≤ x / 256 := by omega
    have q2 : x / 256 < 64 := by omega
    clear hM
    go_enter Try.func54, Try.ntmps54
    go_wp2_with fail
    go_ret
    exact ⟨by rw [HV.out]; rfl, rfl⟩
  · have HV := Lib.hid (show M.rightAt x = 0 by rw [Mem.rightAt, if_neg h])
    have HM := Lib.hid hM
    clear hM
    go_enter Try.func54, Try.ntmps54
    go_wp2_with fail
    go_ret
    exact ⟨by rw [HV.out]; rfl, rfl⟩

theorem Mem.rightAt_range {M : Mem} (hM : M.Ok) (x : Int) : 0 ≤ M.rightAt x ∧ M.rightAt x ≤ 7 := by
  unfold Mem.rightAt
  split
  · exact hM.R _
  · omega

theorem lowI_zero (l : Int) (h0 : 0 ≤ l) (h7 : l ≤ 7) : (lowI l = 0) ↔ (l = 0) := by
  have : l = 0 ∨ l = 1 ∨ l = 2 ∨ l = 3 ∨ l = 4 ∨ l = 5 ∨ l = 6 ∨ l = 7 := by omega
  rcases this with rfl | rfl | rfl | rfl | rfl | rfl | rfl | rfl <;> decide +kernel

theorem andNot_range (a b : Int) (a0 : 0 ≤ a) (a7 : a ≤ 7) (b0 : 0 ≤ b) (b7 : b ≤ 7) : 0 ≤ bits .andNot .i64 a b ∧ bits .andNot .i64 a b ≤ 7 := by
  have ha : a = 0 ∨ a = 1 ∨ a = 2 ∨ a = 3 ∨ a = 4 ∨ a = 5 ∨ a = 6 ∨ a = 7 := by omega
  have hb : b = 0 ∨ b = 1 ∨ b = 2 ∨ b = 3 ∨ b = 4 ∨ b = 5 ∨ b = 6 ∨ b = 7 := by omega
  rcases ha with rfl | rfl | rfl | rfl | rfl | rfl | rfl | rfl <;> rcases hb with rfl | rfl | rfl | rfl | rfl | rfl | rfl | rfl <;> decide +kernel

/-- All rights that a byte lacks. -/
def Mem.miss (M : Mem) (x r : Int) : Int := bits .andNot .i64 r (M.rightAt x)

theorem miss_lack {M : Mem} (hM : M.Ok) (x r : Int) (r0 : 0 ≤ r) (r7 : r ≤ 7) : (M.miss x r = 0) ↔ (M.lack x r = 0) := by
  have h1 := Mem.rightAt_range hM x
  have h2 := andNot_range r _ r0 r7 h1.1 h1.2
  rw [Mem.lack, lowI_zero _ h2.1 h2.2]
  rfl

set_option maxRecDepth 100000 in
set_option maxHeartbeats 2000000 in
theorem Lacks_ref (M : Mem) (r n : Nat) (x rt : Int) (w : World) (hM : IsRef w r M) (h0 : 0 ≤ x) (h1 : x < 4294967296) (hn : n ≤ 100) (r0 : 0 ≤ rt) (r7 : rt ≤ 7) :
    Calls Try.prog 56 #[.pointer (some ⟨r, 0, none⟩), .int .u32 x, .int .i64 n, .int .i64 rt] w fun e w' => e = .returned (.tuple #[(M.canF x n rt).val, .bool (!M.canK x n rt)]) ∧ Upd [] w w' := by
  have HM := Lib.hid hM
  clear hM
  go_enter Try.func56, Try.ntmps56
  go_wp2_with fail
  go_loopw [10, 11, 12] (fun i _ _ wr => ∃ j : Nat, j ≤ n ∧ i = .int .i64 j ∧ (∀ t, t < j → M.lack (plus x t) rt = 0) ∧ wr.heap[w.heap.size]? = some (.cells #[.int .i64 0, .int .u32 0, .int .u32 0, .int .i64 0] 112 (0, 0)) ∧ Upd [] w wr) (fun i _ _ _ => n - (intOf i).toNat)
  case atStart => exact ⟨0, Nat.zero_le _, rfl, by simp, heap_alloc_new _ _, (Upd.refl _ _).alloc _⟩
  case round =>
    obtain ⟨j, hj, rfl, hcan, hf, hU⟩ := hrel
    have HC := Lib.hid hcan
    have HU := Lib.hid hU
    have HR := Lib.hid (HM.out.keep hU (by simp))
    have HF := Lib.hid hf
    have cf := cells_of hf
    have ff := free_of hf
    clear hcan hU hf
    by_cases hlt : j < n
    · have hd : decide ((j : Int) < n) = true := by simp; omega
      have q1 : (j : Int) % 4294967296 = j := by omega
      have q2 : (x + j) % 4294967296 = plus x j := rfl
      by_cases hb : M.miss (plus x j) rt = 0
      · have HG := Lib.hid ((miss_lack HM.out.ok (plus x j) rt r0 r7).1 hb)
        have hb' : bits .andNot .i64 rt (M.rightAt (plus x j)) = 0 := hb
        have HB := Lib.hid hb'
        clear hb hb'
        go_wp2_with (go_at_call 54; refine (Right_ref M r (plus x j) _ HR.out (plus_nn x j)).mono ?_; rintro e w2 ⟨rfl, rfl⟩; have hb' := HB.out)
        go_roundw
        case rel => exact ⟨j + 1, by omega, by go_num, fun t ht => by
            by_cases e : t = j
            · subst e; exact HG.out
            · exact HC.out t (by omega), HF.out, HU.out⟩
        case measure => simp [intOf]; omega
      · have HG := Lib.hid (fun h => hb ((miss_lack HM.out.ok (plus x j) rt r0 r7).2 h))
        have hb' : (bits .andNot .i64 rt (M.rightAt (plus x j)) == 0) = false := by simpa [Mem.miss] using hb
        have HB := Lib.hid hb'
        have HL := Lib.hid (show bits .and .i64 (bits .andNot .i64 rt (M.rightAt (plus x j))) (wrap64 (-bits .andNot .i64 rt (M.rightAt (plus x j)))) = M.lack (plus x j) rt from rfl)
        clear hb hb'
        go_wp2_with (go_at_call 54; refine (Right_ref M r (plus x j) _ HR.out (plus_nn x j)).mono ?_; rintro e w2 ⟨rfl, rfl⟩; have hb' := HB.out)
        have hbad := canBad_some M x n rt j hlt HC.out HG.out
        have hF := store4 HF.out (.int .i64 1) (.int .u32 0) (.int .u32 (plus x j)) (.int .i64 (M.lack (plus x j) rt))
        rw [HL.out]
        refine bodyPost_ret (v := .tuple #[(Flt.mk 1 0 (plus x j) (M.lack (plus x j) rt)).val, .bool true]) (results_two' rfl (res_flt 8 w.heap.size ⟨1, 0, plus x j, M.lack (plus x j) rt⟩ rfl hF) (res_tmp 9 rfl)) rfl ⟨?_, Upd_store4 (b := w.heap.size) HU.out (.inr (Nat.le_refl _)) _ _ _ _⟩
        rw [Mem.canF, Mem.canK, hbad]
        rfl
    · obtain rfl : n = j := by omega
      have hbad := Lib.hid (canBad_none M x n rt HC.out)
      go_wp2_with fail
      have hF := store4 HF.out (.int .i64 0) (.int .u32 0) (.int .u32 0) (.int .i64 0)
      refine bodyPost_ret (v := .tuple #[Flt.zero.val, .bool false]) (results_two' rfl (res_flt 8 w.heap.size Flt.zero rfl hF) (res_tmp 9 rfl)) rfl ⟨?_, Upd_store4 (b := w.heap.size) HU.out (.inr (Nat.le_refl _)) _ _ _ _⟩
      rw [Mem.canF, Mem.canK, hbad.out]
      rfl

end Go.Proofs.Ytdgclmibbmofcaa

/-
  The reference's memory: Get, Put, Size, Read, Write: each by its contract. No condition.
-/
namespace Go.Proofs.Ytdgclmibbmofcaa
open Go Go.RowKit
set_option linter.unusedVariables false
set_option linter.unusedSimpArgs false

theorem get_bound {M : Mem} (h : M.Ok) (x : Int) (j : Nat) : 0 ≤ M.get x j ∧ M.get x j < 2 ^ (8 * j) := by
  induction j with
  | zero => simp [Mem.get]
  | succ j ih =>
    have hb := h.B (plus x j).toNat
    simp only [Mem.get]
    have hp : (0 : Int) < 2 ^ (8 * j) := Int.pow_pos (by decide)
    have e : (2 : Int) ^ (8 * (j + 1)) = 256 * 2 ^ (8 * j) := by
      rw [Nat.mul_add, Int.pow_add]; simp [Int.mul_comm]
    rw [e]
    generalize (2 : Int) ^ (8 * j) = p at *
    generalize M.B (plus x j).toNat = b at *
    have h1 : 0 ≤ b * p := Int.mul_nonneg hb.1 (by omega)
    have h2 : b * p ≤ 255 * p := Int.mul_le_mul_of_nonneg_right hb.2 (by omega)
    omega

theorem or_add64 (g b : Int) (k : Nat) (hg0 : 0 ≤ g) (hg : g < 2 ^ k) (hb0 : 0 ≤ b) (hk : b * 2 ^ k + g < 18446744073709551616) : bits .or .u64 g (b * 2 ^ k % 18446744073709551616) = g + b * 2 ^ k := by
  obtain ⟨g, rfl⟩ := Int.eq_ofNat_of_zero_le hg0
  obtain ⟨b, rfl⟩ := Int.eq_ofNat_of_zero_le hb0
  have hg' : g < 2 ^ k := by exact_mod_cast hg
  have e0 : ((b : Int) * 2 ^ k) = ((b * 2 ^ k : Nat) : Int) := by
    rw [Int.natCast_mul, Int.natCast_pow]; rfl
  rw [e0] at hk
  have e2 : g ||| b * 2 ^ k = g + b * 2 ^ k := by
    rw [Nat.or_comm, nat_join k _ _ (Nat.mul_mod_left _ _) hg', Nat.add_comm]
  rw [e0]
  generalize hq : b * 2 ^ k = q at *
  have e1 : (q : Int) % 18446744073709551616 = (q : Int) := by omega
  rw [e1, u64_or_nat _ _ (by omega) (by omega), e2]
  rfl

theorem get_or64 {M : Mem} (h : M.Ok) (x : Int) (j : Nat) (hj : j < 8) :
    bits .or .u64 (M.get x j) (M.B (plus x j).toNat * 2 ^ (8 * j) % 18446744073709551616) = M.get x (j + 1) := by
  have hb := h.B (plus x j).toNat
  have hg := get_bound h x j
  simp only [Mem.get]
  refine or_add64 _ _ _ hg.1 hg.2 hb.1 ?_
  have h2 := (get_bound h x (j + 1)).2
  simp only [Mem.get] at h2
  have : (2 : Int) ^ (8 * (j + 1)) ≤ 2 ^ 64 := by
    have := Nat.pow_le_pow_right (show 0 < 2 by decide) (show 8 * (j + 1) ≤ 64 by omega)
    exact_mod_cast this
  have e : (2 : Int) ^ 64 = 18446744073709551616 := by decide
  omega

theorem wrap_u64 (z : Int) : IntKind.u64.wrap z = z % 18446744073709551616 := by simp [IntKind.wrap, IntKind.signed, IntKind.bits]

set_option maxRecDepth 100000 in
set_option maxHeartbeats 1000000 in
theorem Get_ref (M : Mem) (r n : Nat) (x : Int) (w : World) (hM : IsRef w r M) (h0 : 0 ≤ x) (h1 : x < 4294967296) (hn : n ≤ 8) (hx : ∀ t, t < n → plus x t < 16384) :
    Calls Try.prog 58 #[.pointer (some ⟨r, 0, none⟩), .int .u32 x, .int .i64 n] w fun e w' => e = .returned (.int .u64 (M.get x n)) ∧ w = w' := by
  have HX := Lib.hid hx
  have HM := Lib.hid hM
  clear hM hx
  go_enter Try.func58, Try.ntmps58
  go_wp2_with fail
  go_loop [7, 8] (fun v i => ∃ j : Nat, j ≤ n ∧ i = .int .i64 j ∧ v = .int .u64 (M.get x j)) (fun _ i => n - (intOf i).toNat)
  case atStart => exact ⟨0, Nat.zero_le _, rfl, rfl⟩
  case round =>
    obtain ⟨j, hj, rfl, rfl⟩ := hrel
    by_cases hlt : j < n
    · have hd : decide ((j : Int) < n) = true := by simp; omega
      have hlt' : (j : Int) < 8 := by omega
      have hpl := HX.out j hlt
      have hpn := plus_nn x j
      have cb := HM.out.cB (plus x j).toNat (by omega)
      have q2 : (x + (j : Int)) % 4294967296 = plus x j := rfl
      have hbd := HM.out.ok.B (plus x j).toNat
      go_wp2_with fail
      go_round
      case rel => exact ⟨j + 1, by omega, by go_num, by rw [wrap_u64, get_or64 HM.out.ok x j (by omega)]⟩
      case measure => simp [intOf]; omega
    · obtain rfl : n = j := by omega
      go_wp2_with fail
      go_ret
      exact ⟨rfl, rfl⟩

set_option maxRecDepth 100000 in
set_option maxHeartbeats 1000000 in
theorem Put_ref (M : Mem) (r n : Nat) (x v : Int) (w : World) (hM : IsRef w r M) (h0 : 0 ≤ x) (h1 : x < 4294967296) (hn : n ≤ 8) (hx : ∀ t, t < n → plus x t < 16384) (hv0 : 0 ≤ v) (hv1 : v < 18446744073709551616) :
    Calls Try.prog 57 #[.pointer (some ⟨r, 0, none⟩), .int .u32 x, .int .i64 n, .int .u64 v] w fun e w' => e = .returned (.tuple #[]) ∧ IsRef w' r (M.putN x v n) ∧ Upd [r] w w' := by
  have HX := Lib.hid hx
  have HM := Lib.hid hM
  clear hM hx
  go_enter Try.func57, Try.ntmps57
  go_wp2_with fail
  go_loopw [8] (fun i wr => ∃ j : Nat, j ≤ n ∧ i = .int .i64 j ∧ IsRef wr r (M.putN x v j) ∧ Upd [r] w wr) (fun i _ => n - (intOf i).toNat)
  case atStart => exact ⟨0, Nat.zero_le _, rfl, HM.out, Upd.refl _ _⟩
  case round =>
    obtain ⟨j, hj, rfl, hR, hU⟩ := hrel
    have HR := Lib.hid hR
    have HU := Lib.hid hU
    clear hR hU
    by_cases hlt : j < n
    · have hd : decide ((j : Int) < n) = true := by simp; omega
      have hlt' : (j : Int) < 8 := by omega
      have hpl := HX.out j hlt
      have hpn := plus_nn x j
      have cb := HR.out.cB (plus x j).toNat (by omega)
      have fb := HR.out.free (64 + (plus x j).toNat)
      have q2 : (x + (j : Int)) % 4294967296 = plus x j := rfl
      go_wp2_with fail
      go_roundw
      case rel => exact ⟨j + 1, by omega, by go_num, HR.out.setB (plus x j).toNat (v / 2 ^ (8 * j) % 256) (by omega) (by omega) (by omega), HU.out.setCell (by simp) _⟩
      case measure => simp [intOf]; omega
    · obtain rfl : n = j := by omega
      go_wp2_with fail
      go_end0
      exact ⟨rfl, HR.out, HU.out⟩

/-- That a byte lacks a right, and that it can't be used so, is one thing. -/
theorem canBad_bad {M : Mem} (hM : M.Ok) (x r : Int) (n : Nat) (hr : r = 1 ∨ r = 2 ∨ r = 4) : M.canBad x n r = M.bad x r n := by
  rw [Mem.canBad, Mem.bad]
  congr 1
  funext i
  have h := lack_can hM (plus x i) (plus_nn x i) r hr
  by_cases hc : M.can (plus x i) r = true
  · rw [h.2 hc, hc]; rfl
  · have hl : M.lack (plus x i) r ≠ 0 := fun e => hc (h.1 e)
    rw [Bool.not_eq_true] at hc
    rw [hc]
    simpa using hl

end Go.Proofs.Ytdgclmibbmofcaa

/-
  The reference's memory: Poke, Peek: each by its contract. No condition.
-/
namespace Go.Proofs.Ytdgclmibbmofcaa
open Go Go.RowKit
set_option linter.unusedVariables false
set_option linter.unusedSimpArgs false

theorem rightAt_mapped (M : Mem) (x : Int) : (M.rightAt x == 0) = !M.mappedB x := by
  unfold Mem.rightAt Mem.mappedB
  by_cases h : x < 16384
  · rw [if_pos h, decide_eq_true h, Bool.true_and]
    cases hz : M.R (x / 256).toNat == 0
    · simp only [bne, hz]; rfl
    · simp only [bne, hz]; rfl
  · rw [if_neg h, decide_eq_false h, Bool.false_and]
    rfl

theorem IsRef.drew {w : World} {r : Nat} {M : Mem} (h : IsRef w r M) : IsRef w.drew r M := ⟨h.ex, h.ok⟩

set_option maxRecDepth 100000 in
set_option maxHeartbeats 2000000 in
theorem Peek_ref (M : Mem) (r : Nat) (x n : Int) (w : World) (hM : IsRef w r M) (h0 : 0 ≤ x) (h1 : x < 4294967296) :
    Calls Try.prog 33 #[.pointer (some ⟨r, 0, none⟩), .int .u32 x, .int .i64 n] w fun e w' =>
      ∃ v, e = .returned v ∧ w'.ownsRow w.heap.size 5 1 v (M.peek x n).length ((M.peek x n).map (Value.int .u8)) ∧ Upd [] w w' := by
  obtain ⟨i0, hi, hz0, hz1, hz2⟩ := info_parts info_u8
  have HI := Lib.hid (And.intro hi (And.intro hz0 (And.intro hz1 hz2)))
  clear hi hz0 hz1 hz2
  obtain ⟨k, hk⟩ : ∃ k : Nat, (min n 16384).toNat = k := ⟨_, rfl⟩
  have hk2 : Hid (k ≤ 16384) := Lib.hid (by omega)
  have HK := Lib.hid hk
  have hmin : (min n 16384 < 0 ∧ k = 0) ∨ (0 ≤ min n 16384 ∧ min n 16384 = k) := by omega
  have HMin := Lib.hid hmin
  clear hk hmin
  have hfin : ∀ (j : Nat) (v : Value) (w' : World), j = M.peekN x k → w'.ownsRow w.heap.size 5 1 v j ((M.peekL x j).map (Value.int .u8)) → Upd [] w w' →
      ∃ u, Ending.returned v = .returned u ∧ w'.ownsRow w.heap.size 5 1 u (M.peek x n).length ((M.peek x n).map (Value.int .u8)) ∧ Upd [] w w' := by
    intro j v w' hj ho hU
    refine ⟨v, rfl, ?_, hU⟩
    simp only [Mem.peek, HK.out, ← hj, peekL_length]
    exact ho
  have HF := Lib.hid hfin
  clear hfin
  have hrl := hM.lt
  go_enter Try.func33, Try.ntmps33
  go_wp2_with fail
  go_loopw [7, 8, 9] (fun v i _ wr => ∃ j : Nat, j ≤ k ∧ i = .int .i64 j ∧ (∀ t, t < j → M.mappedB (plus x t) = true) ∧ IsRef wr r M ∧ Upd [] w wr ∧ wr.ownsRow w.heap.size 5 1 v j ((M.peekL x j).map (Value.int .u8))) (fun v _ _ _ => k - slLen v)
  case atStart => exact ⟨0, Nat.zero_le _, rfl, by simp, hM, Upd.refl _ _, World.ownsRow_nil _ _ _ _⟩
  case round =>
    obtain ⟨j, hj, rfl, hc, hm, hU, ho⟩ := hrel
    have HC := Lib.hid hc
    have HM := Lib.hid hm
    have HU := Lib.hid hU
    have HO := Lib.hid ho
    clear hc hm hU ho hM
    obtain ⟨sb, sc, rfl⟩ := ownsRow_form HO.out
    have hplt := plus_lt x j
    have hpn := plus_nn x j
    by_cases hlt : j < k
    · have hmn : (j : Int) < n := by have := HMin.out; omega
      have h16 : (j : Int) < 16384 := by have := hk2.out; omega
      have q2 : (x + (j : Int)) % 4294967296 = plus x j := rfl
      cases hb : M.mappedB (plus x j)
      · have HB := Lib.hid hb
        have HR := Lib.hid (show (M.rightAt (plus x j) == 0) = true by rw [rightAt_mapped, hb]; rfl)
        clear hb
        go_wp2_with (go_at_call 54; refine (Right_ref M r (plus x j) _ HM.out (plus_nn x j)).mono ?_; rintro e w' ⟨rfl, rfl⟩; have hr0 := HR.out)
        go_ret
        exact HF.out j _ _ (peekN_stop M x k j hlt HC.out HB.out).symm HO.out HU.out
      · have HB := Lib.hid hb
        have HR := Lib.hid (show (M.rightAt (plus x j) == 0) = false by rw [rightAt_mapped, hb]; rfl)
        clear hb
        have hx := mapped_lt HB.out
        have cb := HM.out.cB (plus x j).toNat (by omega)
        go_wp2_with (first | (go_at_call 54; refine (Right_ref M r (plus x j) _ HM.out (plus_nn x j)).mono ?_; rintro e w' ⟨rfl, rfl⟩; have hr0 := HR.out) | (at_builtin; refine wpList_append_own _ rfl _ _ 67 rfl w.heap.size 5 i0 (.int .u8 0) 1 1 Try.underlying67 HI.out.1 HI.out.2.1 HI.out.2.2.1 HI.out.2.2.2 rfl (by decide) _ _ _ rfl (HO.out.alloc _) ⟨wr.heap.size, 0, none⟩ 1 1 [.int .u8 (M.B (plus x j).toNat)] rfl rfl (one_new _ _ _) (one_oneCell _ _) (by have := hk2.out; unfold maxLen; omega) (by have := hk2.out; omega) (by have := HU.out.size; simp; omega) ?_))
        intro v' w1 hown' hgrow _
        have hU1 := Upd.of_grown hgrow
        have hlt' := HO.out.lt
        have hU2 : Upd (Value.slice sb j sc).ownBlock.toList wr w1 := ((Upd.refl [] wr).alloc _).trans hU1 (by simp) (fun z hz => .inl hz)
        have hne : ∀ z, z ∈ (Value.slice sb j sc).ownBlock.toList → w.heap.size ≤ z := fun z hz => (hlt' z (by simpa using hz)).1
        have hm' := HM.out.keep hU2 (fun h => by have := hne _ h; omega)
        have hu' := HU.out.new hU2 hne
        have HM' := Lib.hid hm'
        have HU' := Lib.hid hu'
        have HO' := Lib.hid hown'
        clear hm' hu' hown' hgrow hU1 hU2 hne hlt' cb
        go_wp2_with fail
        go_roundw
        case rel => exact ⟨j + 1, by omega, by go_num, fun t ht => by
            by_cases e : t = j
            · subst e; exact HB.out
            · exact HC.out t (by omega), HM'.out, HU'.out, by rw [peekL_succ, List.map_append]; exact HO'.out⟩
        case measure => rw [slLen_own HO'.out]; simp [slLen]; omega
    · have hjk : j = k := by omega
      have hpk : j = M.peekN x k := by rw [hjk, peekN_all M x k (fun t ht => HC.out t (by omega))]
      have HP := Lib.hid hpk
      have hmin := HMin.out
      by_cases hmn : (j : Int) < n
      · have h16 : ¬ (j : Int) < 16384 := by omega
        clear hmin hpk hjk
        go_wp2_with fail
        go_ret
        exact HF.out j _ _ HP.out HO.out HU.out
      · clear hmin hpk hjk
        go_wp2_with fail
        go_ret
        exact HF.out j _ _ HP.out HO.out HU.out

end Go.Proofs.Ytdgclmibbmofcaa

/-
  The reference's memory: its zero value. No condition.
-/
namespace Go.Proofs.Ytdgclmibbmofcaa
open Go Go.RowKit
set_option linter.unusedVariables false
set_option linter.unusedSimpArgs false

structure Rep (v : Value) (l : List Value) (n : Nat) : Prop where
  eq : l = List.replicate n v

theorem Rep.append {v : Value} {l m : List Value} {a b : Nat} (h : Rep v l a) (k : Rep v m b) : Rep v (l.append m) (a + b) :=
  ⟨by rw [h.eq, k.eq]; exact List.replicate_append_replicate⟩

structure Rep2 (v u : Value) (l : List Value) (n m : Nat) : Prop where
  eq : l = List.replicate n v ++ List.replicate m u

theorem Rep2.append {v u : Value} {l l' : List Value} {n m m' : Nat} (h : Rep2 v u l n m) (k : Rep u l' m') : Rep2 v u (l.append l') n (m + m') :=
  ⟨by rw [h.eq, k.eq]; show (List.replicate n v ++ List.replicate m u) ++ List.replicate m' u = _; rw [List.append_assoc, List.replicate_append_replicate]⟩

theorem Rep.leaf {v : Value} {l : List Value} (h : l = List.replicate l.length v) : Rep v l l.length := ⟨h⟩
theorem Rep2.leaf {v u : Value} {l : List Value} (h : l = List.replicate l.length v) : Rep2 v u l l.length 0 := ⟨by rw [List.replicate_zero, List.append_nil]; exact h⟩

theorem zero_ref_shape : ∃ l n m, Try.t30.zero = some (.agg l.toArray) ∧ Rep2 (.int .i64 0) (.int .u8 0) l n m ∧ n = 64 ∧ m = 16384 := by
  apply Exists.intro
  apply Exists.intro
  apply Exists.intro
  apply And.intro
  · unfold Try.t30; exact rfl
  apply And.intro
  · repeat (first | (with_reducible apply Rep2.append) | (with_reducible apply Rep.append) | exact Rep.leaf (by kernel_rfl) | exact Rep2.leaf (by kernel_rfl))
  · exact ⟨by kernel_rfl, by kernel_rfl⟩

theorem zero_ref : ∃ Z : Array Value, Try.t30.zero = some (.agg Z) ∧ HoldsR Z Mem.zero := by
  obtain ⟨l, n, m, h, k, hn, hm⟩ := zero_ref_shape
  have hk := k.eq
  clear k
  refine ⟨l.toArray, h, ?_, fun i hi => ?_⟩
  · clear h
    rw [List.size_toArray, hk, List.length_append, List.length_replicate, List.length_replicate, hn, hm]
  · clear h
    rw [hk, List.getElem?_toArray]
    by_cases h64 : i < 64
    · rw [List.getElem?_append_left (by rw [List.length_replicate]; omega), List.getElem?_replicate, if_pos (by omega), Mem.rat, if_pos h64]
      rfl
    · rw [List.getElem?_append_right (by rw [List.length_replicate]; omega), List.length_replicate, List.getElem?_replicate, if_pos (by omega), Mem.rat, if_neg h64]
      rfl

theorem info_ref : Try.prog.info? 30 = some Try.t30 := by kernel_rfl

/-- The reference's new memory, as it is built. -/
theorem run_build_ref : ∃ Z : Array Value, HoldsR Z Mem.zero ∧ ∀ w, (Instr.build 30 #[]).run Try.prog w = .ok (.agg Z) w := by
  obtain ⟨Z, hz, hZ⟩ := zero_ref
  refine ⟨Z, hZ, fun w => ?_⟩
  have hz' : (zeroValue 30).run Try.prog w = .ok (.agg Z) w := by
    generalize hT : Try.t30 = T at hz
    have hi := info_ref
    rw [hT] at hi
    clear hT
    simp [zeroValue, typeInfo, hi, hz]
  clear hz
  unfold Instr.build
  simp only [Sem.run_bind, hz', Result.andThen_ok, Try.runUnderlying30]
  simp only [Array.mapM_eq_mapM_toList, List.mapM_cons, List.mapM_nil, Sem.run_bind, Sem.run_pure, Result.andThen_ok, Sem.run_map]
  have h49 : ∀ w, (sizeOf 27).run Try.prog w = .ok 64 w := Try.sizeOf27
  have h50 : ∀ w, (sizeOf 28).run Try.prog w = .ok 16384 w := Try.sizeOf28
  simp only [h49, h50, Result.andThen_ok]
  rfl

theorem ref_info : (Try.prog.info? 30).map (·.size) = some 16448 := by kernel_rfl

theorem rat_one (M : Mem) (k : Nat) : (M.rat k).oneCell' = true := by
  unfold Mem.rat; split <;> rfl

theorem HoldsR.one {C : Array Value} {M : Mem} (h : HoldsR C M) : C.all (·.oneCell') = true := by
  rw [Array.all_eq_true]
  intro i hi
  have hi' : i < 16448 := by rw [← h.size]; exact hi
  have e := h.get i hi'
  rw [Array.getElem?_eq_getElem hi] at e
  injection e with e
  rw [e]
  exact rat_one M i

theorem IsRef.new {w : World} {C : Array Value} {M : Mem} (h : HoldsR C M) (hok : M.Ok) : IsRef (w.alloc (.cells C 30 (0, 0))) w.heap.size M := ⟨⟨C, h, heap_alloc_new _ _⟩, hok⟩

theorem strInts_get (s : ByteArray) (k : Nat) (h : k < s.size) : (strInts s).getD k 0 = ((s[k].toNat : Nat) : Int) := by
  have hi' : k < s.data.size := h
  rw [List.getD_eq_getElem?_getD, strInts, List.getElem?_map, Array.getElem?_toList, Array.getElem?_eq_getElem hi']
  rfl

/-- The reference's bytes of a string's first k, from a place on. -/
def Mem.strN (M : Mem) (o : Nat) (s : ByteArray) : Nat → Mem
  | 0 => M
  | k + 1 => (M.strN o s k).setB (o + k) ((strInts s).getD k 0)

theorem pokeN_strN (M : Mem) (p : Int) (hp0 : 0 ≤ p) (s : ByteArray) : ∀ k : Nat, p * 256 + k ≤ 16384 → M.pokeN (p * 256) (strInts s) k = M.strN (p.toNat * 256) s k
  | 0, _ => rfl
  | k + 1, h => by
    rw [Mem.pokeN, Mem.strN, pokeN_strN M p hp0 s k (by omega)]
    congr 1
    unfold plus
    omega

end Go.Proofs.Ytdgclmibbmofcaa

/-
  The reference's memory: Load, by its contract. No condition.
-/
namespace Go.Proofs.Ytdgclmibbmofcaa
open Go Go.RowKit
set_option linter.unusedVariables false
set_option linter.unusedSimpArgs false

theorem span1_str {M : Mem} {s : SpanV} (hb : M.spanB s = true) : M.span1 s = (M.mapN s.pg.toNat s.ct.toNat s.rt).strN (s.pg.toNat * 256) s.by_ s.by_.size := by
  simp only [Mem.spanB, Bool.and_eq_true, decide_eq_true_eq] at hb
  obtain ⟨hm, hs⟩ := hb
  have hrow := mapB_row hm
  have hr : rightsB s.rt = true := by simp only [Mem.mapB, Bool.and_eq_true] at hm; exact hm.1
  have hr1 := (rightsB_iff _).1 hr
  have hp : (M.mapN s.pg.toNat s.ct.toNat s.rt).pokeB (s.pg * 256) (strInts s.by_) = true := by
    simp only [Mem.pokeB, Bool.and_eq_true, decide_eq_true_eq, List.all_eq_true, List.mem_range, strInts_length]
    refine ⟨by omega, fun i hi => ?_⟩
    have e : plus (s.pg * 256) i = s.pg * 256 + i := by unfold plus; omega
    simp only [Mem.mappedB, e, Mem.mapN]
    rw [decide_eq_true (by omega), Bool.true_and, if_pos (by omega)]
    simp; omega
  rw [Mem.span1, Mem.poke, hp, if_pos rfl, strInts_length, pokeN_strN _ _ hrow.1 _ _ (by omega)]

theorem ref_whole {w : World} {r : Nat} {C D : Array Value} {M : Mem} (h : HoldsR C M) (hb : w.heap[r]? = some (.cells D 30 (0, 0))) (hd : D.size = 16448) (hok : M.Ok) : IsRef (w.setCells r 0 C.toList) r M := by
  have hl : C.toList.length = 16448 := by rw [Array.length_toList, h.size]
  refine ⟨⟨_, ⟨by rw [wr_size, hd], fun k hk => ?_⟩, heap_setCells_same _ _ _ _ hb⟩, hok⟩
  rw [wr_get _ _ _ _ (by rw [hl, hd]; omega), if_pos (by rw [hl]; omega), Nat.sub_zero, Array.getElem?_toList, h.get k hk]

set_option maxRecDepth 100000 in
set_option maxHeartbeats 4000000 in
theorem Load_ref (M : Mem) (r g : Nat) (v : Value) (l : List SpanV) (w : World) (hM : IsRef w r M) (hl : SpansIn w v l g) (hok : ∀ s, s ∈ l → s.ok) :
    Calls Try.prog 35 #[.pointer (some ⟨r, 0, none⟩), v] w fun e w' => e = .returned (.int .i64 (errI (loadB l) 60)) ∧ IsRef w' r (loadR l M) ∧ Upd [r] w w' := by
  have hmo : Try.prog.follows .mixedOrders = true := by kernel_rfl
  obtain ⟨Z, hZ, hbuild⟩ := run_build_ref
  have HZ := Lib.hid hZ
  have HBu := Lib.hid hbuild
  have HM := Lib.hid hM
  have HL := Lib.hid hl
  have hrl := hM.lt
  clear hM hZ hbuild
  have hl2 := hl
  clear hl
  rcases hl2 with ⟨x, c, rfl, rfl⟩ | ⟨o, c, rfl, hg, hlen, hc⟩
  · go_enter Try.func35, Try.ntmps35
    go_wp2_with (refine wpList_build rfl 30 [] rfl [] rfl (.agg Z) (HBu.out _) ?_)
    go_loopw [6, 7, 8] (fun i _ _ wr => i = .int .i64 0 ∧ IsRef wr w.heap.size Mem.zero ∧ Upd [] w wr) (fun _ _ _ _ => 0)
    case atStart => exact ⟨rfl, IsRef.new HZ.out Mem.zero_ok, (Upd.refl _ _).alloc _⟩
    case round =>
      obtain ⟨rfl, hN, hU⟩ := hrel
      have HN := Lib.hid hN
      have HU := Lib.hid hU
      clear hN hU
      have hyes := Lib.hid (show loadB [] = true from rfl)
      obtain ⟨C, hC1, hC2⟩ := HN.out.ex
      obtain ⟨D, hD1, hD2⟩ := HM.out.ex
      have hD2' := HU.out.get hD2 (by simp)
      have HC1 := Lib.hid hC1
      have HC2 := Lib.hid (range_whole hC2)
      have HCS := Lib.hid hC1.size
      have HD2 := Lib.hid hD2'
      have HDS := Lib.hid hD1.size
      clear hC1 hC2 hD1 hD2 hD2'
      go_wp2_with (first | (refine wpList_load_arr rfl 30 _ rfl w.heap.size 0 rfl C _ HC2.out Try.underlying30 rfl (by rw [HCS.out]; exact ref_info) ?_) | (refine wpList_store_arr rfl 30 _ _ rfl r 0 C rfl rfl HD2.out (by rw [HCS.out, HDS.out]; decide) (by rw [HCS.out]; exact ref_info) HC1.out.one ?_))
      go_ret
      exact ⟨by rw [hyes.out]; rfl, by rw [loadR_yes hyes.out]; exact ref_whole HC1.out HD2.out HDS.out HN.out.ok, (HU.out.mono (by simp)).setCells (by simp) _ _⟩
  · have HC := Lib.hid hc
    clear hc
    have HO := Lib.hid hok
    clear hok
    go_enter Try.func35, Try.ntmps35
    go_wp2_with (refine wpList_build rfl 30 [] rfl [] rfl (.agg Z) (HBu.out _) ?_)
    go_loopw [6, 7, 8] (fun i _ _ wr => ∃ j : Nat, j ≤ l.length ∧ i = .int .i64 j ∧ (∀ k, k < j → (loadN l k).spanB (l.getD k default) = true) ∧ IsRef wr w.heap.size (loadN l j) ∧ Upd [] w wr) (fun i _ _ _ => l.length - (intOf i).toNat)
    case atStart => exact ⟨0, Nat.zero_le _, rfl, by omega, IsRef.new HZ.out Mem.zero_ok, (Upd.refl _ _).alloc _⟩
    case round =>
      obtain ⟨j, hj, rfl, hall, hN, hU⟩ := hrel
      have hnl := hN.lt
      have HN := Lib.hid hN
      have HU := Lib.hid hU
      have HA := Lib.hid hall
      clear hN hU hall
      by_cases hlt : j < l.length
      · obtain ⟨s, hs⟩ : ∃ s, l[j]? = some s := ⟨l[j], List.getElem?_eq_getElem hlt⟩
        have hsd : l.getD j default = s := by rw [List.getD_eq_getElem?_getD, hs]; rfl
        have hcs := HL.out.keep HU.out (by simp)
        obtain ⟨c0, c1, c2, c3⟩ : wr.cell? ⟨g, o + j * 4, none⟩ = some (.int .i64 s.pg) ∧ wr.cell? ⟨g, o + j * 4 + 1, none⟩ = some (.int .i64 s.ct) ∧ wr.cell? ⟨g, o + j * 4 + 2, none⟩ = some (.int .i64 s.rt) ∧ wr.cell? ⟨g, o + j * 4 + 3, none⟩ = some (.string s.by_) := by
          rcases hcs with ⟨_, _, hv, _⟩ | ⟨o', c', hv, _, _, h⟩
          · injection hv with _ e _; omega
          · injection hv with e _ _
            injection e with e
            injection e with _ e _
            subst e
            exact h j s hs
        have hsm : s.ok := HO.out s (List.mem_of_getElem? hs)
        have HS := Lib.hid hsm
        have HSD := Lib.hid hsd
        clear hcs hs hsm hsd
        have hmb : (loadN l j).mapB s.pg s.ct s.rt = true ∨ (loadN l j).mapB s.pg s.ct s.rt = false := by cases (loadN l j).mapB s.pg s.ct s.rt <;> simp
        rcases hmb with hmb | hmb
        · have hrow := mapB_row hmb
          have HB := Lib.hid hmb
          clear hmb
          obtain ⟨p1, p2, p3, p4⟩ := hrow
          by_cases hsz : (s.by_.size : Int) ≤ s.ct * 256
          · go_wp2_with (go_at_call 11; refine (Map_ref (loadN l j) w.heap.size s.pg s.ct s.rt _ (HN.out.keep ((Upd.refl [] _).alloc _) (by simp)) HS.out.1 HS.out.2).mono ?_; rintro e w2 ⟨rfl, hM2, hU2⟩; rw [Mem.mapM, HB.out, if_pos rfl] at hM2; rw [HB.out]; have HM2 := Lib.hid hM2; have HU2 := Lib.hid hU2; have hc2 := hU2.get (heap_alloc_new _ _) (by simp; omega); have HC2 := Lib.hid hc2; have cs2 := cells_of hc2; clear hM2 hU2 hc2)
            have hn1 : ∀ x, x ∈ [w.heap.size] → x ∈ ([] : List Nat) ∨ w.heap.size ≤ x := by simp
            obtain ⟨sb, hsb⟩ : ∃ sb, sb = wr.heap.size := ⟨_, rfl⟩
            have HSB := Lib.hid hsb
            have hsb' := HC2.out
            rw [← hsb] at hsb'
            have HC2' := Lib.hid hsb'
            clear hsb hsb'
            have HUA := Lib.hid ((HU.out.alloc _).also HU2.out hn1)
            go_loopw [8] (fun i w3 => ∃ k : Nat, k ≤ s.by_.size ∧ i = .int .i64 k ∧ IsRef w3 w.heap.size (((loadN l j).mapN s.pg.toNat s.ct.toNat s.rt).strN (s.pg.toNat * 256) s.by_ k) ∧ w3.heap[sb]? = some (.cells #[.int .i64 s.pg, .int .i64 s.ct, .int .i64 s.rt, .string s.by_] 92 (0, 0)) ∧ Upd [] w w3) (fun i _ => s.by_.size - (intOf i).toNat)
            case atStart => exact ⟨0, Nat.zero_le _, rfl, HM2.out, HC2'.out, HUA.out⟩
            case round =>
              obtain ⟨k, hk, rfl, hN3, hs3, hU3⟩ := hrel
              rw [← HSB.out]
              have HN3 := Lib.hid hN3
              have HS3 := Lib.hid hs3
              have HU3 := Lib.hid hU3
              have cs3 := cells_of hs3
              clear hN3 hs3 hU3 cs2
              by_cases hk2 : k < s.by_.size
              · have hd : decide ((k : Int) < s.by_.size) = true := by simp; omega
                have hlt8 : s.pg * 256 + k < 16384 := by omega
                have hnn8 : 0 ≤ s.pg * 256 + (k : Int) := by omega
                go_wp2_with fail
                refine wp_draw 13 (fun w1 => IsRef w1 w.heap.size (((loadN l j).mapN s.pg.toNat s.ct.toNat s.rt).strN (s.pg.toNat * 256) s.by_ k) ∧ w1.heap[sb]? = some (.cells #[.int .i64 s.pg, .int .i64 s.ct, .int .i64 s.rt, .string s.by_] 92 (0, 0)) ∧ Upd [] w w1) (fun _ _ => False) (by kernel_rfl) (by decide +kernel) ⟨HN3.out.drew, HS3.out, HU3.out.drew⟩ (fun _ _ _ h => h.elim) ?_
                simp only [List.take_succ_cons, List.take_zero, List.drop_succ_cons, List.drop_zero]
                repeat
                  apply headW_val rfl rfl
                  · intro K hK w1 hB1
                    have cs3 := cells_of hB1.2.1
                    have HB1 := Lib.hid hB1
                    clear hB1
                    go_wp2_with fail
                    exact HB1.out
                  · exact ⟨_, rfl⟩
                refine headW_nil (fun _ w1 hB1 => ?_)
                have ei : (s.pg * 256 + (k : Int)).toNat = s.pg.toNat * 256 + k := by omega
                have cb := hB1.1.cB (s.pg.toNat * 256 + k) (by omega)
                have fb := hB1.1.free (64 + (s.pg.toNat * 256 + k))
                rw [← ei] at cb fb
                have EI := Lib.hid ei
                have HB1 := Lib.hid hB1
                clear hB1 ei
                go_wp2_with fail
                have hgd : ((s.by_[k].toNat : Nat) : Int) = (strInts s.by_).getD k 0 := (strInts_get s.by_ k hk2).symm
                rw [hgd, EI.out]
                go_roundw
                case rel => exact ⟨k + 1, by omega, by go_num, HB1.out.1.setB (s.pg.toNat * 256 + k) ((strInts s.by_).getD k 0) (by omega) (strInts_ok _ _).1 (strInts_ok _ _).2, heap_set_keep _ (by simp; have := HSB.out; omega) HB1.out.2.1, HB1.out.2.2.setCell (by simp) _⟩
                case measure => simp [intOf]; omega
              · have hd : decide ((k : Int) < s.by_.size) = false := by simp; omega
                have hke : k = s.by_.size := by omega
                have HKE := Lib.hid hke
                clear hke
                go_wp2_with fail
                go_roundw
                case rel =>
                  refine ⟨j + 1, by omega, by go_num, fun t ht => ?_, ?_, HU3.out⟩
                  · by_cases e : t = j
                    · subst e
                      rw [HSD.out, Mem.spanB, HB.out]
                      simpa using hsz
                    · exact HA.out t (by omega)
                  · rw [loadN, HSD.out, span1_str (by rw [Mem.spanB, HB.out]; simpa using hsz), ← HKE.out]
                    exact HN3.out
                case measure => simp [intOf]; omega
          · have hsz' : s.ct * 256 < s.by_.size := by omega
            go_wp2_with (go_at_call 11; refine (Map_ref (loadN l j) w.heap.size s.pg s.ct s.rt _ (HN.out.keep ((Upd.refl [] _).alloc _) (by simp)) HS.out.1 HS.out.2).mono ?_; rintro e w2 ⟨rfl, hM2, hU2⟩; rw [Mem.mapM, HB.out, if_pos rfl] at hM2; rw [HB.out]; have HM2 := Lib.hid hM2; have HU2 := Lib.hid hU2; have hc2 := hU2.get (heap_alloc_new _ _) (by simp; omega); have HC2 := Lib.hid hc2; have cs2 := cells_of hc2; clear hM2 hU2 hc2)
            go_ret
            have hn : ∀ x, x ∈ [w.heap.size] → x ∈ ([] : List Nat) ∨ w.heap.size ≤ x := by simp
            have hno : loadB l = false := loadB_no hlt (by rw [HSD.out, Mem.spanB]; simp; omega)
            have hU' := (HU.out.alloc _).also HU2.out hn
            exact ⟨by rw [hno]; rfl, by rw [loadR_no hno]; exact HM.out.keep hU' (by simp), hU'.mono (by simp)⟩
        · have HB := Lib.hid hmb
          clear hmb
          go_wp2_with (go_at_call 11; refine (Map_ref (loadN l j) w.heap.size s.pg s.ct s.rt _ (HN.out.keep ((Upd.refl [] _).alloc _) (by simp)) HS.out.1 HS.out.2).mono ?_; rintro e w2 ⟨rfl, hM2, hU2⟩; rw [HB.out]; have HU2 := Lib.hid hU2; clear hM2 hU2)
          go_ret
          have hn : ∀ x, x ∈ [w.heap.size] → x ∈ ([] : List Nat) ∨ w.heap.size ≤ x := by simp
          have hno : loadB l = false := loadB_no hlt (by rw [HSD.out, Mem.spanB, HB.out]; rfl)
          have hU' := (HU.out.alloc _).also HU2.out hn
          exact ⟨by rw [hno]; rfl, by rw [loadR_no hno]; exact HM.out.keep hU' (by simp), hU'.mono (by simp)⟩
      · have e : j = l.length := by omega
        subst e
        have hyes := Lib.hid (loadB_yes HA.out)
        obtain ⟨C, hC1, hC2⟩ := HN.out.ex
        obtain ⟨D, hD1, hD2⟩ := HM.out.ex
        have hD2' := HU.out.get hD2 (by simp)
        have HC1 := Lib.hid hC1
        have HC2 := Lib.hid (range_whole hC2)
        have HCS := Lib.hid hC1.size
        have HD2 := Lib.hid hD2'
        have HDS := Lib.hid hD1.size
        clear hC1 hC2 hD1 hD2 hD2'
        go_wp2_with (first | (refine wpList_load_arr rfl 30 _ rfl w.heap.size 0 rfl C _ HC2.out Try.underlying30 rfl (by rw [HCS.out]; exact ref_info) ?_) | (refine wpList_store_arr rfl 30 _ _ rfl r 0 C rfl rfl HD2.out (by rw [HCS.out, HDS.out]; decide) (by rw [HCS.out]; exact ref_info) HC1.out.one ?_))
        go_ret
        exact ⟨by rw [hyes.out]; rfl, by rw [loadR_yes hyes.out]; exact ref_whole HC1.out HD2.out HDS.out HN.out.ok, (HU.out.mono (by simp)).setCells (by simp) _ _⟩

end Go.Proofs.Ytdgclmibbmofcaa

/-
  The law PagePlays: its steps as an argument, opened. No condition.
-/
namespace Go.Proofs.Ytdgclmibbmofcaa
open Go Go.RowKit Go.WideShapes Go.ChangeShapes
set_option linter.unusedVariables false
set_option linter.unusedSimpArgs false

/-- A slice of bytes that reads as l; one without bytes may be any. -/
def ByS0 (w : World) (v : Value) (l : List Int) (g : Nat) : Prop := (∃ a c, v = .slice a 0 c ∧ l = []) ∨ (l ≠ [] ∧ g < w.heap.size ∧ BySl w v l g)

theorem ByS0.keep {w w' : World} {v : Value} {l : List Int} {g : Nat} (h : ByS0 w v l g) (u : Upd [] w w') : ByS0 w' v l g := by
  rcases h with h | ⟨h0, h1, h2⟩
  · exact .inl h
  · exact .inr ⟨h0, Nat.lt_of_lt_of_le h1 u.size, h2.keep u (by simp)⟩

theorem lt_of_cell {w : World} {b o : Nat} {s : Option Nat} {v : Value} (h : w.cell? ⟨b, o, s⟩ = some v) : s = none ∧ ∃ c t f, w.heap[b]? = some (.cells c t f) := by
  unfold World.cell? at h
  split at h
  · rename_i c t f hh
    cases s with
    | none => exact ⟨rfl, c, t, f, hh⟩
    | some k => simp at h
  · cases h

/-- A step of the law PagePlays. -/
structure StepV where
  wt : Int
  pg : Int
  ct : Int
  rt : Int
  nb : Int
  at_ : Int
  v : Int
  vb : Value
  vs : Value
  B : List Int
  S : List SpanV
  gb : Nat
  gs : Nat

def StepV.cells (s : StepV) : Array Value := #[.int .i64 s.wt, .int .i64 s.pg, .int .i64 s.ct, .int .i64 s.rt, .int .i64 s.nb, .int .u32 s.at_, .int .u32 s.v, s.vb, s.vs]

structure StepV.Good (q : StepV) (w : World) : Prop where
  pg : -9223372036854775808 ≤ q.pg ∧ q.pg ≤ 9223372036854775807
  ct : -9223372036854775808 ≤ q.ct ∧ q.ct ≤ 9223372036854775807
  nb : -9223372036854775808 ≤ q.nb ∧ q.nb ≤ 9223372036854775807
  at_ : 0 ≤ q.at_ ∧ q.at_ < 4294967296
  v : 0 ≤ q.v ∧ q.v < 4294967296
  b : ByS0 w q.vb q.B q.gb
  bl : ∀ i, 0 ≤ q.B.getD i 0 ∧ q.B.getD i 0 ≤ 255
  bn : q.B.length ≤ maxLen
  bf : ∃ b c, q.vb = .slice b q.B.length c
  sa : SArg w q.vs q.S q.gs
  sf : ∃ b c, q.vs = .slice b q.S.length c

theorem StepV.Good.keep {s : StepV} {w w' : World} (h : s.Good w) (u : Upd [] w w') : s.Good w' := ⟨h.pg, h.ct, h.nb, h.at_, h.v, h.b.keep u, h.bl, h.bn, h.bf, h.sa.keep u, h.sf⟩

end Go.Proofs.Ytdgclmibbmofcaa

/-
  Package page and the reference: what a step of the law PagePlays calls, each as one contract. No condition.
-/
namespace Go.Proofs.Ytdgclmibbmofcaa
open Go Go.RowKit
set_option linter.unusedVariables false
set_option linter.unusedSimpArgs false

theorem Map_any (M : Mem) (a pb : Nat) (p n r : Int) (w : World) (hM : IsMem w a pb M) (hn : -9223372036854775808 ≤ n) :
    Calls Try.prog 20 #[.pointer (some ⟨a, 0, none⟩), .int .i64 p, .int .i64 n, .int .i64 r] w fun e w' => e = .returned (.int .i64 (errI (M.mapB p n r) 61)) ∧ IsMem w' a pb (M.mapM p n r) ∧ Upd [pb] w w' := by
  cases h : M.mapB p n r
  · refine (Map_no M a pb p n r w hM hn h).mono ?_
    rintro e w' ⟨h1, h2⟩
    exact ⟨h1, by rw [Mem.mapM, h]; exact hM.keep h2 (by simp) (by simp), h2.mono (by simp)⟩
  · refine (Map_yes M a pb p n r w hM hn h).mono ?_
    rintro e w' ⟨h1, h2, h3⟩
    exact ⟨h1, by rw [Mem.mapM, h]; exact h2, h3⟩

theorem Unmap_any (M : Mem) (a pb : Nat) (p n : Int) (w : World) (hM : IsMem w a pb M) (hn : -9223372036854775808 ≤ n) :
    Calls Try.prog 52 #[.pointer (some ⟨a, 0, none⟩), .int .i64 p, .int .i64 n] w fun e w' => e = .returned (.int .i64 (errI (M.unmapB p n) 61)) ∧ IsMem w' a pb (M.unmapM p n) ∧ Upd [pb] w w' := by
  cases h : M.unmapB p n
  · refine (Unmap_no M a pb p n w hM hn h).mono ?_
    rintro e w' ⟨h1, h2⟩
    exact ⟨h1, by rw [Mem.unmapM, h]; exact hM.keep h2 (by simp) (by simp), h2.mono (by simp)⟩
  · refine (Unmap_yes M a pb p n w hM hn h).mono ?_
    rintro e w' ⟨h1, h2, h3⟩
    exact ⟨h1, by rw [Mem.unmapM, h]; exact h2, h3⟩

theorem Protect_any (M : Mem) (a pb : Nat) (p n r : Int) (w : World) (hM : IsMem w a pb M) (hn : -9223372036854775808 ≤ n) :
    Calls Try.prog 53 #[.pointer (some ⟨a, 0, none⟩), .int .i64 p, .int .i64 n, .int .i64 r] w fun e w' => e = .returned (.int .i64 (errI (M.protB p n r) 61)) ∧ IsMem w' a pb (M.protM p n r) ∧ Upd [pb] w w' := by
  cases h : M.protB p n r
  · refine (Protect_no M a pb p n r w hM hn h).mono ?_
    rintro e w' ⟨h1, h2⟩
    exact ⟨h1, by rw [Mem.protM, h]; exact hM.keep h2 (by simp) (by simp), h2.mono (by simp)⟩
  · refine (Protect_yes M a pb p n r w hM hn h).mono ?_
    rintro e w' ⟨h1, h2, h3⟩
    exact ⟨h1, by rw [Mem.protM, h]; exact h2, h3⟩

end Go.Proofs.Ytdgclmibbmofcaa

/-
  Package call: changes (pages mapped, given back, protected). No condition.
-/
namespace Go.Proofs.Ytdgclmibbmofcaa
open Go Go.RowKit
set_option linter.unusedVariables false
set_option linter.unusedSimpArgs false

structure Ev.Ok (e : Ev) : Prop where
  n : 0 ≤ e.n ∧ e.n < 4294967296
  b : 0 ≤ e.b ∧ e.b < 4294967296
  c : 0 ≤ e.c ∧ e.c < 4294967296
  d : 0 ≤ e.d ∧ e.d < 4294967296
/-- Is what a call asks of pages within its bounds? -/
def chOk (n b c d : Int) : Bool := decide (b % 256 = 0) && decide (c ≤ 64) && (decide (n = 91) || decide (d ≤ 7))
def chB (M : Mem) (n b c d : Int) : Bool := chOk n b c d && (if n = 91 then M.unmapB (b / 256) c else if n = 125 then M.protB (b / 256) c d else M.mapB (b / 256) c d)
def chM (M : Mem) (n b c d : Int) : Mem := if chOk n b c d = true then (if n = 91 then M.unmapM (b / 256) c else if n = 125 then M.protM (b / 256) c d else M.mapM (b / 256) c d) else M
def chR (M : Mem) (n b c d : Int) : Int := if chB M n b c d = true then 0 else 4294967274
section
variable (M : Mem) (a pb : Nat) (n b c d r : Int) (s : ByteArray) (w : World)
set_option maxRecDepth 100000 in
set_option maxHeartbeats 2000000 in
theorem ch_bad (hM : IsMem w a pb M) (hb : 0 ≤ b) (h : chOk n b c d = false) :
    Calls Try.prog 27 #[.pointer (some ⟨a, 0, none⟩), .agg #[.int .u32 n, .int .u32 b, .int .u32 c, .int .u32 d, .int .u32 r, .string s]] w fun x w' => x = .returned (.int .u32 4294967274) ∧ IsMem w' a pb M ∧ Upd [pb] w w' := by
  have HM := Lib.hid hM
  obtain ⟨q, hq⟩ : ∃ q, b % 256 = q := ⟨_, rfl⟩
  have e1 : b.tmod 256 = q := by rw [Int.tmod_eq_emod_of_nonneg hb]; exact hq
  unfold chOk at h
  rw [hq] at h
  clear hM hb hq
  by_cases h1 : q = 0
  · subst h1
    by_cases h2 : c ≤ 64
    · have h3 : ¬ n = 91 ∧ ¬ d ≤ 7 := by simpa [h2] using h
      have d1 : decide (64 < c) = false := by simp; omega
      have d2 : decide (7 < d) = true := by simp; omega
      have d3 : (n == 91) = false := by simp [h3.1]
      have d4 : (n != 91) = true := by simp [h3.1]
      clear h h2 h3
      go_enter Try.func27, Try.ntmps27
      go_wp2_with (go_at_call 28; refine (result_any (-22) (by decide) _).mono ?_; rintro e w1 ⟨rfl, hu⟩; have HU := Lib.hid ((((Upd.refl [] w).alloc _).also hu (by simp))); clear hu)
      go_ret
      exact ⟨rfl, HM.out.keep HU.out (by simp) (by simp), HU.out.mono (by simp)⟩
    · have d1 : decide (64 < c) = true := by simp; omega
      clear h h2
      go_enter Try.func27, Try.ntmps27
      go_wp2_with (go_at_call 28; refine (result_any (-22) (by decide) _).mono ?_; rintro e w1 ⟨rfl, hu⟩; have HU := Lib.hid ((((Upd.refl [] w).alloc _).also hu (by simp))); clear hu)
      go_ret
      exact ⟨rfl, HM.out.keep HU.out (by simp) (by simp), HU.out.mono (by simp)⟩
  · have d1 : (q == 0) = false := by simp [h1]
    have d2 : (q != 0) = true := by simp [h1]
    clear h h1
    go_enter Try.func27, Try.ntmps27
    go_wp2_with (go_at_call 28; refine (result_any (-22) (by decide) _).mono ?_; rintro e w1 ⟨rfl, hu⟩; have HU := Lib.hid ((((Upd.refl [] w).alloc _).also hu (by simp))); clear hu)
    go_ret
    exact ⟨rfl, HM.out.keep HU.out (by simp) (by simp), HU.out.mono (by simp)⟩
set_option maxRecDepth 100000 in
set_option maxHeartbeats 2000000 in
theorem ch_91 (hM : IsMem w a pb M) (hb : 0 ≤ b ∧ b < 4294967296) (hc : 0 ≤ c ∧ c < 4294967296) (hd : 0 ≤ d ∧ d < 4294967296) (h : chOk n b c d = true) (hn : n = 91) :
    Calls Try.prog 27 #[.pointer (some ⟨a, 0, none⟩), .agg #[.int .u32 n, .int .u32 b, .int .u32 c, .int .u32 d, .int .u32 r, .string s]] w fun x w' => x = .returned (.int .u32 (chR M n b c d)) ∧ IsMem w' a pb (chM M n b c d) ∧ Upd [pb] w w' := by
  have HM := Lib.hid hM
  have hbl : w.heap.size ≤ w.heap.size := Nat.le_refl _
  have hB : chR M n b c d = if M.unmapB (b / 256) c = true then 0 else 4294967274 := by unfold chR chB; rw [h, Bool.true_and, if_pos hn]
  have hMM : chM M n b c d = M.unmapM (b / 256) c := by unfold chM; rw [if_pos h, if_pos hn]
  rw [hB, hMM]
  unfold chOk at h
  simp only [Bool.and_eq_true, Bool.or_eq_true, decide_eq_true_eq] at h
  obtain ⟨⟨h1, h2⟩, h3⟩ := h
  have e1 : b.tmod 256 = 0 := by rw [Int.tmod_eq_emod_of_nonneg hb.1]; exact h1
  have d1 : decide (64 < c) = false := by simp; omega
  subst hn
  obtain ⟨y, hy⟩ : ∃ y, b / 256 = y := ⟨_, rfl⟩
  have e2 : b.tdiv 256 = y := by rw [Int.tdiv_eq_ediv_of_nonneg hb.1]; exact hy
  have e3 : wrap64 y = y := by unfold wrap64; omega
  have e6 : y % 4294967296 = y := by omega
  have e4 : wrap64 c = c := by unfold wrap64; omega
  have e5 : wrap64 d = d := by unfold wrap64; omega
  have HC := Lib.hid hc.1
  rw [hy]
  clear hM hb hc hd h1 h2 h3 hy hB hMM
  generalize hk : M.unmapB y c = k
  have HK := Lib.hid hk
  clear hk
  cases k
  · go_enter Try.func27, Try.ntmps27
    go_upto_region 3 with fail
    go_quiet (fail)
    simp only [e4, e5, e6]
    go_wp2_with (first | (go_at_call 52; refine (Unmap_any M a pb y c _ (HM.out.keep (Upd_drewN ((Upd.refl [] w).alloc _) _) (by simp) (by simp)) (by have := HC.out; omega)).mono ?_; rintro e w1 ⟨rfl, hm, hu⟩; rw [HK.out]; unfold errI; simp only [Bool.false_eq_true, if_false, if_true]; have HU := Lib.hid (And.intro hm (((Upd_drewN ((Upd.refl [pb] w).alloc _) _).also hu (by simp)))); clear hm hu) | (go_at_call 28; refine (result_any (-22) (by decide) _).mono ?_; rintro e w2 ⟨rfl, hu2⟩; have HU2 := Lib.hid hu2; clear hu2))
    go_ret
    exact ⟨rfl, HU.out.1.keep HU2.out (by simp) (by simp), HU.out.2.also HU2.out (by simp)⟩
  · go_enter Try.func27, Try.ntmps27
    go_upto_region 3 with fail
    go_quiet (fail)
    simp only [e4, e5, e6]
    go_wp2_with (go_at_call 52; refine (Unmap_any M a pb y c _ (HM.out.keep (Upd_drewN ((Upd.refl [] w).alloc _) _) (by simp) (by simp)) (by have := HC.out; omega)).mono ?_; rintro e w1 ⟨rfl, hm, hu⟩; rw [HK.out]; unfold errI; simp only [Bool.false_eq_true, if_false, if_true]; have HU := Lib.hid (And.intro hm (((Upd_drewN ((Upd.refl [pb] w).alloc _) _).also hu (by simp)))); clear hm hu)
    go_ret
    exact ⟨rfl, HU.out.1, HU.out.2⟩
set_option maxRecDepth 100000 in
set_option maxHeartbeats 2000000 in
theorem ch_125 (hM : IsMem w a pb M) (hb : 0 ≤ b ∧ b < 4294967296) (hc : 0 ≤ c ∧ c < 4294967296) (hd : 0 ≤ d ∧ d < 4294967296) (h : chOk n b c d = true) (hn : n = 125) :
    Calls Try.prog 27 #[.pointer (some ⟨a, 0, none⟩), .agg #[.int .u32 n, .int .u32 b, .int .u32 c, .int .u32 d, .int .u32 r, .string s]] w fun x w' => x = .returned (.int .u32 (chR M n b c d)) ∧ IsMem w' a pb (chM M n b c d) ∧ Upd [pb] w w' := by
  have HM := Lib.hid hM
  have hbl : w.heap.size ≤ w.heap.size := Nat.le_refl _
  have hB : chR M n b c d = if M.protB (b / 256) c d = true then 0 else 4294967274 := by unfold chR chB; rw [h, Bool.true_and, if_neg (show ¬ n = 91 by omega), if_pos hn]
  have hMM : chM M n b c d = M.protM (b / 256) c d := by unfold chM; rw [if_pos h, if_neg (show ¬ n = 91 by omega), if_pos hn]
  rw [hB, hMM]
  unfold chOk at h
  simp only [Bool.and_eq_true, Bool.or_eq_true, decide_eq_true_eq] at h
  obtain ⟨⟨h1, h2⟩, h3⟩ := h
  have e1 : b.tmod 256 = 0 := by rw [Int.tmod_eq_emod_of_nonneg hb.1]; exact h1
  have d1 : decide (64 < c) = false := by simp; omega
  have d2 : decide (7 < d) = false := by simp; omega
  subst hn
  obtain ⟨y, hy⟩ : ∃ y, b / 256 = y := ⟨_, rfl⟩
  have e2 : b.tdiv 256 = y := by rw [Int.tdiv_eq_ediv_of_nonneg hb.1]; exact hy
  have e3 : wrap64 y = y := by unfold wrap64; omega
  have e6 : y % 4294967296 = y := by omega
  have e4 : wrap64 c = c := by unfold wrap64; omega
  have e5 : wrap64 d = d := by unfold wrap64; omega
  have HC := Lib.hid hc.1
  rw [hy]
  clear hM hb hc hd h1 h2 h3 hy hB hMM
  generalize hk : M.protB y c d = k
  have HK := Lib.hid hk
  clear hk
  cases k
  · go_enter Try.func27, Try.ntmps27
    go_upto_region 3 with fail
    go_quiet (fail)
    simp only [e4, e5, e6]
    go_wp2_with (first | (go_at_call 53; refine (Protect_any M a pb y c d _ (HM.out.keep (Upd_drewN ((Upd.refl [] w).alloc _) _) (by simp) (by simp)) (by have := HC.out; omega)).mono ?_; rintro e w1 ⟨rfl, hm, hu⟩; rw [HK.out]; unfold errI; simp only [Bool.false_eq_true, if_false, if_true]; have HU := Lib.hid (And.intro hm (((Upd_drewN ((Upd.refl [pb] w).alloc _) _).also hu (by simp)))); clear hm hu) | (go_at_call 28; refine (result_any (-22) (by decide) _).mono ?_; rintro e w2 ⟨rfl, hu2⟩; have HU2 := Lib.hid hu2; clear hu2))
    go_ret
    exact ⟨rfl, HU.out.1.keep HU2.out (by simp) (by simp), HU.out.2.also HU2.out (by simp)⟩
  · go_enter Try.func27, Try.ntmps27
    go_upto_region 3 with fail
    go_quiet (fail)
    simp only [e4, e5, e6]
    go_wp2_with (go_at_call 53; refine (Protect_any M a pb y c d _ (HM.out.keep (Upd_drewN ((Upd.refl [] w).alloc _) _) (by simp) (by simp)) (by have := HC.out; omega)).mono ?_; rintro e w1 ⟨rfl, hm, hu⟩; rw [HK.out]; unfold errI; simp only [Bool.false_eq_true, if_false, if_true]; have HU := Lib.hid (And.intro hm (((Upd_drewN ((Upd.refl [pb] w).alloc _) _).also hu (by simp)))); clear hm hu)
    go_ret
    exact ⟨rfl, HU.out.1, HU.out.2⟩
set_option maxRecDepth 100000 in
set_option maxHeartbeats 2000000 in
theorem ch_map (hM : IsMem w a pb M) (hb : 0 ≤ b ∧ b < 4294967296) (hc : 0 ≤ c ∧ c < 4294967296) (hd : 0 ≤ d ∧ d < 4294967296) (h : chOk n b c d = true) (hn : n ≠ 91 ∧ n ≠ 125) :
    Calls Try.prog 27 #[.pointer (some ⟨a, 0, none⟩), .agg #[.int .u32 n, .int .u32 b, .int .u32 c, .int .u32 d, .int .u32 r, .string s]] w fun x w' => x = .returned (.int .u32 (chR M n b c d)) ∧ IsMem w' a pb (chM M n b c d) ∧ Upd [pb] w w' := by
  have HM := Lib.hid hM
  have hbl : w.heap.size ≤ w.heap.size := Nat.le_refl _
  have hB : chR M n b c d = if M.mapB (b / 256) c d = true then 0 else 4294967274 := by unfold chR chB; rw [h, Bool.true_and, if_neg hn.1, if_neg hn.2]
  have hMM : chM M n b c d = M.mapM (b / 256) c d := by unfold chM; rw [if_pos h, if_neg hn.1, if_neg hn.2]
  rw [hB, hMM]
  unfold chOk at h
  simp only [Bool.and_eq_true, Bool.or_eq_true, decide_eq_true_eq] at h
  obtain ⟨⟨h1, h2⟩, h3⟩ := h
  have e1 : b.tmod 256 = 0 := by rw [Int.tmod_eq_emod_of_nonneg hb.1]; exact h1
  have d1 : decide (64 < c) = false := by simp; omega
  have d2 : decide (7 < d) = false := by simp; omega
  have d3 : (n == 91) = false := by simp [hn.1]
  have d4 : (n != 91) = true := by simp [hn.1]
  have d5 : (n == 125) = false := by simp [hn.2]
  obtain ⟨y, hy⟩ : ∃ y, b / 256 = y := ⟨_, rfl⟩
  have e2 : b.tdiv 256 = y := by rw [Int.tdiv_eq_ediv_of_nonneg hb.1]; exact hy
  have e3 : wrap64 y = y := by unfold wrap64; omega
  have e6 : y % 4294967296 = y := by omega
  have e4 : wrap64 c = c := by unfold wrap64; omega
  have e5 : wrap64 d = d := by unfold wrap64; omega
  have HC := Lib.hid hc.1
  rw [hy]
  clear hM hb hc hd h1 h2 h3 hy hB hMM
  generalize hk : M.mapB y c d = k
  have HK := Lib.hid hk
  clear hk
  cases k
  · go_enter Try.func27, Try.ntmps27
    go_upto_region 3 with fail
    go_quiet (fail)
    simp only [e4, e5, e6]
    go_wp2_with (first | (go_at_call 20; refine (Map_any M a pb y c d _ (HM.out.keep (Upd_drewN ((Upd.refl [] w).alloc _) _) (by simp) (by simp)) (by have := HC.out; omega)).mono ?_; rintro e w1 ⟨rfl, hm, hu⟩; rw [HK.out]; unfold errI; simp only [Bool.false_eq_true, if_false, if_true]; have HU := Lib.hid (And.intro hm (((Upd_drewN ((Upd.refl [pb] w).alloc _) _).also hu (by simp)))); clear hm hu) | (go_at_call 28; refine (result_any (-22) (by decide) _).mono ?_; rintro e w2 ⟨rfl, hu2⟩; have HU2 := Lib.hid hu2; clear hu2))
    go_ret
    exact ⟨rfl, HU.out.1.keep HU2.out (by simp) (by simp), HU.out.2.also HU2.out (by simp)⟩
  · go_enter Try.func27, Try.ntmps27
    go_upto_region 3 with fail
    go_quiet (fail)
    simp only [e4, e5, e6]
    go_wp2_with (go_at_call 20; refine (Map_any M a pb y c d _ (HM.out.keep (Upd_drewN ((Upd.refl [] w).alloc _) _) (by simp) (by simp)) (by have := HC.out; omega)).mono ?_; rintro e w1 ⟨rfl, hm, hu⟩; rw [HK.out]; unfold errI; simp only [Bool.false_eq_true, if_false, if_true]; have HU := Lib.hid (And.intro hm (((Upd_drewN ((Upd.refl [pb] w).alloc _) _).also hu (by simp)))); clear hm hu)
    go_ret
    exact ⟨rfl, HU.out.1, HU.out.2⟩
theorem changes_any (hM : IsMem w a pb M) (hb : 0 ≤ b ∧ b < 4294967296) (hc : 0 ≤ c ∧ c < 4294967296) (hd : 0 ≤ d ∧ d < 4294967296) :
    Calls Try.prog 27 #[.pointer (some ⟨a, 0, none⟩), .agg #[.int .u32 n, .int .u32 b, .int .u32 c, .int .u32 d, .int .u32 r, .string s]] w fun x w' => x = .returned (.int .u32 (chR M n b c d)) ∧ IsMem w' a pb (chM M n b c d) ∧ Upd [pb] w w' := by
  cases h : chOk n b c d
  · have h1 : chR M n b c d = 4294967274 := by unfold chR chB; rw [h, Bool.false_and]; rfl
    have h2 : chM M n b c d = M := by unfold chM; rw [h]; rfl
    rw [h1, h2]
    exact ch_bad M a pb n b c d r s w hM hb.1 h
  · by_cases h1 : n = 91
    · exact ch_91 M a pb n b c d r s w hM hb hc hd h h1
    · by_cases h2 : n = 125
      · exact ch_125 M a pb n b c d r s w hM hb hc hd h h2
      · exact ch_map M a pb n b c d r s w hM hb hc hd h ⟨h1, h2⟩
end
end Go.Proofs.Ytdgclmibbmofcaa

/-
  Bytes as instructions, as plain data: what each function of the decoder makes of a list of bytes from a place on. No condition; no program in sight.
-/
namespace Go.Proofs.Ytdgclmibbmofcaa
open Go Go.RowKit
set_option linter.unusedVariables false

/-- What a reading makes: a value and the place behind it, or an error's number. -/
inductive DR (α : Type) where
  | ok (v : α) (k : Nat)
  | err (c : Int)

def DR.bind {α β : Type} (r : DR α) (f : α → Nat → DR β) : DR β :=
  match r with
  | .ok v k => f v k
  | .err c => .err c

structure Mrm where
  mod : Int
  reg : Int
  rm : Int

def Mrm.cells (m : Mrm) : Array Value := #[.int .i64 m.mod, .int .i64 m.reg, .int .i64 m.rm]
/-- Bytes. -/
def BOk (L : List Int) : Prop := ∀ i, 0 ≤ L.getD i 0 ∧ L.getD i 0 ≤ 255

end Go.Proofs.Ytdgclmibbmofcaa

/-
  Operands and instructions in memory: stores, loads, results; the decoder's reg, imm8, small, imm32, each by its contract.
-/
namespace Go.Proofs.Ytdgclmibbmofcaa
open Go Go.RowKit
set_option linter.unusedVariables false
set_option linter.unusedSimpArgs false

def Opd.cells (o : Opd) : Array Value := #[.int .i64 o.k, .int .i64 o.r, .int .u32 o.imm, .int .i64 o.b, .int .i64 o.x, .int .u32 o.sc]
theorem Opd.size (o : Opd) : o.cells.size = 6 := rfl
theorem Opd.one (o : Opd) : o.cells.all (·.oneCell') = true := by simp [Opd.cells, Value.oneCell']
def Ins.val (i : Ins) : Value := .agg i.cells

end Go.Proofs.Ytdgclmibbmofcaa

/-
  Package decode: modrm, the tables, bare, place, each by its contract.
-/
namespace Go.Proofs.Ytdgclmibbmofcaa
open Go Go.RowKit
set_option linter.unusedVariables false
set_option linter.unusedSimpArgs false

theorem Mrm.one (m : Mrm) : m.cells.all (·.oneCell') = true := by simp [Mrm.cells, Value.oneCell']

/-! ### Tables -/
end Go.Proofs.Ytdgclmibbmofcaa

/-
  Package decode: place, by its contract.
-/
namespace Go.Proofs.Ytdgclmibbmofcaa
open Go Go.RowKit
set_option linter.unusedVariables false
set_option linter.unusedSimpArgs false

structure Mrm.Ok (m : Mrm) : Prop where
  mod : 0 ≤ m.mod ∧ m.mod ≤ 3
  reg : 0 ≤ m.reg ∧ m.reg < 8
  rm : 0 ≤ m.rm ∧ m.rm < 8

section
variable {w w2 w3 : World} {d : Nat} {v : Value} {L : List Int} {g k k' : Nat} {m : Mrm} {o o' : Opd}

end

end Go.Proofs.Ytdgclmibbmofcaa

/-
  A region whose order of operations is drawn, with an invariant that knows which operations are done. No condition; no program here.
-/
namespace Go.Proofs.Ytdgclmibbmofcaa
open Go Go.RowKit
set_option linter.unusedVariables false
set_option linter.unusedSimpArgs false

def updD (d : Nat → Bool) (i : Nat) : Nat → Bool := fun j => if j = i then true else d j
def doneD (listed : Array Bool) : Nat → Bool := fun j => listed.getD j false

theorem doneD_set {listed : Array Bool} {i : Nat} (h : i < listed.size) : doneD (listed.setIfInBounds i true) = updD (doneD listed) i := by
  funext j
  simp only [doneD, updD]
  by_cases e : j = i
  · subst e; simp [h]
  · rw [if_neg e, getD_set_ne false (fun h => e h.symm)]

theorem doneD_none (n : Nat) : doneD (Array.replicate n false) = fun _ => false := by
  funext j; exact getD_replicate_false _ _

section
variable {P : Program} {ops : Array Oper} {B : (Nat → Bool) → World → Prop} {X : List PanicEntry → World → Prop} {fin : List Nat → Act → Prop} {dead : List Nat} {i : Nat} {o : Oper} {rest : List Oper} {a : Act}

end

end Go.Proofs.Ytdgclmibbmofcaa
