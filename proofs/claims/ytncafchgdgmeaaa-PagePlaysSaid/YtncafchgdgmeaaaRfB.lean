/-
  The reference's memory: set, Map, Unmap, Protect: each by its contract. No condition.
-/
import Derived.Test.YtncafchgdgmeaaaRfA
namespace Go.Proofs.Ytncafchgdgmeaaa
open Go Go.RowKit
set_option linter.unusedVariables false
set_option linter.unusedSimpArgs false

/-- Pages p up to q have rights, and (if fresh) noughts. -/
def Mem.setTo (M : Mem) (p q : Nat) (r : Int) (fr : Bool) : Mem :=
  ⟨fun i => if p ≤ i ∧ i < q then r else M.R i, fun x => if fr = true ∧ p ≤ x / 256 ∧ x / 256 < q then 0 else M.B x⟩

/-- Page q's first j bytes are noughts. -/
def Mem.clr (M : Mem) (q j : Nat) : Mem := ⟨M.R, fun x => if q * 256 ≤ x ∧ x < q * 256 + j then 0 else M.B x⟩

theorem Mem.setTo_self (M : Mem) (p : Nat) (r : Int) (fr : Bool) : M.setTo p p r fr = M := by
  apply Mem.ext'
  · funext i; simp only [Mem.setTo]; rw [if_neg (by omega)]
  · funext x; simp only [Mem.setTo]; rw [if_neg (by omega)]

theorem Mem.clr_zero (M : Mem) (q : Nat) : M.clr q 0 = M := by
  apply Mem.ext'
  · rfl
  · funext x; simp only [Mem.clr]; rw [if_neg (by omega)]

theorem Mem.clr_succ (M : Mem) (q j : Nat) : (M.clr q j).setB (q * 256 + j) 0 = M.clr q (j + 1) := by
  apply Mem.ext'
  · rfl
  · funext x
    simp only [Mem.clr, Mem.setB]
    by_cases e : x = q * 256 + j
    · rw [if_pos e, if_pos (by omega)]
    · rw [if_neg e]
      by_cases h : q * 256 ≤ x ∧ x < q * 256 + j
      · rw [if_pos h, if_pos (by omega)]
      · rw [if_neg h, if_neg (by omega)]

theorem Mem.setTo_fresh (M : Mem) (p q : Nat) (r : Int) (h : p ≤ q) : ((M.setTo p q r true).setR q r).clr q 256 = M.setTo p (q + 1) r true := by
  apply Mem.ext'
  · funext i
    simp only [Mem.setTo, Mem.setR, Mem.clr]
    by_cases e : i = q
    · rw [if_pos e, if_pos (by omega)]
    · rw [if_neg e]
      by_cases h : p ≤ i ∧ i < q
      · rw [if_pos h, if_pos (by omega)]
      · rw [if_neg h, if_neg (by omega)]
  · funext x
    simp only [Mem.setTo, Mem.setR, Mem.clr, true_and]
    by_cases e : q * 256 ≤ x ∧ x < q * 256 + 256
    · rw [if_pos e, if_pos (by omega)]
    · rw [if_neg e]
      by_cases h : p ≤ x / 256 ∧ x / 256 < q
      · rw [if_pos h, if_pos (by omega)]
      · rw [if_neg h, if_neg (by omega)]

theorem Mem.setTo_stale (M : Mem) (p q : Nat) (r : Int) (h : p ≤ q) : (M.setTo p q r false).setR q r = M.setTo p (q + 1) r false := by
  apply Mem.ext'
  · funext i
    simp only [Mem.setTo, Mem.setR]
    by_cases e : i = q
    · rw [if_pos e, if_pos (by omega)]
    · rw [if_neg e]
      by_cases h : p ≤ i ∧ i < q
      · rw [if_pos h, if_pos (by omega)]
      · rw [if_neg h, if_neg (by omega)]
  · funext x
    simp [Mem.setTo, Mem.setR]

theorem Mem.setTo_map (M : Mem) (p k : Nat) (r : Int) : M.setTo p (p + k) r true = M.mapN p k r := by
  apply Mem.ext' <;> (funext x; simp [Mem.setTo, Mem.mapN])

theorem Mem.setTo_prot (M : Mem) (p k : Nat) (r : Int) : M.setTo p (p + k) r false = M.protN p k r := by
  apply Mem.ext' <;> (funext x; simp [Mem.setTo, Mem.protN])

set_option maxRecDepth 100000 in
set_option maxHeartbeats 1000000 in
theorem set_ref (M : Mem) (r p k : Nat) (v : Int) (fr : Bool) (w : World) (hM : IsRef w r M) (h : p + k ≤ 64) (h0 : 0 ≤ v) (h7 : v ≤ 7) :
    Calls Try.prog 96 #[.pointer (some ⟨r, 0, none⟩), .int .i64 p, .int .i64 k, .int .i64 v, .bool fr] w fun e w' => e = .returned (.tuple #[]) ∧ IsRef w' r (M.setTo p (p + k) v fr) ∧ Upd [r] w w' := by
  have HM := Lib.hid hM
  clear hM
  go_enter Try.func96, Try.ntmps96
  go_wp2_with fail
  go_loopw [10, 11] (fun i _ wr => ∃ q : Nat, p ≤ q ∧ q ≤ p + k ∧ i = .int .i64 q ∧ IsRef wr r (M.setTo p q v fr) ∧ Upd [r] w wr) (fun i _ _ => p + k - (intOf i).toNat)
  case atStart => exact ⟨p, Nat.le_refl _, by omega, rfl, by rw [Mem.setTo_self]; exact HM.out, Upd.refl _ _⟩
  case round =>
    obtain ⟨q, hq0, hq, rfl, hR, hU⟩ := hrel
    by_cases hlt : q < p + k
    · have hcR := hR.cR q (by omega)
      have hfR := hR.free q
      have hlt' : (q : Int) < p + k := by omega
      have h64 : q < 64 := by omega
      have HR := Lib.hid hR
      have HU := Lib.hid hU
      clear hR hU
      cases fr
      · go_wp2_with fail
        go_loopw [11] (fun i wr2 => i = .int .i64 0 ∧ IsRef wr2 r (M.setTo p (q + 1) v false) ∧ Upd [r] w wr2) (fun _ _ => 0)
        case atStart => exact ⟨rfl, by rw [← Mem.setTo_stale _ _ _ _ hq0]; exact HR.out.setR q v h64 h0 h7, HU.out.setCell (by simp) _⟩
        case round =>
          obtain ⟨rfl, hR2, hU2⟩ := hrel
          have HR2 := Lib.hid hR2
          have HU2 := Lib.hid hU2
          clear hR2 hU2
          go_wp2_with fail
          go_roundw
          case rel => exact ⟨q + 1, by omega, by omega, by go_num, HR2.out, HU2.out⟩
          case measure => simp [intOf]; omega
      · go_wp2_with fail
        go_loopw [11] (fun i wr2 => ∃ j : Nat, j ≤ 256 ∧ i = .int .i64 j ∧ IsRef wr2 r (((M.setTo p q v true).setR q v).clr q j) ∧ Upd [r] w wr2) (fun i _ => 256 - (intOf i).toNat)
        case atStart => exact ⟨0, by omega, rfl, by rw [Mem.clr_zero]; exact HR.out.setR q v h64 h0 h7, HU.out.setCell (by simp) _⟩
        case round =>
          obtain ⟨j, hj, rfl, hR2, hU2⟩ := hrel
          by_cases hjl : j < 256
          · have hcB := hR2.cB (q * 256 + j) (by omega)
            have hfB := hR2.free (64 + (q * 256 + j))
            have HR2 := Lib.hid hR2
            have HU2 := Lib.hid hU2
            clear hR2 hU2
            go_wp2_with fail
            go_roundw
            case rel => exact ⟨j + 1, by omega, by go_num, by rw [← Mem.clr_succ]; exact HR2.out.setB (q * 256 + j) 0 (by omega) (by omega) (by omega), HU2.out.setCell (by simp) _⟩
            case measure => simp [intOf]; omega
          · have e : j = 256 := by omega
            subst e
            have HR2 := Lib.hid hR2
            have HU2 := Lib.hid hU2
            clear hR2 hU2
            go_wp2_with fail
            go_roundw
            case rel => exact ⟨q + 1, by omega, by omega, by go_num, by rw [← Mem.setTo_fresh _ _ _ _ hq0]; exact HR2.out, HU2.out⟩
            case measure => simp [intOf]; omega
    · have e : q = p + k := by omega
      subst e
      have HR := Lib.hid hR
      have HU := Lib.hid hU
      clear hR hU
      go_wp2_with fail
      go_end0
      exact ⟨rfl, HR.out, HU.out⟩

theorem all_false_any (M : Mem) (p k : Nat) (h : rowB p k = true) : M.all p k false = !M.anyR p (p + k) := by
  have e : p + k - p = k := by omega
  simp [Mem.all, h, Mem.anyR, Mem.odd, e]
  
theorem all_true_all (M : Mem) (p k : Nat) (h : rowB p k = true) : M.all p k true = M.allR p (p + k) := by
  have e : p + k - p = k := by omega
  rw [Mem.all, h, Bool.true_and, Mem.allR, e, Int.toNat_natCast, Int.toNat_natCast, List.all_eq_not_any_not]
  congr 2
  funext i
  simp only [Mem.odd]
  cases M.R (p + i) != 0 <;> rfl

theorem all_no {M : Mem} {p n : Int} {b : Bool} (h : rowB p n = false) : M.all p n b = false := by rw [Mem.all, h, Bool.false_and]

/-- What Map, Unmap, Protect leave. -/
def Mem.mapM (M : Mem) (p n r : Int) : Mem := if M.mapB p n r then M.mapN p.toNat n.toNat r else M
def Mem.unmapM (M : Mem) (p n : Int) : Mem := if M.unmapB p n then M.mapN p.toNat n.toNat 0 else M
def Mem.protM (M : Mem) (p n r : Int) : Mem := if M.protB p n r then M.protN p.toNat n.toNat r else M

set_option maxRecDepth 100000 in
set_option maxHeartbeats 1000000 in
theorem Map_ref (M : Mem) (r : Nat) (p n v : Int) (w : World) (hM : IsRef w r M) (hn : -9223372036854775808 ≤ n) (hn2 : n ≤ 9223372036854775807) :
    Calls Try.prog 64 #[.pointer (some ⟨r, 0, none⟩), .int .i64 p, .int .i64 n, .int .i64 v] w fun e w' => e = .returned (.int .i64 (errI (M.mapB p n v) 61)) ∧ IsRef w' r (M.mapM p n v) ∧ Upd [r] w w' := by
  by_cases hrow : rowB p n = true
  · obtain ⟨g1, g2, g3, g4⟩ := (rowB_iff p n).1 hrow
    obtain ⟨p, rfl⟩ := Int.eq_ofNat_of_zero_le g1
    obtain ⟨k, rfl⟩ := Int.eq_ofNat_of_zero_le (show 0 ≤ n by omega)
    by_cases h1 : v < 1
    · have HB := Lib.hid (show M.mapB p k v = false by rw [Mem.mapB, show rightsB v = false from by rw [← Bool.not_eq_true, rightsB_iff]; omega, Bool.false_and])
      have HW := Lib.hid hrow
      have HM := Lib.hid hM
      clear hrow hM
      go_enter Try.func64, Try.ntmps64
      go_wp2_with (go_at_call 94; refine (there_any p k _ hn hn2).mono ?_; rintro e w' ⟨rfl, rfl⟩; rw [HW.out])
      go_ret
      exact ⟨by rw [HB.out]; rfl, by rw [Mem.mapM, HB.out]; exact HM.out, Upd.refl _ _⟩
    · by_cases h7 : 7 < v
      · have HB := Lib.hid (show M.mapB p k v = false by rw [Mem.mapB, show rightsB v = false from by rw [← Bool.not_eq_true, rightsB_iff]; omega, Bool.false_and])
        have HW := Lib.hid hrow
        have HM := Lib.hid hM
        clear hrow hM
        go_enter Try.func64, Try.ntmps64
        go_wp2_with (go_at_call 94; refine (there_any p k _ hn hn2).mono ?_; rintro e w' ⟨rfl, rfl⟩; rw [HW.out])
        go_ret
        exact ⟨by rw [HB.out]; rfl, by rw [Mem.mapM, HB.out]; exact HM.out, Upd.refl _ _⟩
      · have hall := all_false_any M p k hrow
        have hr : rightsB v = true := (rightsB_iff v).2 (by omega)
        have hv0 : 0 ≤ v := by omega
        have hv7 : v ≤ 7 := by omega
        cases ha : M.anyR p (p + k)
        · have HB := Lib.hid (show M.mapB p k v = true by rw [Mem.mapB, hr, hall, ha]; rfl)
          have HW := Lib.hid hrow
          have HM := Lib.hid hM
          have HA := Lib.hid ha
          clear hrow hM hall hr ha
          go_enter Try.func64, Try.ntmps64
          go_wp2_with (first | (go_at_call 94; refine (there_any p k _ hn hn2).mono ?_; rintro e w' ⟨rfl, rfl⟩; rw [HW.out]) | (go_at_call 95; refine (mapped_ref M r p k _ HM.out (by omega)).mono ?_; rintro e w1 ⟨rfl, hU⟩; rw [HA.out]; have HM1 := Lib.hid (HM.out.keep hU (by simp)); have HU := Lib.hid hU; clear hU) | (go_at_call 96; refine (set_ref M r p k v true _ HM1.out (by omega) hv0 hv7).mono ?_; rintro e w2 ⟨rfl, hM2, hU2⟩; have HM2 := Lib.hid hM2; have HU2 := Lib.hid hU2; clear hM2 hU2))
          go_ret
          exact ⟨by rw [HB.out]; rfl, by rw [Mem.mapM, HB.out, if_pos rfl, ← Mem.setTo_map]; exact HM2.out, (HU.out.mono (T := [r]) (by simp)).also HU2.out (fun _ h => .inl h)⟩
        · have HB := Lib.hid (show M.mapB p k v = false by rw [Mem.mapB, hr, hall, ha]; rfl)
          have HW := Lib.hid hrow
          have HM := Lib.hid hM
          have HA := Lib.hid ha
          clear hrow hM hall hr ha
          go_enter Try.func64, Try.ntmps64
          go_wp2_with (first | (go_at_call 94; refine (there_any p k _ hn hn2).mono ?_; rintro e w' ⟨rfl, rfl⟩; rw [HW.out]) | (go_at_call 95; refine (mapped_ref M r p k _ HM.out (by omega)).mono ?_; rintro e w1 ⟨rfl, hU⟩; rw [HA.out]; have HM1 := Lib.hid (HM.out.keep hU (by simp)); have HU := Lib.hid hU; clear hU))
          go_ret
          exact ⟨by rw [HB.out]; rfl, by rw [Mem.mapM, HB.out]; exact HM1.out, HU.out.mono (by simp)⟩
  · have hrow' : rowB p n = false := by simpa using hrow
    have HB := Lib.hid (show M.mapB p n v = false by rw [Mem.mapB, all_no hrow', Bool.and_false])
    have HW := Lib.hid hrow'
    have HM := Lib.hid hM
    clear hrow hM hrow'
    go_enter Try.func64, Try.ntmps64
    go_wp2_with (go_at_call 94; refine (there_any p n _ hn hn2).mono ?_; rintro e w' ⟨rfl, rfl⟩; rw [HW.out])
    go_ret
    exact ⟨by rw [HB.out]; rfl, by rw [Mem.mapM, HB.out]; exact HM.out, Upd.refl _ _⟩

set_option maxRecDepth 100000 in
set_option maxHeartbeats 1000000 in
theorem Protect_ref (M : Mem) (r : Nat) (p n v : Int) (w : World) (hM : IsRef w r M) (hn : -9223372036854775808 ≤ n) (hn2 : n ≤ 9223372036854775807) :
    Calls Try.prog 67 #[.pointer (some ⟨r, 0, none⟩), .int .i64 p, .int .i64 n, .int .i64 v] w fun e w' => e = .returned (.int .i64 (errI (M.protB p n v) 61)) ∧ IsRef w' r (M.protM p n v) ∧ Upd [r] w w' := by
  by_cases hrow : rowB p n = true
  · obtain ⟨g1, g2, g3, g4⟩ := (rowB_iff p n).1 hrow
    obtain ⟨p, rfl⟩ := Int.eq_ofNat_of_zero_le g1
    obtain ⟨k, rfl⟩ := Int.eq_ofNat_of_zero_le (show 0 ≤ n by omega)
    by_cases h1 : v < 1
    · have HB := Lib.hid (show M.protB p k v = false by rw [Mem.protB, show rightsB v = false from by rw [← Bool.not_eq_true, rightsB_iff]; omega, Bool.false_and])
      have HW := Lib.hid hrow
      have HM := Lib.hid hM
      clear hrow hM
      go_enter Try.func67, Try.ntmps67
      go_wp2_with (go_at_call 94; refine (there_any p k _ hn hn2).mono ?_; rintro e w' ⟨rfl, rfl⟩; rw [HW.out])
      go_ret
      exact ⟨by rw [HB.out]; rfl, by rw [Mem.protM, HB.out]; exact HM.out, Upd.refl _ _⟩
    · by_cases h7 : 7 < v
      · have HB := Lib.hid (show M.protB p k v = false by rw [Mem.protB, show rightsB v = false from by rw [← Bool.not_eq_true, rightsB_iff]; omega, Bool.false_and])
        have HW := Lib.hid hrow
        have HM := Lib.hid hM
        clear hrow hM
        go_enter Try.func67, Try.ntmps67
        go_wp2_with (go_at_call 94; refine (there_any p k _ hn hn2).mono ?_; rintro e w' ⟨rfl, rfl⟩; rw [HW.out])
        go_ret
        exact ⟨by rw [HB.out]; rfl, by rw [Mem.protM, HB.out]; exact HM.out, Upd.refl _ _⟩
      · have hall := all_true_all M p k hrow
        have hr : rightsB v = true := (rightsB_iff v).2 (by omega)
        have hv0 : 0 ≤ v := by omega
        have hv7 : v ≤ 7 := by omega
        cases ha : M.allR p (p + k)
        · have HB := Lib.hid (show M.protB p k v = false by rw [Mem.protB, hr, hall, ha]; rfl)
          have HW := Lib.hid hrow
          have HM := Lib.hid hM
          have HA := Lib.hid ha
          clear hrow hM hall hr ha
          go_enter Try.func67, Try.ntmps67
          go_wp2_with (first | (go_at_call 94; refine (there_any p k _ hn hn2).mono ?_; rintro e w' ⟨rfl, rfl⟩; rw [HW.out]) | (go_at_call 95; refine (mapped_ref M r p k _ HM.out (by omega)).mono ?_; rintro e w1 ⟨rfl, hU⟩; rw [HA.out]; have HM1 := Lib.hid (HM.out.keep hU (by simp)); have HU := Lib.hid hU; clear hU))
          go_ret
          exact ⟨by rw [HB.out]; rfl, by rw [Mem.protM, HB.out]; exact HM1.out, HU.out.mono (by simp)⟩
        · have HB := Lib.hid (show M.protB p k v = true by rw [Mem.protB, hr, hall, ha]; rfl)
          have HW := Lib.hid hrow
          have HM := Lib.hid hM
          have HA := Lib.hid ha
          clear hrow hM hall hr ha
          go_enter Try.func67, Try.ntmps67
          go_wp2_with (first | (go_at_call 94; refine (there_any p k _ hn hn2).mono ?_; rintro e w' ⟨rfl, rfl⟩; rw [HW.out]) | (go_at_call 95; refine (mapped_ref M r p k _ HM.out (by omega)).mono ?_; rintro e w1 ⟨rfl, hU⟩; rw [HA.out]; have HM1 := Lib.hid (HM.out.keep hU (by simp)); have HU := Lib.hid hU; clear hU) | (go_at_call 96; refine (set_ref M r p k v false _ HM1.out (by omega) hv0 hv7).mono ?_; rintro e w2 ⟨rfl, hM2, hU2⟩; have HM2 := Lib.hid hM2; have HU2 := Lib.hid hU2; clear hM2 hU2))
          go_ret
          exact ⟨by rw [HB.out]; rfl, by rw [Mem.protM, HB.out, if_pos rfl, ← Mem.setTo_prot]; exact HM2.out, (HU.out.mono (T := [r]) (by simp)).also HU2.out (fun _ h => .inl h)⟩
  · have hrow' : rowB p n = false := by simpa using hrow
    have HB := Lib.hid (show M.protB p n v = false by rw [Mem.protB, all_no hrow', Bool.and_false])
    have HW := Lib.hid hrow'
    have HM := Lib.hid hM
    clear hrow hM hrow'
    go_enter Try.func67, Try.ntmps67
    go_wp2_with (go_at_call 94; refine (there_any p n _ hn hn2).mono ?_; rintro e w' ⟨rfl, rfl⟩; rw [HW.out])
    go_ret
    exact ⟨by rw [HB.out]; rfl, by rw [Mem.protM, HB.out]; exact HM.out, Upd.refl _ _⟩

set_option maxRecDepth 100000 in
set_option maxHeartbeats 1000000 in
theorem Unmap_ref (M : Mem) (r : Nat) (p n : Int) (w : World) (hM : IsRef w r M) (hn : -9223372036854775808 ≤ n) (hn2 : n ≤ 9223372036854775807) :
    Calls Try.prog 65 #[.pointer (some ⟨r, 0, none⟩), .int .i64 p, .int .i64 n] w fun e w' => e = .returned (.int .i64 (errI (M.unmapB p n) 61)) ∧ IsRef w' r (M.unmapM p n) ∧ Upd [r] w w' := by
  by_cases hrow : rowB p n = true
  · obtain ⟨g1, g2, g3, g4⟩ := (rowB_iff p n).1 hrow
    obtain ⟨p, rfl⟩ := Int.eq_ofNat_of_zero_le g1
    obtain ⟨k, rfl⟩ := Int.eq_ofNat_of_zero_le (show 0 ≤ n by omega)
    have hall := all_true_all M p k hrow
    cases ha : M.allR p (p + k)
    · have HB := Lib.hid (show M.unmapB p k = false by rw [Mem.unmapB, hall, ha])
      have HW := Lib.hid hrow
      have HM := Lib.hid hM
      have HA := Lib.hid ha
      clear hrow hM hall ha
      go_enter Try.func65, Try.ntmps65
      go_wp2_with (first | (go_at_call 94; refine (there_any p k _ hn hn2).mono ?_; rintro e w' ⟨rfl, rfl⟩; rw [HW.out]) | (go_at_call 95; refine (mapped_ref M r p k _ HM.out (by omega)).mono ?_; rintro e w1 ⟨rfl, hU⟩; rw [HA.out]; have HM1 := Lib.hid (HM.out.keep hU (by simp)); have HU := Lib.hid hU; clear hU))
      go_ret
      exact ⟨by rw [HB.out]; rfl, by rw [Mem.unmapM, HB.out]; exact HM1.out, HU.out.mono (by simp)⟩
    · have HB := Lib.hid (show M.unmapB p k = true by rw [Mem.unmapB, hall, ha])
      have HW := Lib.hid hrow
      have HM := Lib.hid hM
      have HA := Lib.hid ha
      clear hrow hM hall ha
      go_enter Try.func65, Try.ntmps65
      go_wp2_with (first | (go_at_call 94; refine (there_any p k _ hn hn2).mono ?_; rintro e w' ⟨rfl, rfl⟩; rw [HW.out]) | (go_at_call 95; refine (mapped_ref M r p k _ HM.out (by omega)).mono ?_; rintro e w1 ⟨rfl, hU⟩; rw [HA.out]; have HM1 := Lib.hid (HM.out.keep hU (by simp)); have HU := Lib.hid hU; clear hU) | (go_at_call 96; refine (set_ref M r p k 0 true _ HM1.out (by omega) (by decide) (by decide)).mono ?_; rintro e w2 ⟨rfl, hM2, hU2⟩; have HM2 := Lib.hid hM2; have HU2 := Lib.hid hU2; clear hM2 hU2))
      go_ret
      exact ⟨by rw [HB.out]; rfl, by rw [Mem.unmapM, HB.out, if_pos rfl, ← Mem.setTo_map]; exact HM2.out, (HU.out.mono (T := [r]) (by simp)).also HU2.out (fun _ h => .inl h)⟩
  · have hrow' : rowB p n = false := by simpa using hrow
    have HB := Lib.hid (show M.unmapB p n = false by rw [Mem.unmapB, all_no hrow'])
    have HW := Lib.hid hrow'
    have HM := Lib.hid hM
    clear hrow hM hrow'
    go_enter Try.func65, Try.ntmps65
    go_wp2_with (go_at_call 94; refine (there_any p n _ hn hn2).mono ?_; rintro e w' ⟨rfl, rfl⟩; rw [HW.out])
    go_ret
    exact ⟨by rw [HB.out]; rfl, by rw [Mem.unmapM, HB.out]; exact HM.out, Upd.refl _ _⟩

end Go.Proofs.Ytncafchgdgmeaaa
