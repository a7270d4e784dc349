/-
  Package helper: reckons: a difference, a comparison. No condition.
-/
import Derived.Test.YtncafchgdgmeaaaHpL
import Derived.Test.YtncafchgdgmeaaaFlB
namespace Go.Proofs.Ytncafchgdgmeaaa
open Go Go.RowKit
set_option linter.unusedVariables false
set_option linter.unusedSimpArgs false

/-- ZF, PF, CF as a number, its lowest j digits. -/
def cmpT (z p c : Bool) : Nat → Int
  | 0 => 0
  | 1 => if c then 1 else 0
  | 2 => (if c then 1 else 0) + (if p then 2 else 0)
  | 3 => (if c then 1 else 0) + (if p then 2 else 0)
  | _ => (if c then 1 else 0) + (if p then 2 else 0) + (if z then 8 else 0)
def cmpBit (z p c : Bool) : Nat → Bool
  | 0 => c
  | 1 => p
  | 2 => false
  | _ => z
theorem cmpT_range (z p c : Bool) (j : Nat) : 0 ≤ cmpT z p c j ∧ cmpT z p c j < 4294967296 := by
  unfold cmpT; split <;> cases z <;> cases p <;> cases c <;> decide

theorem cmp_ix0 (z p c : Bool) (w : World) : (Instr.index 167 (.agg #[.bool c, .bool p, .bool false, .bool z]) (.int .i64 0)).run Try.prog w = .ok (.bool c) w := by kernel_rfl
theorem cmp_ix1 (z p c : Bool) (w : World) : (Instr.index 167 (.agg #[.bool c, .bool p, .bool false, .bool z]) (.int .i64 1)).run Try.prog w = .ok (.bool p) w := by kernel_rfl
theorem cmp_ix2 (z p c : Bool) (w : World) : (Instr.index 167 (.agg #[.bool c, .bool p, .bool false, .bool z]) (.int .i64 2)).run Try.prog w = .ok (.bool false) w := by kernel_rfl
theorem cmp_ix3 (z p c : Bool) (w : World) : (Instr.index 167 (.agg #[.bool c, .bool p, .bool false, .bool z]) (.int .i64 3)).run Try.prog w = .ok (.bool z) w := by kernel_rfl
theorem cmp_index (z p c : Bool) (j : Nat) (hj : j < 4) (w : World) : (Instr.index 167 (.agg #[.bool c, .bool p, .bool false, .bool z]) (.int .i64 j)).run Try.prog w = .ok (.bool (cmpBit z p c j)) w := by
  have h : j = 0 ∨ j = 1 ∨ j = 2 ∨ j = 3 := by omega
  rcases h with rfl | rfl | rfl | rfl
  · exact cmp_ix0 z p c w
  · exact cmp_ix1 z p c w
  · exact cmp_ix2 z p c w
  · exact cmp_ix3 z p c w

theorem cmpT_step (z p c : Bool) (j : Nat) (hj : j < 4) : (cmpBit z p c j = true → bits .or .u32 (cmpT z p c j) (2 ^ j) = cmpT z p c (j + 1)) ∧ (cmpBit z p c j = false → cmpT z p c (j + 1) = cmpT z p c j) := by
  have h : j = 0 ∨ j = 1 ∨ j = 2 ∨ j = 3 := by omega
  rcases h with rfl | rfl | rfl | rfl <;> cases z <;> cases p <;> cases c <;> decide +kernel

set_option maxRecDepth 100000 in
set_option maxHeartbeats 2000000 in
theorem compared_any (z p c : Bool) (w : World) : Calls Try.prog 107 #[.bool z, .bool p, .bool c] w fun e w' => e = .returned (.int .u32 (cmpT z p c 4)) ∧ Upd [] w w' := by
  have U0 := Lib.hid (Upd.refl [] w)
  go_enter Try.func107, Try.ntmps107
  go_wp2_with fail
  go_loopw [7, 14] (fun v i wr => ∃ j : Nat, j ≤ 4 ∧ i = .int .i64 j ∧ v = .int .u32 (cmpT z p c j) ∧ Upd [] w wr) (fun _ i _ => 4 - (intOf i).toNat)
  case atStart => exact ⟨0, by omega, rfl, rfl, U0.out⟩
  case round =>
    obtain ⟨j, hj, rfl, rfl, hF⟩ := hrel
    have HF := Lib.hid hF
    clear hF U0
    by_cases hlt : j < 4
    · have hix := cmp_index z p c j hlt
      have hjd : decide ((j : Int) < 4) = true := by rw [decide_eq_true_eq]; omega
      have hst := cmpT_step z p c j hlt
      have hsh : (2 : Int) ^ j % 4294967296 = 2 ^ j := by
        have h : j = 0 ∨ j = 1 ∨ j = 2 ∨ j = 3 := by omega
        rcases h with rfl | rfl | rfl | rfl <;> decide
      cases hb : cmpBit z p c j
      · rw [hb] at hix
        have hs2 := hst.2 hb
        clear hst hj
        go_wp2_with fail
        go_roundw
        case rel => exact ⟨j + 1, by omega, by go_num, by rw [hs2], HF.out⟩
        case measure => simp [intOf]; omega
      · rw [hb] at hix
        have hs1 := hst.1 hb
        clear hst hj
        go_wp2_with fail
        go_roundw
        case rel => exact ⟨j + 1, by omega, by go_num, by rw [← hs1], HF.out⟩
        case measure => simp [intOf]; omega
    · obtain rfl : j = 4 := by omega
      go_wp2_with fail
      go_ret
      exact ⟨rfl, HF.out⟩

theorem flCanon_range (n : Nat) (h : n < 18446744073709551616) : 0 ≤ flCanon n ∧ flCanon n < 18446744073709551616 := by
  unfold flCanon; split <;> omega
theorem flDo_range (op : BinOp) (x y : Nat) : 0 ≤ flDo op x y ∧ flDo op x y < 18446744073709551616 := by
  unfold flDo
  split
  · rename_i r h
    have := floatBits_wf h
    simp only [Lit.wf, decide_eq_true_eq] at this
    exact flCanon_range r this
  · decide

set_option maxRecDepth 100000 in
set_option maxHeartbeats 1000000 in
theorem reckons_sub (H : Hs) (ab hb a : Nat) (w : World) (h : IsHost w hb H) (hA : IsAsk w ab hb a) (hne : ab ≠ hb) :
    Calls Try.prog 83 #[.pointer (some ⟨ab, 0, none⟩), .int .u32 10] w fun e w' => e = .returned (.tuple #[]) ∧ IsHost w' hb ((H.put 10 (flDo .sub (H.two 0).toNat (H.two 2).toNat % 4294967296)).put 11 (flDo .sub (H.two 0).toNat (H.two 2).toNat / 4294967296)) ∧ Upd [hb] w w' := by
  have HH := Lib.hid (And.intro h (And.intro hA hne))
  have gr := Lib.hid (flDo_range .sub (H.two 0).toNat (H.two 2).toNat)
  clear h hA hne
  have tok0 : True := trivial
  have tok1 : True := trivial
  go_enter Try.func83, Try.ntmps83
  go_wp2_with (first | (have _t := tok0; clear _t; go_at_call 100; refine (two_any H ab hb a 0 (by decide) _ HH.out.1 HH.out.2.1).mono ?_; rintro e w' ⟨rfl, rfl⟩; clear tok0) | (have _t := tok1; clear _t; go_at_call 100; refine (two_any H ab hb a 2 (by decide) _ HH.out.1 HH.out.2.1).mono ?_; rintro e w' ⟨rfl, rfl⟩; clear tok1) | (go_at_call 103; refine (fl_Sub (H.two 0) (H.two 2) _).mono ?_; rintro e w1 ⟨rfl, hu⟩; have U1 := Lib.hid hu; clear hu) | (go_at_call 101; refine (number_any H ab hb a _ gr.out _ (HH.out.1.keep U1.out (by simp)) (HH.out.2.1.keep U1.out (by simp)) HH.out.2.2).mono ?_; rintro e w2 ⟨rfl, h2, hu⟩; have H2 := Lib.hid (And.intro h2 ((U1.out.mono (T := [hb]) (by simp)).also hu (by simp))); clear h2 hu U1))
  go_end0
  exact ⟨rfl, H2.out.1, H2.out.2⟩

set_option maxRecDepth 100000 in
set_option maxHeartbeats 1000000 in
theorem reckons_cmp (H : Hs) (ab hb a : Nat) (w : World) (h : IsHost w hb H) (hA : IsAsk w ab hb a) :
    Calls Try.prog 83 #[.pointer (some ⟨ab, 0, none⟩), .int .u32 13] w fun e w' => e = .returned (.tuple #[]) ∧ IsHost w' hb (H.put 10 (cmpT (cmpZ (H.two 0).toNat (H.two 2).toNat) (cmpP (H.two 0).toNat (H.two 2).toNat) (cmpC (H.two 0).toNat (H.two 2).toNat) 4)) ∧ Upd [hb] w w' := by
  have HH := Lib.hid (And.intro h hA)
  have gr := Lib.hid (cmpT_range (cmpZ (H.two 0).toNat (H.two 2).toNat) (cmpP (H.two 0).toNat (H.two 2).toNat) (cmpC (H.two 0).toNat (H.two 2).toNat) 4)
  clear h hA
  have tok0 : True := trivial
  have tok1 : True := trivial
  go_enter Try.func83, Try.ntmps83
  go_wp2_with (first | (have _t := tok0; clear _t; go_at_call 100; refine (two_any H ab hb a 0 (by decide) _ HH.out.1 HH.out.2).mono ?_; rintro e w' ⟨rfl, rfl⟩; clear tok0) | (have _t := tok1; clear _t; go_at_call 100; refine (two_any H ab hb a 2 (by decide) _ HH.out.1 HH.out.2).mono ?_; rintro e w' ⟨rfl, rfl⟩; clear tok1) | (go_at_call 108; refine (fl_Compare (H.two 0) (H.two 2) _).mono ?_; rintro e w1 ⟨rfl, hu⟩; have U1 := Lib.hid hu; clear hu) | (go_at_call 107; refine (compared_any _ _ _ _).mono ?_; rintro e w2 ⟨rfl, hu⟩; have U2 := Lib.hid (U1.out.also hu (by simp)); clear hu U1) | (go_at_call 106; refine (answers_any H ab hb a _ gr.out _ (HH.out.1.keep U2.out (by simp)) (HH.out.2.keep U2.out (by simp))).mono ?_; rintro e w3 ⟨rfl, h2, hu⟩; have H2 := Lib.hid (And.intro h2 ((U2.out.mono (T := [hb]) (by simp)).also hu (by simp))); clear h2 hu U2))
  go_end0
  exact ⟨rfl, H2.out.1, H2.out.2⟩

theorem Do_sub (H : Hs) (M : Mem) (hb a pb : Nat) (w : World) (h : IsHost w hb H) (hm : IsMem w a pb M) (hne : hb ≠ a ∧ hb ≠ pb) (e17 : H.get 17 = 10) :
    Calls Try.prog 50 #[.pointer (some ⟨hb, 0, none⟩), .pointer (some ⟨a, 0, none⟩)] w fun e w' => e = .returned (.tuple #[Flt.zero.val, .bool true]) ∧ IsHost w' hb ((H.put 10 (flDo .sub (H.two 0).toNat (H.two 2).toNat % 4294967296)).put 11 (flDo .sub (H.two 0).toNat (H.two 2).toNat / 4294967296)) ∧ IsMem w' a pb M ∧ Upd [hb, pb] w w' :=
  Do_reck_ok H _ M _ hb a pb w h hm hne (by rw [e17]; decide) (fun ab w1 hA => by rw [e17]; exact ((reckons_sub H ab hb a w1 hA.h hA.k hA.n.1).mono fun e w2 ⟨h1, h2, h3⟩ => ⟨h1, h2, hA.m.keep h3 (by simpa using fun e => hne.1 e.symm) (by simpa using fun e => hne.2 e.symm), h3.mono (by simp)⟩))

theorem Do_cmp (H : Hs) (M : Mem) (hb a pb : Nat) (w : World) (h : IsHost w hb H) (hm : IsMem w a pb M) (hne : hb ≠ a ∧ hb ≠ pb) (e17 : H.get 17 = 13) :
    Calls Try.prog 50 #[.pointer (some ⟨hb, 0, none⟩), .pointer (some ⟨a, 0, none⟩)] w fun e w' => e = .returned (.tuple #[Flt.zero.val, .bool true]) ∧ IsHost w' hb (H.put 10 (cmpT (cmpZ (H.two 0).toNat (H.two 2).toNat) (cmpP (H.two 0).toNat (H.two 2).toNat) (cmpC (H.two 0).toNat (H.two 2).toNat) 4)) ∧ IsMem w' a pb M ∧ Upd [hb, pb] w w' :=
  Do_reck_ok H _ M _ hb a pb w h hm hne (by rw [e17]; decide) (fun ab w1 hA => by rw [e17]; exact ((reckons_cmp H ab hb a w1 hA.h hA.k).mono fun e w2 ⟨h1, h2, h3⟩ => ⟨h1, h2, hA.m.keep h3 (by simpa using fun e => hne.1 e.symm) (by simpa using fun e => hne.2 e.symm), h3.mono (by simp)⟩))
end Go.Proofs.Ytncafchgdgmeaaa
