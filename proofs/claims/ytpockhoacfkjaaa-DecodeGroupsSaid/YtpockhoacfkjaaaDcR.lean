/-
  Package decode: Kind, by its contract.
-/
import Derived.Test.YtpockhoacfkjaaaDcQ
namespace Go.Proofs.Ytpockhoacfkjaaa
open Go Go.RowKit
set_option linter.unusedVariables false
set_option linter.unusedSimpArgs false

set_option maxRecDepth 100000 in
set_option maxHeartbeats 2000000 in
theorem Kind_90 (v : Value) (L : List Int) (g : Nat) (w : World) (hv : BArg w v L g) (he : decE L = 90) :
    Calls Try.prog 14 #[v] w fun e w' => e = .returned (.int .i64 3) ∧ Upd [] w w' := by
  have HD := Lib.hid (Decode_any v L g w hv)
  have e1 : decE L = 90 := he
  clear hv he
  go_enter Try.func14, Try.ntmps14
  go_wp2_with (first | (have _t := HD; clear _t; go_at_call 12; refine HD.out.mono ?_; rintro e w2 ⟨rfl, hu⟩; have HU := Lib.hid hu; clear hu HD) | (have _t := HU; clear _t; refine at_store 28 rfl ?_; refine wpList_store_ins (decI L) w2.heap.size rfl _ _ rfl rfl rfl (heap_alloc_new w2 (.cells Ins.zero.cells 28)) rfl ?_; intro w3 hw; obtain ⟨_, z2⟩ := ins_new (S := []) (w0 := w2) hw (heap_alloc_new w2 (.cells Ins.zero.cells 28)) rfl ((Upd.refl [] w2).alloc _) (.inr (Nat.le_refl _)); have HV := Lib.hid (HU.out.also z2 (by simp)); clear z2 hw HU))
  go_ret
  exact ⟨rfl, HV.out⟩

set_option maxRecDepth 100000 in
set_option maxHeartbeats 2000000 in
theorem Kind_12 (v : Value) (L : List Int) (g : Nat) (w : World) (hv : BArg w v L g) (he : decE L = 12) :
    Calls Try.prog 14 #[v] w fun e w' => e = .returned (.int .i64 4) ∧ Upd [] w w' := by
  have HD := Lib.hid (Decode_any v L g w hv)
  have e1 : decE L = 12 := he
  clear hv he
  go_enter Try.func14, Try.ntmps14
  go_wp2_with (first | (have _t := HD; clear _t; go_at_call 12; refine HD.out.mono ?_; rintro e w2 ⟨rfl, hu⟩; have HU := Lib.hid hu; clear hu HD) | (have _t := HU; clear _t; refine at_store 28 rfl ?_; refine wpList_store_ins (decI L) w2.heap.size rfl _ _ rfl rfl rfl (heap_alloc_new w2 (.cells Ins.zero.cells 28)) rfl ?_; intro w3 hw; obtain ⟨_, z2⟩ := ins_new (S := []) (w0 := w2) hw (heap_alloc_new w2 (.cells Ins.zero.cells 28)) rfl ((Upd.refl [] w2).alloc _) (.inr (Nat.le_refl _)); have HV := Lib.hid (HU.out.also z2 (by simp)); clear z2 hw HU))
  go_ret
  exact ⟨rfl, HV.out⟩

set_option maxRecDepth 100000 in
set_option maxHeartbeats 2000000 in
theorem Kind_no (v : Value) (L : List Int) (g : Nat) (w : World) (hv : BArg w v L g) (he : decE L ≠ 90 ∧ decE L ≠ 12) :
    Calls Try.prog 14 #[v] w fun e w' => e = .returned (.int .i64 0) ∧ Upd [] w w' := by
  have HD := Lib.hid (Decode_any v L g w hv)
  have e1 : (decE L == 90) = false := by simpa using he.1
  have e2 : (decE L == 12) = false := by simpa using he.2
  clear hv he
  go_enter Try.func14, Try.ntmps14
  go_wp2_with (first | (have _t := HD; clear _t; go_at_call 12; refine HD.out.mono ?_; rintro e w2 ⟨rfl, hu⟩; have HU := Lib.hid hu; clear hu HD) | (have _t := HU; clear _t; refine at_store 28 rfl ?_; refine wpList_store_ins (decI L) w2.heap.size rfl _ _ rfl rfl rfl (heap_alloc_new w2 (.cells Ins.zero.cells 28)) rfl ?_; intro w3 hw; obtain ⟨_, z2⟩ := ins_new (S := []) (w0 := w2) hw (heap_alloc_new w2 (.cells Ins.zero.cells 28)) rfl ((Upd.refl [] w2).alloc _) (.inr (Nat.le_refl _)); have HV := Lib.hid (HU.out.also z2 (by simp)); clear z2 hw HU))
  go_ret
  exact ⟨rfl, HV.out⟩

theorem Kind_any (v : Value) (L : List Int) (g : Nat) (w : World) (hv : BArg w v L g) :
    Calls Try.prog 14 #[v] w fun e w' => e = .returned (.int .i64 (kindM L)) ∧ Upd [] w w' := by
  unfold kindM
  by_cases h1 : decE L = 90
  · rw [if_pos h1]; exact Kind_90 v L g w hv h1
  · rw [if_neg h1]
    by_cases h2 : decE L = 12
    · rw [if_pos h2]; exact Kind_12 v L g w hv h2
    · rw [if_neg h2]; exact Kind_no v L g w hv ⟨h1, h2⟩

end Go.Proofs.Ytpockhoacfkjaaa
