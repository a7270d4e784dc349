/-
  The law's check of known answers, by its contract.
-/
import Derived.Test.YtncafchgdgmeaaaPgG
import Derived.Test.YtncafchgdgmeaaaPgE
import Derived.Test.YtncafchgdgmeaaaPgV
namespace Go.Proofs.Ytncafchgdgmeaaa
open Go Go.RowKit
set_option linter.unusedVariables false
set_option linter.unusedSimpArgs false

theorem Mem.write_some {M : Mem} {x bytes : Int} {i : Nat} (h : M.bad x 2 (widthI bytes).toNat = some i) : M.writeF x bytes = pageFault (plus x i) 2 ∧ M.writeK x bytes = false ∧ ∀ v, M.writeM x bytes v = M := by
  refine ⟨?_, ?_, fun v => ?_⟩
  · rw [Mem.writeF, h]
  · rw [Mem.writeK, h]; rfl
  · rw [Mem.writeM, h]

theorem Mem.write_none {M : Mem} {x bytes : Int} (h : M.bad x 2 (widthI bytes).toNat = none) : M.writeF x bytes = .agg #[.int .i64 0, .int .u32 0, .int .u32 0, .int .i64 0] ∧ M.writeK x bytes = true ∧ ∀ v, M.writeM x bytes v = M.putN x v (widthI bytes).toNat := by
  refine ⟨?_, ?_, fun v => ?_⟩
  · rw [Mem.writeF, h]
  · rw [Mem.writeK, h]; rfl
  · rw [Mem.writeM, h]

theorem Mem.read_some {M : Mem} {x bytes right : Int} {i : Nat} (h : M.bad x (rightI right) (widthI bytes).toNat = some i) : M.readV x bytes right = 0 ∧ M.readF x bytes right = pageFault (plus x i) (rightI right) ∧ M.readK x bytes right = false := by
  refine ⟨?_, ?_, ?_⟩
  · rw [Mem.readV, h]
  · rw [Mem.readF, h]
  · rw [Mem.readK, h]; rfl

theorem Mem.read_none {M : Mem} {x bytes right : Int} (h : M.bad x (rightI right) (widthI bytes).toNat = none) : M.readV x bytes right = M.get x (widthI bytes).toNat ∧ M.readF x bytes right = .agg #[.int .i64 0, .int .u32 0, .int .u32 0, .int .i64 0] ∧ M.readK x bytes right = true := by
  refine ⟨?_, ?_, ?_⟩
  · rw [Mem.readV, h]
  · rw [Mem.readF, h]
  · rw [Mem.readK, h]; rfl

def k1 : Mem := Mem.zero.mapN (0 : Int).toNat (1 : Int).toNat 3
def k2 : Mem := k1.putN 0 16909060 (widthI 4).toNat

theorem kn_map1 : Mem.zero.mapB 0 1 3 = true := by decide
theorem kn_map2 : k1.mapB 0 1 3 = false := by decide
theorem kn_w1 : k1.bad 254 2 (widthI 4).toNat = some 2 := by decide +kernel
theorem kn_w2 : k1.bad 0 2 (widthI 4).toNat = none := by decide +kernel
theorem kn_r1 : k2.bad 1 (rightI 1) (widthI 2).toNat = none := by decide +kernel
theorem kn_r1v : k2.get 1 (widthI 2).toNat = 515 := by decide +kernel
theorem kn_w3 : k2.bad 16384 2 (widthI 1).toNat = some 0 := by decide +kernel
theorem kn_r0 : k2.rights 0 = 3 := by decide +kernel
theorem kn_r64 : k2.rights 64 = 0 := by decide +kernel
theorem kn_pk : (k2.peek 250 100).length = 6 := by decide +kernel

set_option maxRecDepth 100000 in
set_option maxHeartbeats 4000000 in
theorem known_any (w : World) :
    Calls Try.prog 14 #[] w fun e w' => e = .returned (.bool true) ∧ Upd [] w w' := by
  go_enter Try.func14, Try.ntmps14
  have e1 : k1.writeF 254 4 = .agg #[.int .i64 1, .int .u32 0, .int .u32 256, .int .i64 2] := (Mem.write_some kn_w1).1
  have e2 := (Mem.write_some kn_w1).2.1
  have e3 := (Mem.write_some kn_w1).2.2 9
  have g1 := (Mem.write_none kn_w2).1
  have g2 := (Mem.write_none kn_w2).2.1
  have g3 : k1.writeM 0 4 16909060 = k2 := (Mem.write_none kn_w2).2.2 16909060
  have r1 : k2.readV 1 2 1 = 515 := (Mem.read_none kn_r1).1.trans kn_r1v
  have r2 := (Mem.read_none kn_r1).2.1
  have r3 := (Mem.read_none kn_r1).2.2
  have i1 : k2.writeF 16384 1 = .agg #[.int .i64 1, .int .u32 0, .int .u32 16384, .int .i64 2] := (Mem.write_some kn_w3).1
  have i2 := (Mem.write_some kn_w3).2.1
  have i3 := (Mem.write_some kn_w3).2.2 0
  have q1 := kn_r0
  have q2 := kn_r64
  have q3 := kn_pk
  go_wp2_with (first | (go_at_call 15; refine (New_any _).mono ?_; rintro e w0 ⟨a, pb, rfl, ha, hp, hM0, hU0⟩) | (go_at_call 16; refine (Map_yes Mem.zero a pb 0 1 3 _ hM0 (by decide) kn_map1).mono ?_; rintro e w1 ⟨rfl, hM1, hU1⟩; clear hM0) | (go_at_call 16; refine (Map_no k1 a pb 0 1 3 _ hM1 (by decide) kn_map2).mono ?_; rintro e w2 ⟨rfl, hU2⟩; have hM2 := hM1.keep hU2 (by simp) (by simp); clear hM1) | (go_at_call 18; refine (Write_any k1 a pb 254 4 9 _ hM2 (by decide) (by decide) (by decide) (by decide)).mono ?_; rintro e w3 ⟨rfl, hM3, hU3⟩; rw [e1, e2]; rw [e3] at hM3; clear hM2) | (go_at_call 18; refine (Write_any k1 a pb 0 4 16909060 _ (hM3.keep ((Upd.refl [] _).alloc _) (by simp) (by simp)) (by decide) (by decide) (by decide) (by decide)).mono ?_; rintro e w4 ⟨rfl, hM4, hU4⟩; rw [g1, g2]; rw [g3] at hM4; have hb4 : w4.heap[w3.heap.size]? = some (.cells #[.int .i64 1, .int .u32 0, .int .u32 256, .int .i64 2] 32 (0, 0)) := hU4.get (heap_alloc_new _ _) (by have := hM3.pl; simp; omega); have hp3 := hM3.pl; clear hM3) | (go_at_call 20; refine (Read_any k2 a pb 1 2 1 _ (hM4.keep ((Upd.refl [] _).alloc _) (by simp) (by simp)) (by decide) (by decide)).mono ?_; rintro e w5 ⟨rfl, hU5⟩; rw [r1, r2, r3]; have hM5 := (hM4.keep ((Upd.refl [] _).alloc _) (by simp) (by simp)).keep hU5 (by simp) (by simp); have hb5 := hU5.get (heap_alloc_keep _ hb4) (by simp); clear hM4 hb4) | (go_at_call 18; refine (Write_any k2 a pb 16384 1 0 _ (hM5.keep ((Upd.refl [] _).alloc _) (by simp) (by simp)) (by decide) (by decide) (by decide) (by decide)).mono ?_; rintro e w6 ⟨rfl, hM6, hU6⟩; rw [i1, i2]; rw [i3] at hM6; have hb6 := hU6.get (heap_alloc_keep _ hb5) (by simp; omega); clear hM5; have hc6 : ∀ o, (w6.alloc (.cells #[.int .i64 1, .int .u32 0, .int .u32 16384, .int .i64 2] 32)).cell? ⟨w3.heap.size, o, none⟩ = #[.int .i64 1, .int .u32 0, .int .u32 256, .int .i64 2][o]? := cells_of (heap_alloc_keep _ hb6); have hM7 : IsMem (w6.alloc (.cells #[.int .i64 1, .int .u32 0, .int .u32 16384, .int .i64 2] 32)) a pb k2 := hM6.keep ((Upd.refl [] _).alloc _) (by simp) (by simp)) | (go_at_call 23; refine (Rights_any a pb _ _ k2 hM7).mono ?_; rintro e w' ⟨rfl, rfl⟩; first | rw [q1] | rw [q2]) | (go_at_call 22; refine (Peek_any k2 a pb 250 100 _ hM7 (by decide) (by decide) (by decide) (by decide)).mono ?_; rintro e w8 ⟨v8, rfl, ho, hU8⟩; obtain ⟨b8, c8, rfl⟩ := ownsRow_form ho; rw [q3]; clear ho hM7))
  go_ret
  have hS : ∀ x, x ∈ [pb] → x ∈ ([] : List Nat) ∨ w.heap.size ≤ x := by
    intro x hx
    simp only [List.mem_singleton] at hx
    omega
  have hE : ∀ x, x ∈ ([] : List Nat) → x ∈ ([] : List Nat) ∨ w.heap.size ≤ x := by simp
  have U3 := ((hU0.also hU1 hS).also hU2 hE).also hU3 hS
  have U4 := (U3.alloc _).also hU4 hS
  have U5 := (U4.alloc _).also hU5 hE
  have U6 := (U5.alloc _).also hU6 hS
  exact ⟨rfl, (U6.alloc _).also hU8 hE⟩

end Go.Proofs.Ytncafchgdgmeaaa
