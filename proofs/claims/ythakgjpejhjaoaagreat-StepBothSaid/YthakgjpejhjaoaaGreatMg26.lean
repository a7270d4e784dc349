/-
  Parts of the proof (their names shortened by a program). No condition.
-/
import Derived.Test.YthakgjpejhjaoaaGreatMg01
import Derived.Test.YthakgjpejhjaoaaGreatMg25
namespace Go.Proofs.YthakgjpejhjaoaaGreat
open Go Go.RowKit
set_option linter.unusedVariables false
set_option linter.unusedSimpArgs false
set_option maxRecDepth 100000
set_option maxHeartbeats 16000000
theorem bo_bits (y : Int) (h : 1 ≤ y ∧ y < 8) : (y % 4 = 3 → bits .and .i64 y 3 = 3 ∧ bits .and .i64 y 1 = 1) ∧ (y % 4 = 1 → bits .and .i64 y 3 = 1 ∧ bits .and .i64 y 1 = 1) ∧ (y % 2 = 0 → (bits .and .i64 y 3 == 3) = false ∧ bits .and .i64 y 1 = 0) := by
 have hy : y = 1 ∨ y = 2 ∨ y = 3 ∨ y = 4 ∨ y = 5 ∨ y = 6 ∨ y = 7 := by omega
 rcases hy with rfl | rfl | rfl | rfl | rfl | rfl | rfl <;> decide +kernel
theorem Yi3 {X : Prop} (s : St) (y o v v2 : Int) (B : Opd) (hy : 1 ≤ y ∧ y < 8) (hs : s.Ok) (hv : 0 ≤ v ∧ v < 4294967296) (hv2 : 0 ≤ v2 ∧ v2 < 4294967296) (ho : boOp o B v2)
  (P : ∀ (S1 C : St) (F1 H : Flt) (k1 k2 : Bool) (M2 : Mem),
   (∀ (w : World) (p pb : Nat), Yj w p pb (Ybk y) → Calls Tryz.prog 15 #[.pointer (some ⟨p, 0, none⟩), .agg s.cells, .agg (boI o B).cells] w fun e w' => e = .returned (.tuple #[.agg (St.cells S1), F1.val, .bool k1]) ∧ Yj w' p pb M2 ∧ Upd [pb] w w') →
   (∀ (w : World) (p pb : Nat), Yj w p pb M2 → Calls Tryz.prog 15 #[.pointer (some ⟨p, 0, none⟩), .agg s.cells, .agg (Ins.cells ⟨10, 0, ⟨3, 0, 8, -1, -1, 1⟩, ⟨2, 0, v, 0, 0, 0⟩, false, 10⟩)] w fun e w' => e = .returned (.tuple #[.agg (St.cells C), H.val, .bool k2]) ∧ Yj w' p pb M2 ∧ Upd [pb] w w') →
   ((bits .and .i64 y 3 = 3 ∧ bits .and .i64 y 1 = 1 ∧ k1 = true ∧ k2 = true ∧ ∀ i, i < 8 → C.R i = s.R i) ∨
   (bits .and .i64 y 3 = 1 ∧ bits .and .i64 y 1 = 1 ∧ k1 = false ∧ k2 = true ∧ s = S1 ∧ F1 = ⟨1, s.pc, 8, 2⟩ ∧ ∀ i, i < 8 → C.R i = s.R i) ∨
   (∃ b, bits .and .i64 y 3 = b ∧ bits .and .i64 y 1 = 0 ∧ (b == 3) = false ∧ k1 = false ∧ k2 = false ∧ s = S1 ∧ s = C ∧ F1 = ⟨1, s.pc, 8, 1⟩ ∧ H = ⟨1, s.pc, 8, 1⟩)) → X) : X := by
 obtain ⟨b1, b2, b3⟩ := bo_bits y hy
 by_cases h3 : y % 4 = 3
 ·obtain ⟨S1, M2, hR, D1⟩ := bo_do y hy h3 s hs hv2 ho
  exact P S1 (boC M2 s v) Flt.zero Flt.zero true true M2 D1 (fun w p pb hM => bo_cmp y hy (by omega) hR hM hs hv) (.inl ⟨(b1 h3).1, (b1 h3).2, rfl, rfl, fun i hi => rfl⟩)
 ·by_cases h2 : y % 2 = 1
  ·exact P s (boC (Ybk y) s v) ⟨1, s.pc, 8, 2⟩ Flt.zero false true (Ybk y) (fun w p pb hM => by have := bo_not y hy h3 hM hs hv2 ho; rw [boW, if_pos h2] at this; exact this) (fun w p pb hM => bo_cmp y hy h2 (bo_R y hy) hM hs hv) (.inr (.inl ⟨(b2 (by omega)).1, (b2 (by omega)).2, rfl, rfl, rfl, rfl, fun i hi => rfl⟩))
  ·exact P s s ⟨1, s.pc, 8, 1⟩ ⟨1, s.pc, 8, 1⟩ false false (Ybk y) (fun w p pb hM => by have := bo_not y hy h3 hM hs hv2 ho; rw [boW, if_neg h2] at this; exact this) (fun w p pb hM => bo_cmpn y hy h2 hM hs hv) (.inr (.inr ⟨_, rfl, (b3 (by omega)).2, (b3 (by omega)).1, rfl, rfl, rfl, rfl, rfl, rfl⟩))
theorem Yka (s : St) (r0 o0 v : Int) (w : World) (hs : s.Ok) (hr : 0 ≤ r0) (ho : 0 ≤ o0) (hv : 0 ≤ v ∧ v < 4294967296) :
  Calls Tryz.prog 9 #[.agg s.cells, .int .u8 r0, .int .u8 o0, .int .u32 v] w fun e w' => e = .returned (.bool true) ∧ Upd [] w w' := by
 have hy : 1 ≤ r0 % 7 + 1 ∧ r0 % 7 + 1 < 8 := by omega
 have hv2 : 0 ≤ v % 200 ∧ v % 200 < 4294967296 := by omega
 have two : ∀ (k : Nat) (o : Int), o0 % 8 = k → (o = 3 ∨ o = 5 ∨ o = 8 ∨ o = 9 ∨ o = 23) → #[Value.int .i64 3, .int .i64 8, .int .i64 12, .int .i64 15, .int .i64 23, .int .i64 9, .int .i64 14, .int .i64 5][k]? = some (Value.int .i64 o) →
   Calls Tryz.prog 9 #[.agg s.cells, .int .u8 r0, .int .u8 o0, .int .u32 v] w fun e w' => e = .returned (.bool true) ∧ Upd [] w w' := fun k o hk hop hg =>
  Yi3 s (r0 % 7 + 1) o v (v % 200) ⟨2, 0, v % 200, 0, 0, 0⟩ hy hs hv hv2 (.inl ⟨hop, rfl⟩) fun S1 C F1 H k1 k2 M2 D1 D2 hf =>
   bow_two s r0 o0 v w _ _ _ _ k hr ho hv.1 rfl rfl rfl hk rfl o hg (by omega) (by omega) (by omega) S1 C F1 H k1 k2 M2 D1 D2 hf
 have hk : o0 % 8 = 0 ∨ o0 % 8 = 1 ∨ o0 % 8 = 2 ∨ o0 % 8 = 3 ∨ o0 % 8 = 4 ∨ o0 % 8 = 5 ∨ o0 % 8 = 6 ∨ o0 % 8 = 7 := by omega
 rcases hk with hk | hk | hk | hk | hk | hk | hk | hk
 ·exact two 0 3 hk (by omega) rfl
 ·exact two 1 8 hk (by omega) rfl
 ·exact Yi3 s (r0 % 7 + 1) 12 v (v % 200) Opd.none hy hs hv hv2 (.inr ⟨by omega, rfl⟩) fun S1 C F1 H k1 k2 M2 D1 D2 hf =>
   bow_inc s r0 o0 v w _ _ _ _ 2 hr ho hv.1 rfl rfl rfl hk rfl rfl S1 C F1 H k1 k2 M2 D1 D2 hf
 ·exact Yi3 s (r0 % 7 + 1) 15 v (v % 200) Opd.none hy hs hv hv2 (.inr ⟨by omega, rfl⟩) fun S1 C F1 H k1 k2 M2 D1 D2 hf =>
   bow_neg s r0 o0 v w _ _ _ _ 3 hr ho hv.1 rfl rfl rfl hk rfl rfl S1 C F1 H k1 k2 M2 D1 D2 hf
 ·exact two 4 23 hk (by omega) rfl
 ·exact two 5 9 hk (by omega) rfl
 ·exact Yi3 s (r0 % 7 + 1) 14 v (v % 200) Opd.none hy hs hv hv2 (.inr ⟨by omega, rfl⟩) fun S1 C F1 H k1 k2 M2 D1 D2 hf =>
   bow_not s r0 o0 v w _ _ _ _ 6 hr ho hv.1 rfl rfl rfl hk rfl rfl S1 C F1 H k1 k2 M2 D1 D2 hf
 ·exact two 7 5 hk (by omega) rfl
end Go.Proofs.YthakgjpejhjaoaaGreat
