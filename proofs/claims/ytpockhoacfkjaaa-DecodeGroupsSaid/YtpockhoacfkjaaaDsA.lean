/-
  The law DecodeSingles: the plain part; what holds along its walk. No condition.
-/
import Derived.Test.YtpockhoacfkjaaaDfB
import Derived.Test.YtpockhoacfkjaaaDrA
namespace Go.Proofs.Ytpockhoacfkjaaa
open Go Go.RowKit
set_option linter.unusedVariables false
set_option linter.unusedSimpArgs false

set_option maxRecDepth 100000 in
set_option maxHeartbeats 400000 in
theorem lreg_any (r : Int) (hr : 0 ≤ r ∧ r ≤ 255) (w : World) : Calls Try.prog 15 #[.int .u8 r] w fun e w' => e = .returned (.agg #[.int .i64 1, .int .i64 r, .int .u32 0, .int .i64 0, .int .i64 0, .int .u32 0]) ∧ Upd [] w w' := by
  have e : (r + 9223372036854775808) % 18446744073709551616 - 9223372036854775808 = r := by omega
  go_enter Try.func15, Try.ntmps15
  go_wp2
  exact bodyPost_ret (results_one' rfl (res_opd 2 w.heap.size (regO r) rfl (heap_alloc_new _ _))) rfl ⟨rfl, (Upd.refl _ _).alloc _⟩

def opsI (j : Nat) : Int := if j = 0 then 12 else if j = 1 then 13 else if j = 2 then 28 else 29
def sgTbl : Array Value := #[.int .i64 12, .int .i64 13, .int .i64 28, .int .i64 29]
theorem sgTbl_at (j : Nat) (hj : j < 4) : sgTbl[j]? = some (.int .i64 (opsI j)) := by
  have h : j = 0 ∨ j = 1 ∨ j = 2 ∨ j = 3 := by omega
  rcases h with rfl | rfl | rfl | rfl <;> rfl

theorem barg1 (w : World) (T : TypeId) (a : Int) (ha : 0 ≤ a ∧ a ≤ 255) : BArg (w.alloc (.cells #[.int .u8 a] T)) (.slice (some ⟨w.heap.size, 0, none⟩) 1 1) [a] w.heap.size :=
  barg_new w [a] _ T (by intro i hi; have h : i = 0 := (by simp at hi; omega); rcases h with rfl; rfl) (by simp; omega) (by simp [maxLen])

def wdL (v : Int) : List Int := [by0 v, by1 v, by2 v, by3 v]

theorem sg1 (j : Nat) (k : Int) (hj : j < 4) (hk : 0 ≤ k ∧ k < 8) : dcInsn [64 + 8 * j + k] 0 = .ok ⟨opsI j, 0, regO k, Opd.none, false, 0⟩ 1 := by
  rw [dcInsn, byte0, DR.bind_ok, dcRest, if_neg (by omega), if_neg (by omega), show (64 + 8 * (j : Int) + k) % 8 = k by omega]
  have h : j = 0 ∨ j = 1 ∨ j = 2 ∨ j = 3 := by omega
  rcases h with rfl | rfl | rfl | rfl
  · rw [if_pos (by omega)]; rfl
  · rw [if_neg (by omega), if_pos (by omega)]; rfl
  · rw [if_neg (by omega), if_neg (by omega), if_pos (by omega)]; rfl
  · rw [if_neg (by omega), if_neg (by omega), if_neg (by omega), if_pos (by omega)]; rfl

theorem sgW2 (a b v : Int) (hv : 0 ≤ v ∧ v < 4294967296) : dcWord (a :: b :: wdL v) 2 = .ok v 6 := (fm_word a b 0 0 [] [] v hv).1

theorem sgA (c v : Int) (hc : 0 ≤ c ∧ c < 16) (hv : 0 ≤ v ∧ v < 4294967296) : dcInsn ([15, 128 + c] ++ wdL v) 0 = .ok ⟨33, c, immO v, Opd.none, false, 0⟩ 6 := by
  rw [List.cons_append, List.singleton_append, dcInsn, byte0, DR.bind_ok, dcRest, if_pos rfl, dcSecond, byte1, DR.bind_ok, if_neg (by omega), if_neg (by omega), if_pos (by omega), dcImm32, sgW2 _ _ _ hv, DR.bind_ok, DR.bind_ok, show (128 + c) % 16 = c by omega]

theorem sgB (c v : Int) (hc : 0 ≤ c ∧ c < 16) : dcInsn [112 + c, by0 v] 0 = .ok ⟨33, c, immO (sx8 (by0 v)), Opd.none, false, 0⟩ 2 := by
  rw [dcInsn, byte0, DR.bind_ok, dcRest, if_neg (by omega), if_neg (by omega), if_neg (by omega), if_neg (by omega), if_neg (by omega), if_neg (by omega), if_pos (by omega), dcImm8, byte1, DR.bind_ok, DR.bind_ok, show (112 + c) % 16 = c by omega]

theorem sgD (v : Int) (hv : 0 ≤ v ∧ v < 4294967296) : dcInsn ([232] ++ wdL v) 0 = .ok ⟨30, 0, immO v, Opd.none, false, 0⟩ 5 := by
  have e : dcInsn ([232] ++ wdL v) 0 = (dcImm32 ([232] ++ wdL v) 1).bind fun o k => .ok ⟨30, 0, o, Opd.none, false, 0⟩ k := rfl
  rw [e, dcImm32]
  have := word1 232 v [] hv
  rw [show dcWord ([232] ++ wdL v) 1 = .ok v 5 from this]
  rfl

theorem sgH (k v : Int) (hk : 0 ≤ k ∧ k < 8) (hv : 0 ≤ v ∧ v < 4294967296) : dcInsn ([184 + k] ++ wdL v) 0 = .ok ⟨1, 0, regO k, immO v, false, 0⟩ 5 := by
  have e : dcWord ((184 + k) :: wdL v) 1 = .ok v 5 := word1 (184 + k) v [] hv
  rw [List.singleton_append, dcInsn, byte0, DR.bind_ok, dcRest, if_neg (by omega), if_neg (by omega), if_neg (by omega), if_neg (by omega), if_neg (by omega), if_neg (by omega), if_neg (by omega), if_neg (by omega), if_pos (by omega), dcImm32, e, DR.bind_ok, DR.bind_ok,
    show (184 + k) % 8 = k by omega]

theorem by_byte (v : Int) : (0 ≤ by0 v ∧ by0 v ≤ 255) ∧ (0 ≤ by1 v ∧ by1 v ≤ 255) ∧ (0 ≤ by2 v ∧ by2 v ≤ 255) ∧ (0 ≤ by3 v ∧ by3 v ≤ 255) := by
  unfold by0 by1 by2 by3; omega
theorem wdL_ok (v : Int) : BOk (wdL v) := BOk.cons (by_byte v).1 (BOk.cons (by_byte v).2.1 (BOk.cons (by_byte v).2.2.1 (BOk.cons (by_byte v).2.2.2 BOk.nil)))

/-- Along the walk: also a table. -/
structure Si (w : World) (bt : Nat) (C : Array Value) (T : TypeId) (l : List (Nat × Ins)) (v : Value) (L : List Int) (w1 : World) : Prop where
  f : Fi w l v L w1
  t : w1.heap[bt]? = some (.cells C T (0, 0))

section
variable {w w1 w2 : World} {v v' : Value} {L N : List Int} {l : List (Nat × Ins)} {bt : Nat} {C : Array Value} {T : TypeId}
theorem Si.step (h : Si w bt C T l v L w1) (u : Upd [] w1 w2) : Si w bt C T l v L w2 := ⟨h.f.step u, u.get h.t (by simp)⟩
theorem Si.ins (h : Si w bt C T l v L w1) {j : Ins} (hw : (w1.alloc (.cells Ins.zero.cells 28)).setCells w1.heap.size 0 j.cells.toList = w2) : Si w bt C T ((w1.heap.size, j) :: l) v L w2 := by
  obtain ⟨_, z2⟩ := ins_new (S := []) (w0 := w1) hw (heap_alloc_new w1 (.cells Ins.zero.cells 28)) rfl ((Upd.refl [] w1).alloc _) (.inr (Nat.le_refl _))
  exact ⟨h.f.ins hw, z2.get h.t (by simp)⟩
theorem Si.less (h : Si w bt C T l v L w1) (l' : List (Nat × Ins)) (hl : ∀ p, p ∈ l' → p ∈ l) : Si w bt C T l' v L w1 := ⟨⟨h.f.d, fun p hp => h.f.i p (hl p hp)⟩, h.t⟩
theorem Fi.app (h : Fi w l v L w1) {D : Array Value} {n : Nat} (hg : Grew (w1.alloc (.cells D 5)) w.heap.size (.slice (some ⟨w1.heap.size, 0, none⟩) n n) N v' w2) : Fi w l v L w2 := by
  refine ⟨h.d.app hg, fun p hp => hg.u.get (heap_alloc_keep _ (h.i p hp)) ?_⟩
  intro hx
  simp [Value.ownBlock] at hx
  have := lt_of_heap (h.i p hp)
  omega
theorem Si.app (h : Si w bt C T l v L w1) {D : Array Value} {n : Nat} (hg : Grew (w1.alloc (.cells D 5)) w.heap.size (.slice (some ⟨w1.heap.size, 0, none⟩) n n) N v' w2) : Si w bt C T l v L w2 := by
  refine ⟨h.f.app hg, hg.u.get (heap_alloc_keep _ h.t) ?_⟩
  intro hx
  simp [Value.ownBlock] at hx
  have := lt_of_heap h.t
  omega
end

theorem wp_load_opd_mid {op : Oper} {a : Act} {w : World} {K : Act → World → Prop} {Q : Exit → Act → World → Prop} (o : Opd) (b off : Nat) (x : Operand) (ho : op.op = .load 26 x) (hx : a.eval x = .pointer (some ⟨b, off, none⟩))
    (hb : w.rangeAt b off o.cells.toList) (hK : K (a.put op.dst (.agg o.cells)) w) : op.wp Try.prog a w K Q :=
  wp_load_mid 26 x ho b off hx o.cells.toList _ hb Try.underlying26 rfl (by rw [Array.length_toList, Opd.size]; exact opd_info) (by rw [Array.toArray_toList]; exact hK)
end Go.Proofs.Ytpockhoacfkjaaa
