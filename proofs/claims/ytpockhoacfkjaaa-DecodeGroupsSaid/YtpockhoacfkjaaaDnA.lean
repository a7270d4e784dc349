/-
  The law DecodeNone: the plain part; what holds along the walks that make slices of bytes and decode them. No condition.
-/
import Derived.Test.YtpockhoacfkjaaaBy
import Derived.Test.YtpockhoacfkjaaaDcV
namespace Go.Proofs.Ytpockhoacfkjaaa
open Go Go.RowKit
set_option linter.unusedVariables false
set_option linter.unusedSimpArgs false

def otherB (k : Int) : Int := if k = 0 then 244 else if k = 1 then 102 else if k = 2 then 240 else if k = 3 then 14 else if k = 4 then 39 else if k = 5 then 96 else if k = 6 then 142 else if k = 7 then 200 else if k = 8 then 228 else if k = 9 then 250 else if k = 10 then 216 else 143
def noneTbl : Array Value := #[.int .u8 244, .int .u8 102, .int .u8 240, .int .u8 14, .int .u8 39, .int .u8 96, .int .u8 142, .int .u8 200, .int .u8 228, .int .u8 250, .int .u8 216, .int .u8 143]

theorem noneTbl_at (k : Int) (hk : 0 ≤ k ∧ k < 12) : noneTbl[k.toNat]? = some (.int .u8 (otherB k)) := by
  have h : k = 0 ∨ k = 1 ∨ k = 2 ∨ k = 3 ∨ k = 4 ∨ k = 5 ∨ k = 6 ∨ k = 7 ∨ k = 8 ∨ k = 9 ∨ k = 10 ∨ k = 11 := by omega
  rcases h with rfl | rfl | rfl | rfl | rfl | rfl | rfl | rfl | rfl | rfl | rfl | rfl <;> rfl

theorem otherB_byte (k : Int) : 0 ≤ otherB k ∧ otherB k ≤ 255 := by
  unfold otherB
  repeat' split
  all_goals decide

theorem no_other (k : Int) (hk : 0 ≤ k ∧ k < 12) (M : List Int) : dcInsn ([otherB k] ++ M) 0 = .err 12 := by
  rw [List.singleton_append, dcInsn, byte0, DR.bind_ok]
  have h : k = 0 ∨ k = 1 ∨ k = 2 ∨ k = 3 ∨ k = 4 ∨ k = 5 ∨ k = 6 ∨ k = 7 ∨ k = 8 ∨ k = 9 ∨ k = 10 ∨ k = 11 := by omega
  rcases h with rfl | rfl | rfl | rfl | rfl | rfl | rfl | rfl | rfl | rfl | rfl | rfl <;> rfl

theorem no_ud2 (M : List Int) : dcInsn ([15, 11] ++ M) 0 = .err 90 := by
  rw [List.cons_append, List.singleton_append, dcInsn, byte0, DR.bind_ok, dcRest, if_pos rfl, dcSecond, byte1, DR.bind_ok, if_pos rfl]

theorem no_lea (z : Int) (hz : 0 ≤ z ∧ z < 64) (M : List Int) : dcInsn ([141, 192 + z] ++ M) 0 = .err 90 := by
  rw [List.cons_append, List.singleton_append, dcInsn, byte0, DR.bind_ok]
  have e : dcRest (141 :: (192 + z) :: M) 141 (0 + 1) = dcLea (141 :: (192 + z) :: M) 1 := rfl
  rw [e, dcLea, dcMrm, byte1, DR.bind_ok, DR.bind_ok, if_pos (by show (192 + z) / 64 = 3; omega)]

theorem no_last (z : Int) (hz : 0 ≤ z ∧ z < 8) (M : List Int) : dcInsn ([255, 248 + z] ++ M) 0 = .err 90 := by
  rw [List.cons_append, List.singleton_append, dcInsn, byte0, DR.bind_ok]
  have e : dcRest (255 :: (248 + z) :: M) 255 (0 + 1) = dcLast (255 :: (248 + z) :: M) 1 := rfl
  have er : (mrmOf (248 + z)).reg = 7 := by show (248 + z) / 8 % 8 = 7; omega
  rw [e, dcLast, dcMrm, byte1, DR.bind_ok, DR.bind_ok, er]
  rfl

theorem no_lays (z : Int) (hz : 0 ≤ z ∧ z < 8) (M : List Int) : dcInsn ([199, 200 + z] ++ M) 0 = .err 90 := by
  rw [List.cons_append, List.singleton_append, dcInsn, byte0, DR.bind_ok]
  have e : dcRest (199 :: (200 + z) :: M) 199 (0 + 1) = dcLays (199 :: (200 + z) :: M) 199 1 := rfl
  have er : (mrmOf (200 + z)).reg = 1 := by show (200 + z) / 8 % 8 = 1; omega
  rw [e, dcLays, dcMrm, byte1, DR.bind_ok, DR.bind_ok, er]
  rfl

theorem BOk.cons {c : Int} {L : List Int} (hc : 0 ≤ c ∧ c ≤ 255) (h : BOk L) : BOk (c :: L) := by
  intro i
  cases i with
  | zero => simpa using hc
  | succ i => simpa using h i
theorem BOk.nil : BOk [] := fun i => by simp

/-- Along a walk: nothing that was there has changed; a slice of the walk's own reads as it did. -/
structure Dn (w : World) (v : Value) (L : List Int) (w1 : World) : Prop where
  u : Upd [] w w1
  o : Own w1 w.heap.size v L

section
variable {w w1 w2 : World} {v v' : Value} {L N : List Int}
theorem Dn.start (h : Upd [] w w1) : Dn w (.slice none 0 0) [] w1 := ⟨h, own_nil _ _⟩
theorem Dn.step (h : Dn w v L w1) (u : Upd [] w1 w2) : Dn w v L w2 := ⟨h.u.also u (by simp), h.o.keep u (by simp)⟩
theorem Dn.ins (h : Dn w v L w1) {j : Ins} (hw : (w1.alloc (.cells Ins.zero.cells 28)).setCells w1.heap.size 0 j.cells.toList = w2) : Dn w v L w2 := by
  obtain ⟨_, z2⟩ := ins_new (S := []) (w0 := w1) hw (heap_alloc_new w1 (.cells Ins.zero.cells 28)) rfl ((Upd.refl [] w1).alloc _) (.inr (Nat.le_refl _))
  exact h.step z2

theorem Dn.lit (h : Dn w v L w1) (C : Array Value) (N : List Int) (hC : C.toList = N.map (.int .u8)) (hn : N.length ≤ maxLen) :
    Own (w1.alloc (.cells C 5)) w.heap.size (.slice (some ⟨w1.heap.size, 0, none⟩) N.length N.length) N := own_lit w1 _ N C hC h.u.size hn

theorem Dn.app (h : Dn w v L w1) {C : Array Value} {n : Nat} (hg : Grew (w1.alloc (.cells C 5)) w.heap.size (.slice (some ⟨w1.heap.size, 0, none⟩) n n) N v' w2) : Dn w v L w2 := by
  have hu : Upd [] w w2 := (h.u.alloc _).also hg.u (by intro x hx; simp [Value.ownBlock] at hx; subst hx; exact .inr h.u.size)
  exact ⟨hu, (h.o.keep ((Upd.refl [] w1).alloc _) (by simp)).keep hg.u (by intro g e hx; simp [Value.ownBlock] at hx; have := (h.o.block g e).2; omega)⟩

/-- An append to the slice itself. -/
theorem Dn.grow (h : Dn w v L w1) (hg : Grew w1 w.heap.size v N v' w2) : Dn w v' N w2 :=
  ⟨h.u.also hg.u (by intro x hx; cases hv : v.ownBlock with | none => rw [hv] at hx; simp at hx | some g => rw [hv] at hx; simp at hx; exact .inr (by have := (h.o.block g hv).1; omega)), hg.o⟩

theorem Dn.take (h : Dn w v L w1) {C : Array Value} {n : Nat} (hg : Grew (w1.alloc (.cells C 5)) w.heap.size (.slice (some ⟨w1.heap.size, 0, none⟩) n n) N v' w2) : Dn w v' N w2 := ⟨(h.app hg).u, hg.o⟩
end
end Go.Proofs.Ytpockhoacfkjaaa
