/-
  The law DecodeFront: what holds along its walk. No condition.
-/
import Derived.Test.YtpockhoacfkjaaaDfA
import Derived.Test.YtpockhoacfkjaaaDcL
namespace Go.Proofs.Ytpockhoacfkjaaa
open Go Go.RowKit
set_option linter.unusedVariables false
set_option linter.unusedSimpArgs false

theorem run_neq_ins (i j : Ins) (w : World) : (binOp .neq 28 (.agg i.cells) (.agg j.cells)).run Try.prog w = .ok (.bool (!i.eqB j)) w := by
  have h := run_equalIn_ins i j w 9997
  rw [run_neq_struct]
  rw [show (10000 : Nat) = 9997 + 1 + 1 + 1 from rfl, h, Result.andThen_ok]

/-- Along a walk: a slice of the walk's own, instructions that were laid. -/
structure Fi (w : World) (l : List (Nat × Ins)) (v : Value) (L : List Int) (w1 : World) : Prop where
  d : Dn w v L w1
  i : ∀ p, p ∈ l → w1.heap[p.1]? = some (.cells p.2.cells 28 (0, 0))

section
variable {w w1 w2 : World} {v v' : Value} {L N : List Int} {l : List (Nat × Ins)}
theorem Fi.start (h : Upd [] w w1) : Fi w [] (.slice none 0 0) [] w1 := ⟨Dn.start h, fun _ h => by cases h⟩
theorem Fi.step (h : Fi w l v L w1) (u : Upd [] w1 w2) : Fi w l v L w2 := ⟨h.d.step u, fun p hp => u.get (h.i p hp) (by simp)⟩
theorem Fi.ins (h : Fi w l v L w1) {j : Ins} (hw : (w1.alloc (.cells Ins.zero.cells 28)).setCells w1.heap.size 0 j.cells.toList = w2) : Fi w ((w1.heap.size, j) :: l) v L w2 := by
  obtain ⟨z1, z2⟩ := ins_new (S := []) (w0 := w1) hw (heap_alloc_new w1 (.cells Ins.zero.cells 28)) rfl ((Upd.refl [] w1).alloc _) (.inr (Nat.le_refl _))
  have h2 := h.step z2
  refine ⟨h2.d, fun p hp => ?_⟩
  rcases List.mem_cons.1 hp with rfl | hp
  · exact z1
  · exact h2.i p hp

theorem Fi.insD (h : Fi w l v L w1) {j : Ins} (hw : (w1.alloc (.cells Ins.zero.cells 28)).setCells w1.heap.size 0 j.cells.toList = w2) : Fi w l v L w2 :=
  ⟨(h.ins hw).d, fun p hp => (h.ins hw).i p (List.mem_cons_of_mem _ hp)⟩

theorem Fi.grow (h : Fi w l v L w1) (hg : Grew w1 w.heap.size v N v' w2) : Fi w l v' N w2 := by
  refine ⟨h.d.grow hg, fun p hp => hg.u.get (h.i p hp) ?_⟩
  intro hx
  have := own_other h.d.o (h.i p hp) (by decide)
  cases hv : v.ownBlock with
  | none => rw [hv] at hx; simp at hx
  | some g => rw [hv] at hx this; simp at hx; subst hx; exact this rfl
end

/-- What the laws on bytes know of an instruction's bytes. -/
theorem front_ok {L : List Int} {i : Ins} {k : Nat} (h : dcInsn L 0 = .ok i k) : 1 ≤ k ∧ k ≤ 15 ∧ k ≤ L.length ∧ ∀ j, j < k → decE (L.take j) = 10 := by
  have hd := dec_of h
  obtain ⟨h1, h2, h3, _, h5⟩ := front_cut L hd.2.2
  rw [hd.2.1] at h1 h2 h3 h5
  exact ⟨by omega, by omega, by omega, fun j hj => h5 j (by omega)⟩
end Go.Proofs.Ytpockhoacfkjaaa
