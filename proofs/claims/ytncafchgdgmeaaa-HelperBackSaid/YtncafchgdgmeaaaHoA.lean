/-
  Package host: the registers as plain data, how they lie in cells; New, X, SetX by their contracts. No condition.
-/
import Derived.Test.YtncafchgdgmeaaaStA
namespace Go.Proofs.Ytncafchgdgmeaaa
open Go Go.RowKit
set_option linter.unusedVariables false
set_option linter.unusedSimpArgs false

structure Hs where
  x : Nat → Int
  mem : Value
  pc : Int
  why : Int

def Hs.at_ (H : Hs) (k : Nat) : Value := if k < 32 then .int .u32 (H.x k) else if k = 32 then H.mem else if k = 33 then .int .u32 H.pc else .int .u32 H.why
def Hs.cells (H : Hs) : Array Value := (Array.range 35).map H.at_
def Hs.set (H : Hs) (i : Nat) (v : Int) : Hs := { H with x := fun j => if j = i then v else H.x j }
/-- A register told; one set. -/
def Hs.get (H : Hs) (i : Int) : Int := if i < 1 ∨ 32 ≤ i then 0 else H.x i.toNat
def Hs.put (H : Hs) (i v : Int) : Hs := if i < 1 ∨ 32 ≤ i then H else H.set i.toNat v

theorem Hs.cell (H : Hs) (k : Nat) (h : k < 35) : H.cells[k]? = some (H.at_ k) := by simp [Hs.cells, h]
theorem Hs.cX (H : Hs) (k : Nat) (h : k < 32) : H.cells[k]? = some (.int .u32 (H.x k)) := by rw [H.cell k (by omega), Hs.at_, if_pos h]
theorem Hs.size (H : Hs) : H.cells.size = 35 := by simp [Hs.cells]

theorem Hs.cells_set (H : Hs) (i : Nat) (v : Int) (h : i < 32) : H.cells.setIfInBounds i (.int .u32 v) = (H.set i v).cells := by
  apply Array.ext_getElem?
  intro k
  rw [Array.getElem?_setIfInBounds, H.size]
  by_cases hk : k < 35
  · rw [(H.set i v).cell k hk, H.cell k hk]
    by_cases e : i = k
    · subst e
      rw [if_pos rfl, if_pos hk, Hs.at_, if_pos h]
      simp [Hs.set]
    · rw [if_neg e]
      unfold Hs.at_
      simp [Hs.set, show ¬ k = i from fun h => e h.symm]
  · rw [if_neg (by omega), Array.getElem?_eq_none (by rw [H.size]; omega), Array.getElem?_eq_none (by rw [Hs.size]; omega)]

structure IsHost (w : World) (b : Nat) (H : Hs) : Prop where
  h : w.heap[b]? = some (.cells H.cells 135 (0, 0))
  ok : ∀ i, 0 ≤ H.x i ∧ H.x i < 4294967296

theorem IsHost.keep {w w' : World} {b : Nat} {H : Hs} {S : List Nat} (h : IsHost w b H) (u : Upd S w w') (hb : b ∉ S) : IsHost w' b H := ⟨u.get h.h hb, h.ok⟩
theorem IsHost.lt {w : World} {b : Nat} {H : Hs} (h : IsHost w b H) : b < w.heap.size := lt_of_heap h.h
theorem Hs.get_range {w : World} {b : Nat} {H : Hs} (h : IsHost w b H) (i : Int) : 0 ≤ H.get i ∧ H.get i < 4294967296 := by
  unfold Hs.get
  split
  · decide
  · exact h.ok _
theorem IsHost.set {w : World} {b : Nat} {H : Hs} (h : IsHost w b H) (i : Nat) (v : Int) (hi : i < 32) (hv : 0 ≤ v ∧ v < 4294967296) : IsHost (w.setCell ⟨b, i, none⟩ (.int .u32 v)) b (H.set i v) := by
  have := heap_set_same h.h i (.int .u32 v)
  rw [H.cells_set i v hi] at this
  refine ⟨this, fun j => ?_⟩
  simp only [Hs.set]
  split
  · exact hv
  · exact h.ok j

set_option maxRecDepth 100000 in
set_option maxHeartbeats 400000 in
theorem X_any (H : Hs) (b : Nat) (i : Int) (w : World) (h : IsHost w b H) :
    Calls Try.prog 44 #[.pointer (some ⟨b, 0, none⟩), .int .i64 i] w fun e w' => e = .returned (.int .u32 (H.get i)) ∧ w = w' := by
  by_cases h1 : i < 1
  · have e : H.get i = 0 := by rw [Hs.get, if_pos (.inl h1)]
    rw [e]
    clear e
    go_enter Try.func44, Try.ntmps44
    go_wp2
    go_ret
    exact ⟨rfl, rfl⟩
  · by_cases h2 : 32 ≤ i
    · have e : H.get i = 0 := by rw [Hs.get, if_pos (.inr h2)]
      rw [e]
      clear e
      go_enter Try.func44, Try.ntmps44
      go_wp2
      go_ret
      exact ⟨rfl, rfl⟩
    · have e : H.get i = H.x i.toNat := by rw [Hs.get, if_neg (by omega)]
      rw [e]
      have hc : w.cell? ⟨b, i.toNat, none⟩ = some (.int .u32 (H.x i.toNat)) := by rw [cells_of h.h, H.cX _ (by omega)]
      clear e h
      go_enter Try.func44, Try.ntmps44
      go_wp2
      go_ret
      exact ⟨rfl, rfl⟩

set_option maxRecDepth 100000 in
set_option maxHeartbeats 400000 in
theorem SetX_any (H : Hs) (b : Nat) (i v : Int) (w : World) (h : IsHost w b H) (hv : 0 ≤ v ∧ v < 4294967296) :
    Calls Try.prog 47 #[.pointer (some ⟨b, 0, none⟩), .int .i64 i, .int .u32 v] w fun e w' => e = .returned (.tuple #[]) ∧ IsHost w' b (H.put i v) ∧ Upd [b] w w' := by
  by_cases h1 : i < 1
  · have e : H.put i v = H := by rw [Hs.put, if_pos (.inl h1)]
    rw [e]
    clear e
    have HH := Lib.hid h
    clear h hv
    go_enter Try.func47, Try.ntmps47
    go_wp2
    go_end0
    exact ⟨rfl, HH.out, Upd.refl _ _⟩
  · by_cases h2 : 32 ≤ i
    · have e : H.put i v = H := by rw [Hs.put, if_pos (.inr h2)]
      rw [e]
      clear e
      have HH := Lib.hid h
      clear h hv
      go_enter Try.func47, Try.ntmps47
      go_wp2
      go_end0
      exact ⟨rfl, HH.out, Upd.refl _ _⟩
    · have e : H.put i v = H.set i.toNat v := by rw [Hs.put, if_neg (by omega)]
      rw [e]
      have hc : w.cell? ⟨b, i.toNat, none⟩ = some (.int .u32 (H.x i.toNat)) := by rw [cells_of h.h, H.cX _ (by omega)]
      have hf : w.frozen? ⟨b, i.toNat, none⟩ = false := free_of h.h _
      have HH := Lib.hid (h.set i.toNat v (by omega) hv)
      clear e h hv
      go_enter Try.func47, Try.ntmps47
      go_wp2
      go_end0
      exact ⟨rfl, HH.out, (Upd.refl _ _).setCell (by simp) _⟩

/-- A new host: noughts. -/
def Hs.zero (m : Nat) : Hs := ⟨fun _ => 0, .slice (some ⟨m, 0, none⟩) 32768 32768, 1024, 0⟩

theorem run_make_host (w : World) : ∃ C, (Instr.makeSlice 43 (.int .i64 32768) (.int .i64 32768)).run Try.prog w = .ok (.slice (some ⟨w.heap.size, 0, none⟩) 32768 32768) (w.alloc (.cells C 5 (0, 0))) := by
  have h := run_make (P := Try.prog) w 43 5 Try.t5 (.int .u8 0) Try.underlying43 (by kernel_rfl) (by kernel_rfl) .i64 .i64 32768 32768 (by decide) (by decide) (by decide) (by decide)
  exact ⟨_, h⟩

set_option maxRecDepth 100000 in
set_option maxHeartbeats 1000000 in
theorem HNew_any (w : World) :
    Calls Try.prog 42 #[] w fun e w' => ∃ b m, e = .returned (.pointer (some ⟨b, 0, none⟩)) ∧ w.heap.size ≤ b ∧ IsHost w' b (Hs.zero m) ∧ Upd [] w w' := by
  obtain ⟨C, hmk⟩ := run_make_host w
  go_enter Try.func42, Try.ntmps42
  go_wp2
  go_ret
  refine ⟨w.heap.size + 1, w.heap.size, rfl, by omega, ⟨?_, fun _ => by simp [Hs.zero]⟩, ((Upd.refl _ _).alloc _).alloc _⟩
  have h := heap_alloc2_new w (.cells C 5) (.cells (Hs.zero w.heap.size).cells 135)
  have e : (Hs.zero w.heap.size).cells = #[.int .u32 0, .int .u32 0, .int .u32 0, .int .u32 0, .int .u32 0, .int .u32 0, .int .u32 0, .int .u32 0, .int .u32 0, .int .u32 0, .int .u32 0, .int .u32 0, .int .u32 0, .int .u32 0, .int .u32 0, .int .u32 0, .int .u32 0, .int .u32 0, .int .u32 0, .int .u32 0, .int .u32 0, .int .u32 0, .int .u32 0, .int .u32 0, .int .u32 0, .int .u32 0, .int .u32 0, .int .u32 0, .int .u32 0, .int .u32 0, .int .u32 0, .int .u32 0, .slice (some ⟨w.heap.size, 0, none⟩) 32768 32768, .int .u32 1024, .int .u32 0] := by
    apply Array.toList_inj.1
    rw [Hs.cells, Array.toList_map, Array.toList_range]
    rfl
  rw [e] at h ⊢
  exact h
end Go.Proofs.Ytncafchgdgmeaaa
