/-
  Package bits: Sign8, Word: each by its contract.
-/
import Derived.Test.YtpockhoacfkjaaaBits
import Derived.Laws.IdiomCopy
namespace Go.Proofs.Ytpockhoacfkjaaa
open Go Go.RowKit
set_option linter.unusedVariables false
set_option linter.unusedSimpArgs false

set_option maxRecDepth 100000 in
set_option maxHeartbeats 400000 in
theorem signed8_any (x : Int) (w : World) (h0 : 0 ≤ x) (h1 : x < 4294967296) :
    Calls Try.prog 99 #[.int .u32 x, .int .i64 8] w fun e w' => e = .returned (.int .i32 (if x % 256 < 128 then x % 256 else x % 256 - 256)) ∧ w = w' := by
  obtain ⟨r, hr⟩ : ∃ r : Int, (if x % 256 < 128 then x % 256 else x % 256 - 256) = r := ⟨_, rfl⟩
  have e1 : wrap32 (x * 16777216 % 4294967296) / 16777216 = r := by
    rw [← hr]
    unfold wrap32
    split <;> omega
  rw [hr]
  clear hr h0 h1
  go_enter Try.func99, Try.ntmps99
  go_wp2
  go_ret
  exact ⟨rfl, rfl⟩

/-- The lowest byte of a word with its sign. -/
def sign8 (x : Int) : Int := if x % 256 < 128 then x % 256 else x % 256 + 4294967040

set_option maxRecDepth 100000 in
set_option maxHeartbeats 400000 in
theorem Sign8_any (x : Int) (w : World) (h0 : 0 ≤ x) (h1 : x < 4294967296) :
    Calls Try.prog 76 #[.int .u32 x] w fun e w' => e = .returned (.int .u32 (sign8 x)) ∧ w = w' := by
  obtain ⟨r, hr⟩ : ∃ r : Int, (if x % 256 < 128 then x % 256 else x % 256 - 256) = r := ⟨_, rfl⟩
  have e1 : r % 4294967296 = sign8 x := by
    rw [← hr]
    unfold sign8
    split <;> omega
  have HX := Lib.hid (And.intro h0 h1)
  have HR := Lib.hid hr
  clear h0 h1 hr
  go_enter Try.func76, Try.ntmps76
  go_wp2_with (go_at_call 99; refine (signed8_any x _ HX.out.1 HX.out.2).mono ?_; rintro e w' ⟨rfl, rfl⟩; rw [HR.out])
  go_ret
  exact ⟨ret_of (congrArg (Value.int .u32) (by first | rfl | exact e1)), rfl⟩

theorem cell_alloc_keep {w : World} {p : Addr} {v : Value} (o : Obj) (h : w.cell? p = some v) (hp : p.block < w.heap.size) : (w.alloc o).cell? p = some v := by
  rw [World.cell?, heap_alloc_old _ _ hp]
  exact h

theorem word_join (a b c d : Int) (ha : 0 ≤ a ∧ a ≤ 255) (hb : 0 ≤ b ∧ b ≤ 255) (hc : 0 ≤ c ∧ c ≤ 255) (hd : 0 ≤ d ∧ d ≤ 255) :
    bits .or .u32 (bits .or .u32 (bits .or .u32 a (b * 256)) (c * 65536)) (d * 16777216) = a + b * 256 + c * 65536 + d * 16777216 := by
  obtain ⟨a, rfl⟩ := Int.eq_ofNat_of_zero_le ha.1
  obtain ⟨b, rfl⟩ := Int.eq_ofNat_of_zero_le hb.1
  obtain ⟨c, rfl⟩ := Int.eq_ofNat_of_zero_le hc.1
  obtain ⟨d, rfl⟩ := Int.eq_ofNat_of_zero_le hd.1
  have q1 := u32_or_nat a (b * 256) (by omega) (by omega)
  have q2 := u32_or_nat (b * 256 + a) (c * 65536) (by omega) (by omega)
  have q3 := u32_or_nat (c * 65536 + (b * 256 + a)) (d * 16777216) (by omega) (by omega)
  rw [Nat.or_comm, nat_join 8 _ _ (by omega) (by omega)] at q1
  rw [Nat.or_comm, nat_join 16 _ _ (by omega) (by omega)] at q2
  rw [Nat.or_comm, nat_join 24 _ _ (by omega) (by omega)] at q3
  have e1 : (b : Int) * 256 = ((b * 256 : Nat) : Int) := by omega
  have e2 : (c : Int) * 65536 = ((c * 65536 : Nat) : Int) := by omega
  have e3 : (d : Int) * 16777216 = ((d * 16777216 : Nat) : Int) := by omega
  rw [e1, q1, e2, q2, e3, q3]
  omega

set_option maxRecDepth 100000 in
set_option maxHeartbeats 400000 in
theorem Word_any (g o c : Nat) (f : Nat → Int) (w : World) (hf : ∀ i, i < 4 → w.cell? ⟨g, o + i, none⟩ = some (.int .u8 (f i))) (hr : ∀ i, 0 ≤ f i ∧ f i ≤ 255) (hg : g < w.heap.size) :
    Calls Try.prog 77 #[.slice (some ⟨g, o, none⟩) 4 c] w fun e w' => e = .returned (.int .u32 (f 0 + f 1 * 256 + f 2 * 65536 + f 3 * 16777216)) ∧ Upd [] w w' := by
  have hn := heap_alloc_new w (.cells #[Value.int .u8 0, .int .u8 0, .int .u8 0, .int .u8 0] 136)
  have hcp := run_copy_cells (P := Try.prog) (w.alloc (.cells #[Value.int .u8 0, .int .u8 0, .int .u8 0, .int .u8 0] 136)) 22 22 3 5 w.heap.size 0 4 4 ⟨g, o, none⟩ 4 c [.int .u8 (f 0), .int .u8 (f 1), .int .u8 (f 2), .int .u8 (f 3)]
    Try.underlying22 (by kernel_rfl) (by rfl) (by
      intro j v hv
      rw [Addr.add_mid]
      refine cell_alloc_keep _ ?_ hg
      rcases j with _ | _ | _ | _ | j
      · rw [List.getElem?_cons_zero, Option.some.injEq] at hv; subst hv; exact hf 0 (by decide)
      · rw [List.getElem?_cons_succ, List.getElem?_cons_zero, Option.some.injEq] at hv; subst hv; exact hf 1 (by decide)
      · rw [List.getElem?_cons_succ, List.getElem?_cons_succ, List.getElem?_cons_zero, Option.some.injEq] at hv; subst hv; exact hf 2 (by decide)
      · rw [List.getElem?_cons_succ, List.getElem?_cons_succ, List.getElem?_cons_succ, List.getElem?_cons_zero, Option.some.injEq] at hv; subst hv; exact hf 3 (by decide)
      · simp at hv) (by intro j hj; rw [cells_of hn]; simp at hj ⊢; omega) (by intro j hj; rw [free_of hn]) (by simp [Value.oneCell'])
  obtain ⟨w2, hw2⟩ : ∃ w2, (w.alloc (.cells #[Value.int .u8 0, .int .u8 0, .int .u8 0, .int .u8 0] 136)).setCells w.heap.size 0 [.int .u8 (f 0), .int .u8 (f 1), .int .u8 (f 2), .int .u8 (f 3)] = w2 := ⟨_, rfl⟩
  rw [hw2] at hcp
  have h2 : w2.heap[w.heap.size]? = some (.cells #[.int .u8 (f 0), .int .u8 (f 1), .int .u8 (f 2), .int .u8 (f 3)] 136 (0, 0)) := by
    rw [← hw2, heap_setCells_same _ _ _ _ hn]
    rfl
  have HU := Lib.hid (show Upd [] w w2 by rw [← hw2]; exact ((Upd.refl [] w).alloc _).setCells (.inr (Nat.le_refl _)) _ _)
  have hc2 := cells_of h2
  have hj := word_join (f 0) (f 1) (f 2) (f 3) (hr 0) (hr 1) (hr 2) (hr 3)
  have r0 := hr 0
  have r1 := hr 1
  have r2 := hr 2
  have r3 := hr 3
  have s0 : f 0 % 4294967296 = f 0 := by omega
  have s1 : f 1 * 256 % 4294967296 = f 1 * 256 := by omega
  have s2 : f 2 * 65536 % 4294967296 = f 2 * 65536 := by omega
  have s3 : f 3 * 16777216 % 4294967296 = f 3 * 16777216 := by omega
  clear hf hr hn hg r0 r1 r2 r3 hw2 h2
  go_enter Try.func77, Try.ntmps77
  go_wp2_with fail
  go_ret
  exact ⟨ret_of (congrArg (Value.int .u32) (by first | rfl | exact hj)), HU.out⟩

end Go.Proofs.Ytpockhoacfkjaaa
