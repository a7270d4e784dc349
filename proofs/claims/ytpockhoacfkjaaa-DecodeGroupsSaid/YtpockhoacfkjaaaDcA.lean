/-
  Package decode: the decoder's small functions: next, byte, imm8, small, imm32, modrm, reg, each by its contract.
-/
import Derived.Test.YtpockhoacfkjaaaBit2
import Derived.Test.YtpockhoacfkjaaaDcS
import Derived.Test.YtpockhoacfkjaaaRes
import Derived.Test.YtpockhoacfkjaaaDraw
import Derived.StillTailTactics
namespace Go.Proofs.Ytpockhoacfkjaaa
open Go Go.RowKit
set_option linter.unusedVariables false
set_option linter.unusedSimpArgs false

/-- A decoder at block d: its bytes, the place. -/
structure IsDec (w : World) (d : Nat) (v : Value) (L : List Int) (g k : Nat) : Prop where
  h : w.heap[d]? = some (.cells #[v, .int .i64 k] 64 (0, 0))
  b : BySl w v L g
  k : k ≤ L.length
  n : L.length ≤ maxLen
  gd : g ≠ d
  r : BOk L
  c : ∀ b n c, v = .slice b n c → n ≤ c

theorem IsDec.step {w w' : World} {d : Nat} {v : Value} {L : List Int} {g k : Nat} (h : IsDec w d v L g k) (u : Upd [] w w') : IsDec w' d v L g k :=
  ⟨u.get h.h (by simp), h.b.keep u (by simp), h.k, h.n, h.gd, h.r, h.c⟩

def DAns {α : Type} (d : Nat) (v : Value) (L : List Int) (g : Nat) (w : World) (r : DR α) (val : α → Value) (e : Ending) (w' : World) : Prop :=
  match r with
  | .ok x k => e = .returned (val x) ∧ IsDec w' d v L g k ∧ Upd [d] w w'
  | .err c => e = .panicked [{ v := .iface 29 (.int .i64 c), recovered := false }] ∧ Upd [d] w w'

structure DecB (w : World) (d : Nat) (v : Value) (L : List Int) (g k : Nat) (w1 : World) : Prop where
  d : IsDec w1 d v L g k
  u : Upd [] w w1

theorem DecB.cells {w w1 : World} {d : Nat} {v : Value} {L : List Int} {g k : Nat} (h : DecB w d v L g k w1) : w1.cell? ⟨d, 0, none⟩ = some v ∧ w1.cell? ⟨d, 1, none⟩ = some (.int .i64 k) := by
  rw [cells_of h.d.h, cells_of h.d.h]; exact ⟨rfl, rfl⟩

set_option maxRecDepth 100000 in
set_option maxHeartbeats 1000000 in
theorem next_no (d g k n : Nat) (v : Value) (L : List Int) (w : World) (hD : IsDec w d v L g k) (hn : n ≤ 4) (h : L.length < k + n) :
    Calls Try.prog 70 #[.pointer (some ⟨d, 0, none⟩), .int .i64 n] w fun e w' => e = .panicked [{ v := .iface 29 (.int .i64 10), recovered := false }] ∧ Upd [d] w w' := by
  have hmo : Try.prog.follows .mixedOrders = true := by kernel_rfl
  obtain ⟨sb, sc, rfl⟩ := hD.b.form
  have hk := hD.k
  have hl := hD.n
  unfold maxLen at hl
  have e1 : wrap64 ((L.length : Int) - k) = L.length - k := by unfold wrap64; omega
  have e2 : decide ((L.length : Int) - k < n) = true := by simp; omega
  have HD := Lib.hid hD
  clear hD hk hl h
  go_enter Try.func70, Try.ntmps70
  go_wp2_with fail
  refine wp_draw 12 (DecB w d (.slice sb L.length sc) L g k) (fun _ _ => False) (by kernel_rfl) (by kernel_rfl) ⟨HD.out.step (Upd.refl [] w).drew, (Upd.refl [] w).drew⟩ (fun _ _ _ h => h.elim) ?_
  simp only [List.take_succ_cons, List.take_zero, List.drop_succ_cons, List.drop_zero]
  repeat
    apply headW_val rfl rfl
    · intro K hK w1 hB1
      obtain ⟨c0, c1⟩ := hB1.cells
      have HB := Lib.hid hB1
      clear hB1
      go_wp2_with fail
      first
      | exact hK _ HB.out
      | exact HB.out
    · exact ⟨_, rfl⟩
  refine headW_nil (fun _ w1 hB1 => ?_)
  have HB := Lib.hid hB1
  clear hB1
  go_wp2_with fail
  exact ⟨rfl, rfl, HB.out.u.mono (by simp)⟩

/-- What 'next' gives: a slice of the bytes at k. -/
def Cut (w : World) (u : Value) (L : List Int) (g k n : Nat) : Prop :=
  ∃ o c, u = .slice (some ⟨g, o, none⟩) n c ∧ n ≤ c ∧ (∀ i, i < n → w.cell? ⟨g, o + i, none⟩ = some (.int .u8 (L.getD (k + i) 0)))

theorem IsDec.set {w : World} {d : Nat} {v : Value} {L : List Int} {g k : Nat} (h : IsDec w d v L g k) (j : Nat) (hj : j ≤ L.length) : IsDec (w.setCell ⟨d, 1, none⟩ (.int .i64 j)) d v L g j := by
  have h1 := heap_set_same h.h 1 (.int .i64 j)
  exact ⟨h1, h.b.keep ((Upd.refl [d] w).setCell (by simp) _) (by simpa using h.gd), hj, h.n, h.gd, h.r, h.c⟩

set_option maxRecDepth 100000 in
set_option maxHeartbeats 1000000 in
theorem next_yes (d g k n : Nat) (v : Value) (L : List Int) (w : World) (hD : IsDec w d v L g k) (hn : 1 ≤ n ∧ n ≤ 4) (h : k + n ≤ L.length) :
    Calls Try.prog 70 #[.pointer (some ⟨d, 0, none⟩), .int .i64 n] w fun e w' => ∃ u, e = .returned u ∧ Cut w' u L g k n ∧ IsDec w' d v L g (k + n) ∧ Upd [d] w w' := by
  have hmo : Try.prog.follows .mixedOrders = true := by kernel_rfl
  obtain ⟨o, sc, rfl, hsc⟩ : ∃ o c, v = .slice (some ⟨g, o, none⟩) L.length c ∧ L.length ≤ c := by
    rcases hD.b with ⟨_, h1⟩ | ⟨o, c, _, _, _, h1, _⟩
    · rw [h1] at h; simp at h; omega
    · exact ⟨o, c, h1, hD.c _ _ _ h1⟩
  have hk := hD.k
  have hl := hD.n
  unfold maxLen at hl
  have e1 : wrap64 ((L.length : Int) - k) = L.length - k := by unfold wrap64; omega
  have e2 : decide ((L.length : Int) - k < n) = false := by simp; omega
  obtain ⟨z, hz⟩ : ∃ z : Int, ((k + n : Nat) : Int) = z := ⟨_, rfl⟩
  have e3 : wrap64 ((k : Int) + n) = z := by unfold wrap64; omega
  have e6 : wrap64 (z - n) = k := by unfold wrap64; omega
  have e7 : z.toNat = k + n := by omega
  have q1 : 0 ≤ z := by omega
  have q2 : z ≤ (sc : Int) := by omega
  have q3 : ¬ sc = k := by omega
  have q4 : k ≤ k + n := by omega
  have q5 : k + n - k = n := by omega
  have HZ := Lib.hid hz
  clear hz
  have HD := Lib.hid hD
  have HN := Lib.hid (And.intro hn (And.intro h hsc))
  clear hD hk hl h hn hsc
  go_enter Try.func70, Try.ntmps70
  go_wp2_with fail
  refine wp_draw 12 (DecB w d (.slice (some ⟨g, o, none⟩) L.length sc) L g k) (fun _ _ => False) (by kernel_rfl) (by kernel_rfl) ⟨HD.out.step (Upd.refl [] w).drew, (Upd.refl [] w).drew⟩ (fun _ _ _ h => h.elim) ?_
  simp only [List.take_succ_cons, List.take_zero, List.drop_succ_cons, List.drop_zero]
  repeat
    apply headW_val rfl rfl
    · intro K hK w1 hB1
      obtain ⟨c0, c1⟩ := hB1.cells
      have HB := Lib.hid hB1
      clear hB1
      go_wp2_with fail
      first
      | exact hK _ HB.out
      | exact HB.out
    · exact ⟨_, rfl⟩
  refine headW_nil (fun _ w1 hB1 => ?_)
  obtain ⟨c0, c1⟩ := hB1.cells
  have f1 := free_of hB1.d.h
  have HB := Lib.hid hB1
  clear hB1
  go_wp2_with fail
  have hS := HB.out.d.set (k + n) HN.out.2.1
  rw [HZ.out] at hS
  have hU : Upd [d] w (w1.setCell ⟨d, 1, none⟩ (.int .i64 z)) := (HB.out.u.mono (by simp)).setCell (by simp) _
  generalize w1.setCell ⟨d, 1, none⟩ (.int .i64 z) = w2 at hS hU
  have HU := Lib.hid hU
  have HS := Lib.hid hS
  clear hU hS c0 c1 f1
  refine wp_draw 15 (DecB w2 d (.slice (some ⟨g, o, none⟩) L.length sc) L g (k + n)) (fun _ _ => False) (by kernel_rfl) (by kernel_rfl) ⟨HS.out.step (Upd.refl [] w2).drew, (Upd.refl [] w2).drew⟩ (fun _ _ _ h => h.elim) ?_
  simp only [List.take_succ_cons, List.take_zero, List.drop_succ_cons, List.drop_zero]
  iterate 14
    apply headW_val rfl rfl
    · intro K hK w3 hB1
      obtain ⟨c0, c1⟩ := hB1.cells
      rw [HZ.out] at c1
      have HB := Lib.hid hB1
      clear hB1
      go_wp2_with fail
      first
      | exact hK _ HB.out
      | exact HB.out
    · exact ⟨_, rfl⟩
  apply headW_val rfl rfl
  · intro K hK w3 hB1
    have HB := Lib.hid hB1
    clear hB1
    go_wp2_with fail
    first
    | exact hK _ HB.out
    | exact HB.out
  · exact ⟨_, rfl⟩
  refine headW_nil (fun _ w3 hB1 => ?_)
  have HB := Lib.hid hB1
  clear hB1
  go_wp2_with fail
  go_ret
  have hb := HB.out.d.b
  refine ⟨_, rfl, ⟨o + k, sc - k, rfl, by have := HN.out; omega, fun i hi => ?_⟩, HB.out.d, HU.out.also (HB.out.u) (by simp)⟩
  rcases hb with ⟨h1, _⟩ | ⟨o', c', C, T, f, h1, h2, h3⟩
  · cases h1
  · injection h1 with h1 h4 h5
    injection h1 with h1
    injection h1 with h1 h6
    subst h6
    rw [cells_of h2, Nat.add_assoc]
    exact h3 (k + i) (by have := HN.out; omega)

theorem IsDec.frame {w w' : World} {d : Nat} {v : Value} {L : List Int} {g k : Nat} (h : IsDec w d v L g k) (hd : w'.heap[d]? = w.heap[d]?) (u : Upd [d] w w') : IsDec w' d v L g k :=
  ⟨by rw [hd]; exact h.h, h.b.keep u (by simpa using h.gd), h.k, h.n, h.gd, h.r, h.c⟩

set_option maxRecDepth 100000 in
set_option maxHeartbeats 1000000 in
theorem byte_any (d g k : Nat) (v : Value) (L : List Int) (w : World) (hD : IsDec w d v L g k) :
    Calls Try.prog 38 #[.pointer (some ⟨d, 0, none⟩)] w (DAns d v L g w (dcByte L k) (.int .u8 ·)) := by
  unfold dcByte
  have HD := Lib.hid hD
  by_cases h : k < L.length
  · rw [if_pos h]
    clear hD
    have HL := Lib.hid h
    clear h
    go_enter Try.func38, Try.ntmps38
    go_wp2_with (go_at_call 70; refine (next_yes d g k 1 v L _ HD.out (by decide) HL.out).mono ?_; rintro e w2 ⟨u, rfl, ⟨o, c, rfl, hc, hcell⟩, hD2, hu⟩; have h0 := hcell 0 (by decide); simp only [Nat.add_zero] at h0; have H2 := Lib.hid (And.intro hD2 hu); clear hcell hD2 hu)
    go_ret
    exact ⟨rfl, H2.out.1, H2.out.2⟩
  · rw [if_neg h]
    clear hD
    have HL := Lib.hid (show L.length < k + 1 by omega)
    clear h
    go_enter Try.func38, Try.ntmps38
    go_wp2_with (go_at_call 70; refine (next_no d g k 1 v L _ HD.out (by decide) HL.out).mono ?_; rintro e w2 ⟨rfl, hu⟩)
    exact ⟨rfl, rfl, hu⟩

end Go.Proofs.Ytpockhoacfkjaaa
