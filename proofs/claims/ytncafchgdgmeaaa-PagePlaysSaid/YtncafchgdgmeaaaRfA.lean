/-
  The reference's memory (ferrymanref6): how it lies in cells; there, mapped, set, Map, Unmap, Protect: each by its contract.
-/
import Derived.Test.YtncafchgdgmeaaaPgG
import Derived.Test.YtncafchgdgmeaaaDraw
import Derived.Test.YtncafchgdgmeaaaPgU
import Derived.Deep.QuietTactic
import Derived.BigQuiet
namespace Go.Proofs.Ytncafchgdgmeaaa
open Go Go.RowKit
set_option linter.unusedVariables false
set_option linter.unusedSimpArgs false

theorem Upd.drewN {S : List Nat} {a b : World} (h : Upd S a b) (n : Nat) : Upd S a (b.drewN n) := ⟨h.os, h.tape, h.output, h.size, h.block⟩

/-- The cell at place k of the reference's memory: 64 rights, 16384 bytes. -/
def Mem.rat (M : Mem) (k : Nat) : Value := if k < 64 then .int .i64 (M.R k) else .int .u8 (M.B (k - 64))

structure HoldsR (C : Array Value) (M : Mem) : Prop where
  size : C.size = 16448
  get : ∀ k, k < 16448 → C[k]? = some (M.rat k)

structure IsRef (w : World) (r : Nat) (M : Mem) : Prop where
  ex : ∃ C, HoldsR C M ∧ w.heap[r]? = some (.cells C 52 (0, 0))
  ok : M.Ok

theorem IsRef.lt {w : World} {r : Nat} {M : Mem} (h : IsRef w r M) : r < w.heap.size := by
  obtain ⟨C, _, h1⟩ := h.ex; exact lt_of_heap h1

theorem IsRef.keep {w w' : World} {r : Nat} {M : Mem} {S : List Nat} (h : IsRef w r M) (u : Upd S w w') (hr : r ∉ S) : IsRef w' r M := by
  obtain ⟨C, h1, h2⟩ := h.ex
  exact ⟨⟨C, h1, u.get h2 hr⟩, h.ok⟩

theorem IsRef.cR {w : World} {r : Nat} {M : Mem} (h : IsRef w r M) (p : Nat) (hp : p < 64) : w.cell? ⟨r, p, none⟩ = some (.int .i64 (M.R p)) := by
  obtain ⟨C, h1, h2⟩ := h.ex
  rw [cells_of h2, h1.get p (by omega), Mem.rat, if_pos hp]

theorem IsRef.cB {w : World} {r : Nat} {M : Mem} (h : IsRef w r M) (a : Nat) (ha : a < 16384) : w.cell? ⟨r, 64 + a, none⟩ = some (.int .u8 (M.B a)) := by
  obtain ⟨C, h1, h2⟩ := h.ex
  rw [cells_of h2, h1.get _ (by omega), Mem.rat, if_neg (by omega), Nat.add_sub_cancel_left]

theorem IsRef.free {w : World} {r : Nat} {M : Mem} (h : IsRef w r M) (o : Nat) : w.frozen? ⟨r, o, none⟩ = false := by
  obtain ⟨C, h1, h2⟩ := h.ex
  exact free_of h2 o

theorem IsRef.setR {w : World} {r : Nat} {M : Mem} (h : IsRef w r M) (p : Nat) (v : Int) (hp : p < 64) (h0 : 0 ≤ v) (h7 : v ≤ 7) : IsRef (w.setCell ⟨r, p, none⟩ (.int .i64 v)) r (M.setR p v) := by
  obtain ⟨C, h1, h2⟩ := h.ex
  refine ⟨⟨_, ⟨by rw [Array.size_setIfInBounds]; exact h1.size, fun k hk => ?_⟩, heap_set_same h2 p _⟩, Mem.setR_ok h.ok p h0 h7⟩
  rw [Array.getElem?_setIfInBounds, h1.get k hk, h1.size]
  by_cases e : p = k
  · subst e
    rw [if_pos rfl, if_pos (by omega), Mem.rat, if_pos hp]
    simp [Mem.setR]
  · rw [if_neg e]
    simp only [Mem.rat, Mem.setR]
    by_cases hk2 : k < 64
    · rw [if_pos hk2, if_pos hk2, if_neg (fun h => e h.symm)]
    · rw [if_neg hk2, if_neg hk2]

theorem IsRef.setB {w : World} {r : Nat} {M : Mem} (h : IsRef w r M) (a : Nat) (v : Int) (ha : a < 16384) (h0 : 0 ≤ v) (h7 : v ≤ 255) : IsRef (w.setCell ⟨r, 64 + a, none⟩ (.int .u8 v)) r (M.setB a v) := by
  obtain ⟨C, h1, h2⟩ := h.ex
  refine ⟨⟨_, ⟨by rw [Array.size_setIfInBounds]; exact h1.size, fun k hk => ?_⟩, heap_set_same h2 _ _⟩, Mem.setB_ok h.ok a h0 h7⟩
  rw [Array.getElem?_setIfInBounds, h1.get k hk, h1.size]
  by_cases e : 64 + a = k
  · subst e
    rw [if_pos rfl, if_pos (by omega), Mem.rat, if_neg (by omega), Nat.add_sub_cancel_left]
    simp [Mem.setB]
  · rw [if_neg e]
    simp only [Mem.rat, Mem.setB]
    by_cases hk2 : k < 64
    · rw [if_pos hk2, if_pos hk2]
    · rw [if_neg hk2, if_neg hk2, if_neg (by omega)]

set_option maxRecDepth 100000 in
set_option maxHeartbeats 1000000 in
theorem there_any (p n : Int) (w : World) (hn : -9223372036854775808 ≤ n) (hn2 : n ≤ 9223372036854775807) :
    Calls Try.prog 94 #[.int .i64 p, .int .i64 n] w fun e w' => e = .returned (.bool (rowB p n)) ∧ w = w' := by
  by_cases h1 : 0 ≤ p
  · by_cases h2 : p < 64
    · by_cases h3 : 0 < n
      · by_cases h4 : n ≤ 64 - p
        · have HV := Lib.hid (show rowB p n = true from (rowB_iff p n).2 (by omega))
          go_enter Try.func94, Try.ntmps94
          go_wp2
          go_ret
          exact ⟨by rw [HV.out]; rfl, rfl⟩
        · have HV := Lib.hid (show rowB p n = false by rw [← Bool.not_eq_true, rowB_iff]; omega)
          have h4' : 64 - p < n := by omega
          go_enter Try.func94, Try.ntmps94
          go_wp2
          go_ret
          exact ⟨by rw [HV.out]; rfl, rfl⟩
      · have HV := Lib.hid (show rowB p n = false by rw [← Bool.not_eq_true, rowB_iff]; omega)
        have h3' : n ≤ 0 := by omega
        go_enter Try.func94, Try.ntmps94
        go_wp2
        go_ret
        exact ⟨by rw [HV.out]; rfl, rfl⟩
    · have HV := Lib.hid (show rowB p n = false by rw [← Bool.not_eq_true, rowB_iff]; omega)
      have h2' : 64 ≤ p := by omega
      go_enter Try.func94, Try.ntmps94
      go_wp2
      go_ret
      exact ⟨by rw [HV.out]; rfl, rfl⟩
  · have HV := Lib.hid (show rowB p n = false by rw [← Bool.not_eq_true, rowB_iff]; omega)
    have h1' : p < 0 := by omega
    go_enter Try.func94, Try.ntmps94
    go_wp2
    go_ret
    exact ⟨by rw [HV.out]; rfl, rfl⟩

def Mem.allR (M : Mem) (p q : Nat) : Bool := (List.range (q - p)).all fun i => M.R (p + i) != 0
def Mem.anyR (M : Mem) (p q : Nat) : Bool := (List.range (q - p)).any fun i => M.R (p + i) != 0

theorem allR_succ (M : Mem) (p q : Nat) (h : p ≤ q) : M.allR p (q + 1) = (M.allR p q && (M.R q != 0)) := by
  have e : q + 1 - p = (q - p) + 1 := by omega
  have e2 : p + (q - p) = q := by omega
  simp [Mem.allR, e, List.range_succ, e2]
theorem anyR_succ (M : Mem) (p q : Nat) (h : p ≤ q) : M.anyR p (q + 1) = (M.anyR p q || (M.R q != 0)) := by
  have e : q + 1 - p = (q - p) + 1 := by omega
  have e2 : p + (q - p) = q := by omega
  simp [Mem.anyR, e, List.range_succ, e2]

set_option maxRecDepth 100000 in
set_option maxHeartbeats 1000000 in
theorem mapped_ref (M : Mem) (r p k : Nat) (w : World) (hM : IsRef w r M) (h : p + k ≤ 64) :
    Calls Try.prog 95 #[.pointer (some ⟨r, 0, none⟩), .int .i64 p, .int .i64 k] w fun e w' => e = .returned (.tuple #[.bool (M.allR p (p + k)), .bool (M.anyR p (p + k))]) ∧ Upd [] w w' := by
  have hmo : Try.prog.follows .mixedOrders = true := by kernel_rfl
  have HM := Lib.hid hM
  clear hM
  go_enter Try.func95, Try.ntmps95
  go_wp2_with fail
  go_loopw [8, 9, 10] (fun a b i wr => ∃ q : Nat, p ≤ q ∧ q ≤ p + k ∧ i = .int .i64 q ∧ a = .bool (M.allR p q) ∧ b = .bool (M.anyR p q) ∧ Upd [] w wr) (fun _ _ i _ => p + k - (intOf i).toNat)
  case atStart => exact ⟨p, Nat.le_refl _, by omega, rfl, by simp [Mem.allR], by simp [Mem.anyR], Upd.refl _ _⟩
  case round =>
    obtain ⟨q, hq0, hq, rfl, rfl, rfl, hU⟩ := hrel
    have hcR := (HM.out.keep hU (by simp)).cR q
    have HU := Lib.hid hU
    clear hU
    by_cases hlt : q < p + k
    · have hA := allR_succ M p q hq0
      have hE := anyR_succ M p q hq0
      have hcR := hcR (by omega)
      have h64 : q < 64 := by omega
      have hlt' : (q : Int) < p + k := by omega
      cases ha : M.allR p q <;> cases hb : M.anyR p q
      all_goals
        rw [ha] at hA
        rw [hb] at hE
        have HAE := Lib.hid (And.intro hA hE)
        clear hA hE ha hb
        go_wp2_with fail
        go_quiet (fail)
        go_wp2_with fail
        go_roundw
        case rel => exact ⟨q + 1, by omega, by omega, by go_num, by rw [HAE.out.1]; rfl, by rw [HAE.out.2]; rfl, HU.out.drewN _⟩
        case measure => simp [intOf]; omega
    · have e : q = p + k := by omega
      subst e
      clear hcR
      go_wp2_with fail
      go_ret2
      exact ⟨rfl, HU.out⟩

end Go.Proofs.Ytncafchgdgmeaaa
