/-
  Package page: New, the search for a page (slices.ContainsFunc, IndexFunc), all: each by its contract.
-/
import Derived.Test.YtncafchgdgmeaaaPgA
import Derived.Deep.MidRow
namespace Go.Proofs.Ytncafchgdgmeaaa
open Go Go.RowKit
set_option linter.unusedVariables false
set_option linter.unusedSimpArgs false

def zeroPage : Array Value := #[Value.int .i64 0] ++ Array.replicate 256 (Value.int .u8 0)
theorem zeroPage_size : zeroPage.size = 257 := by simp [zeroPage]

theorem page_zero : Try.t113.zero = some (.agg zeroPage) := by kernel_rfl

theorem made_zero_fn (k : Nat) : zeroPage[k % zeroPage.size]! = Mem.zero.at_ k := by
  have hm := Nat.mod_lt k (show 257 > 0 by decide)
  rw [zeroPage_size, getElem!_pos _ _ (by rw [zeroPage_size]; exact hm)]
  by_cases e : k % 257 = 0
  · simp [e, Mem.at_, Mem.zero, zeroPage]
  · simp only [Mem.at_, e, if_false, Mem.zero, zeroPage]
    rw [Array.getElem_append_right (by simp; omega)]
    simp

theorem made_zero (n : Nat) (hn : n = 16448) : madeCells zeroPage n = Mem.zero.cells := by
  have h : madeCells zeroPage n = (Array.range n).map Mem.zero.at_ := congrArg (fun f => (Array.range n).map f) (funext made_zero_fn)
  rw [h, hn, Mem.cells]

theorem info_page : Try.prog.info? 113 = some Try.t113 := by kernel_rfl

theorem run_make_pages (w : World) : (Instr.makeSlice 104 (.int .i64 64) (.int .i64 64)).run Try.prog w = .ok (.slice (some ⟨w.heap.size, 0, none⟩) 64 64) (w.alloc (.cells Mem.zero.cells 113 (0, 0))) := by
  have h := run_make (P := Try.prog) w 104 113 Try.t113 (.agg zeroPage) Try.underlying104 info_page page_zero .i64 .i64 64 64 (by decide) (by decide) (by decide) (by decide)
  have hz : (Value.agg zeroPage).cells = zeroPage := rfl
  rw [hz, made_zero _ (by decide)] at h
  exact h

theorem New_any (w : World) :
    Calls Try.prog 15 #[] w fun e w' => ∃ a pb, e = .returned (.pointer (some ⟨a, 0, none⟩)) ∧ w.heap.size ≤ a ∧ w.heap.size ≤ pb ∧ IsMem w' a pb Mem.zero ∧ Upd [] w w' := by
  have hmk := run_make_pages
  go_enter Try.func15, Try.ntmps15
  go_wp2
  go_ret
  refine ⟨w.heap.size + 1, w.heap.size, rfl, ?_, ?_, ?_, ?_⟩
  · omega
  · omega
  · exact ⟨⟨64, Nat.le_refl _, heap_alloc2_new _ _ _⟩, ⟨_, Holds.cells _, heap_alloc2_old _ _ _⟩, Mem.zero_ok⟩
  · exact ((Upd.refl _ _).alloc _).alloc _


theorem Mem.page0 (M : Mem) (p : Nat) : (M.page p)[0]? = some (.int .i64 (M.R p)) := by
  simp [Mem.page, Mem.at_]

theorem page_range {w : World} {a pb : Nat} {M : Mem} (h : IsMem w a pb M) (p : Nat) (hp : p < 64) : w.rangeAt pb (p * 257) (M.page p).toList := by
  intro j v hv
  have hj : j < 257 := by
    by_cases hl : j < 257
    · exact hl
    · have : (M.page p).toList.length ≤ j := by simp [Mem.size_page]; omega
      rw [List.getElem?_eq_none this] at hv; cases hv
  obtain ⟨C, h2, h3⟩ := h.pg
  rw [cells_of h3, h2.get _ (by omega)]
  simp [Mem.page, hj] at hv
  rw [hv]

theorem page_info : (Try.prog.info? 113).map (·.size) = some 257 := by kernel_rfl

/-- The closure in 'all': is the page mapped otherwise than asked? -/
theorem all1_any (M : Mem) (p bb : Nat) (mapped : Bool) (w : World) (hb : w.heap[bb]? = some (.cells #[.bool mapped] 4 (0, 0))) :
    Calls Try.prog 93 #[.agg (M.page p), .pointer (some ⟨bb, 0, none⟩)] w fun e w' => e = .returned (.bool ((M.R p != 0) != mapped)) ∧ Upd [] w w' := by
  have hlt := lt_of_heap hb
  have hc : w.cell? ⟨bb, 0, none⟩ = some (.bool mapped) := by rw [cells_of hb]; rfl
  clear hb
  have h0 := M.page0 p
  go_enter Try.func93, Try.ntmps93
  go_wp2
  go_ret
  refine ⟨?_, (Upd.refl _ _).alloc _⟩
  simp [bne]

/-- Is page p mapped otherwise than asked? -/
def Mem.odd (M : Mem) (mapped : Bool) (p : Nat) : Bool := (M.R p != 0) != mapped

set_option maxRecDepth 100000 in
set_option maxHeartbeats 1000000 in
theorem IndexFunc_any (M : Mem) (a pb p n c bb : Nat) (mapped : Bool) (w : World) (hM : IsMem w a pb M) (hb : w.heap[bb]? = some (.cells #[.bool mapped] 4 (0, 0))) (hn : p + n ≤ 64) :
    Calls Try.prog 116 #[.slice (some ⟨pb, p * 257, none⟩) n c, .func (.func 93) #[] #[.pointer (some ⟨bb, 0, none⟩)]] w fun e w' =>
      ∃ k : Int, e = .returned (.int .i64 k) ∧ decide (0 ≤ k) = (List.range n).any (fun i => M.odd mapped (p + i)) ∧ Upd [] w w' := by
  go_enter Try.func116, Try.ntmps116
  go_wp2
  go_loopw [5, 8] (fun _ i wr => ∃ k : Nat, k ≤ n ∧ i = .int .i64 k ∧ (∀ j, j < k → M.odd mapped (p + j) = false) ∧ Upd [] w wr) (fun _ i _ => n - (intOf i).toNat)
  case atStart => exact ⟨0, Nat.zero_le _, rfl, by simp, Upd.refl _ _⟩
  case round =>
    obtain ⟨k, hk, rfl, hno, hU⟩ := hrel
    have hM' := hM.keep hU (by simp) (by simp)
    have hb' := hU.get hb (by simp)
    have HN := Lib.hid hno
    clear hno hb
    by_cases hlt : k < n
    · have hr := page_range hM' (p + k) (by omega)
      rw [Nat.add_mul] at hr
      have HR := Lib.hid hr
      clear hr
      go_wp2_with (first | (refine wpList_load_arr rfl 113 _ rfl pb (p * 257 + k * 257) rfl (M.page (p + k)) _ HR.out Try.underlying113 rfl (by rw [M.size_page]; exact page_info) ?_) | (go_at_call 93; refine (all1_any M (p + k) bb mapped wr hb').mono ?_; rintro e w1 ⟨rfl, hU1⟩))
      · rename_i ht
        go_ret
        refine ⟨k, rfl, ?_, hU.trans hU1 (by simp) (by simp)⟩
        symm
        simp only [Int.natCast_nonneg, decide_true, List.any_eq_true, List.mem_range]
        exact ⟨k, hlt, ht⟩
      · rename_i ht
        go_roundw
        case rel =>
          refine ⟨k + 1, by omega, by go_num, ?_, hU.trans hU1 (by simp) (by simp)⟩
          intro j hj
          by_cases e : j = k
          · subst e; exact ht
          · exact HN.out j (by omega)
        case measure => simp [intOf]; omega
    · go_wp2
      go_ret
      refine ⟨-1, rfl, ?_, hU⟩
      symm
      rw [show decide (0 ≤ (-1 : Int)) = false from by decide, List.any_eq_false]
      intro i hi
      rw [HN.out i (by have := List.mem_range.1 hi; omega)]
      simp

set_option maxRecDepth 100000 in
set_option maxHeartbeats 400000 in
theorem ContainsFunc_any (M : Mem) (a pb p n c bb : Nat) (mapped : Bool) (w : World) (hM : IsMem w a pb M) (hb : w.heap[bb]? = some (.cells #[.bool mapped] 4 (0, 0))) (hn : p + n ≤ 64) :
    Calls Try.prog 92 #[.slice (some ⟨pb, p * 257, none⟩) n c, .func (.func 93) #[] #[.pointer (some ⟨bb, 0, none⟩)]] w fun e w' =>
      e = .returned (.bool ((List.range n).any (fun i => M.odd mapped (p + i)))) ∧ Upd [] w w' := by
  go_enter Try.func92, Try.ntmps92
  go_wp2_with (go_at_call 116; refine (IndexFunc_any M a pb p n c bb mapped w hM hb hn).mono ?_; rintro e w' ⟨k, rfl, hk, hU⟩; have HK := Lib.hid hk; clear hk)
  go_ret
  refine ⟨?_, hU⟩
  rw [← HK.out]
  rfl

/-- What 'all' tells: pages beside one another are all there, all mapped (or all not). -/
def Mem.all (M : Mem) (at_ n : Int) (mapped : Bool) : Bool :=
  rowB at_ n && !((List.range n.toNat).any (fun i => M.odd mapped (at_.toNat + i)))

set_option maxRecDepth 100000 in
set_option maxHeartbeats 1000000 in
theorem all_any (M : Mem) (a pb : Nat) (at_ n : Int) (mapped : Bool) (w : World) (hM : IsMem w a pb M) (hn : -9223372036854775808 ≤ n) :
    Calls Try.prog 55 #[.pointer (some ⟨a, 0, none⟩), .int .i64 at_, .int .i64 n, .bool mapped] w fun e w' =>
      e = .returned (.bool (M.all at_ n mapped)) ∧ Upd [] w w' := by
  have hmf : ∀ (fn : Fn) (first cap : Array Value) (w : World), (Instr.makeFunc fn first cap).run Try.prog w = .ok (.func fn first cap) w := fun _ _ _ _ => rfl
  cases hb : rowB at_ n
  · have HB := Lib.hid hb
    clear hb
    go_enter Try.func55, Try.ntmps55
    go_wp2_with (first | (go_at_call 56; refine (row_no a pb at_ n _ M (hM.keep ((Upd.refl [] _).alloc _) (by simp) (by simp)) HB.out hn).mono ?_; rintro e w' ⟨rfl, rfl⟩))
    go_ret
    refine ⟨?_, (Upd.refl _ _).alloc _⟩
    rw [Mem.all, HB.out]
    rfl
  · have h4 := (rowB_iff at_ n).1 hb
    obtain ⟨g1, g2, g3, g4⟩ := h4
    have HB := Lib.hid hb
    clear hb
    have hM1 : IsMem (w.alloc (.cells #[.bool mapped] 4 (0, 0))) a pb M := hM.keep ((Upd.refl [] _).alloc _) (by simp) (by simp)
    have hb1 : (w.alloc (.cells #[.bool mapped] 4 (0, 0))).heap[w.heap.size]? = some (.cells #[.bool mapped] 4 (0, 0)) := heap_alloc_new _ _
    have HB1 := Lib.hid hb1
    clear hb1
    go_enter Try.func55, Try.ntmps55
    go_wp2_with (first | (go_at_call 56; refine (row_yes a pb at_ n _ M hM1 HB.out).mono ?_; rintro e w' ⟨cc, rfl, rfl⟩) | (go_at_call 92; refine (ContainsFunc_any M a pb at_.toNat n.toNat _ w.heap.size mapped _ hM1 HB1.out (by omega)).mono ?_; rintro e w' ⟨rfl, hU⟩))
    go_ret
    refine ⟨?_, ((Upd.refl [] _).alloc _).trans hU (by simp) (by simp)⟩
    rw [Mem.all, HB.out]
    rfl

end Go.Proofs.Ytncafchgdgmeaaa
