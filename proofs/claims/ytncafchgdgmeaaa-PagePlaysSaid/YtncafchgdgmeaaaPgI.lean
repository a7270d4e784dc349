/-
  Package page: Copy (slices.Clone), by its contract.
-/
import Derived.Test.YtncafchgdgmeaaaPgH
import Derived.Lib.SliceRun
namespace Go.Proofs.Ytncafchgdgmeaaa
open Go Go.RowKit
set_option linter.unusedVariables false
set_option linter.unusedSimpArgs false

theorem run_buildNone (w : World) : (Instr.buildSlice 104 0 #[]).run Try.prog w = .ok (.slice (some ⟨w.heap.size, 0, none⟩) 0 0) (w.alloc (.cells #[] 113)) := by
  simp [Instr.buildSlice, run_underlying Try.underlying104, sizeOf, typeInfo, zeroValue, info_page, page_zero, newRow, Instr.fill]
  exact congrArg (fun x => w.alloc (.cells x 113)) (by simp)

/-- A slice literal without items. -/
theorem wpList_buildNone {ops : Array Oper} {rest : List Oper} {op : Oper} {a : Act} {w : World} {Q : Exit → Act → World → Prop} (hgd : op.guard = none) (ho : op.op = .buildSlice 104 0 #[])
    (h : wpList Try.prog ops Q rest (a.put op.dst (.slice (some ⟨w.heap.size, 0, none⟩) 0 0)) (w.alloc (.cells #[] 113))) : wpList Try.prog ops Q (op :: rest) a w :=
  wpList_plain hgd fun _ hK => by
    unfold Oper.wp execOp
    simp only [ho, Array.map_empty, Sem.run_bind, run_buildNone, Result.andThen_ok, Sem.run_pure]
    exact hK _ _ h

theorem page_list (w : World) {a pb : Nat} {M : Mem} (hM : IsMem w a pb M) : ∀ j u, M.cells.toList[j]? = some u → w.cell? ((⟨pb, 0, none⟩ : Addr).add j) = some u := by
  intro j u hu
  obtain ⟨C, hC, hb⟩ := hM.pg
  have hj : j < 16448 := by
    by_cases h : j < 16448
    · exact h
    · rw [List.getElem?_eq_none (by rw [Array.length_toList, Mem.size_cells]; omega)] at hu; cases hu
  have e : (⟨pb, 0, none⟩ : Addr).add j = ⟨pb, j, none⟩ := by
    rcases j with _ | j <;> simp [Addr.add]
  rw [e, cells_of hb, hC.get j hj, ← hu, Array.getElem?_toList, Mem.getElem?_cells _ _ hj]

theorem cells_oneCell (M : Mem) : ∀ u ∈ M.cells.toList, u.oneCell' = true := by
  intro u hu
  rw [Array.mem_toList_iff, Mem.cells, Array.mem_map] at hu
  obtain ⟨k, _, rfl⟩ := hu
  rw [Mem.at_]; split <;> rfl

theorem owns_holds {w : World} {base : Nat} {v : Value} {M : Mem} (h : w.ownsRow base 113 257 v (0 + 64) M.cells.toList) : ∃ g c C, v = .slice (some ⟨g, 0, none⟩) 64 c ∧ 64 ≤ c ∧ base ≤ g ∧ Holds C M ∧ w.heap[g]? = some (.cells C 113 (0, 0)) := by
  obtain ⟨_, ⟨_, h2⟩ | ⟨g, cap, cur, h1, h2, h3, h4, h5, h6, h7⟩⟩ := h
  · cases h2
  · refine ⟨g, cap, cur, h1, h4, h2, ⟨by rw [h6]; omega, fun k hk => ?_⟩, h3⟩
    have : (cur.toList.take (64 * 257))[k]? = some (M.at_ k) := by rw [h7, Array.getElem?_toList, Mem.getElem?_cells _ _ hk]
    rw [List.getElem?_take, if_pos (by omega), Array.getElem?_toList] at this
    exact this

set_option maxRecDepth 100000 in
set_option maxHeartbeats 2000000 in
theorem Clone_any (M : Mem) (a pb c : Nat) (w : World) (hM : IsMem w a pb M) :
    Calls Try.prog 57 #[.slice (some ⟨pb, 0, none⟩) 64 c] w fun e w' => ∃ g d C, e = .returned (.slice (some ⟨g, 0, none⟩) 64 d) ∧ 64 ≤ d ∧ w.heap.size ≤ g ∧ Holds C M ∧ w'.heap[g]? = some (.cells C 113 (0, 0)) ∧ Upd [] w w' := by
  have hnil := fun w : World => Lib.run_eql_slice_nil w 104 113 (some ⟨pb, 0, none⟩) 64 c 0 0 Try.underlying104
  have HM := Lib.hid hM
  clear hM
  go_enter Try.func57, Try.ntmps57
  have hown : (w.alloc (.cells #[] 113)).ownsRow w.heap.size 113 257 (.slice (some ⟨w.heap.size, 0, none⟩) 0 0) 0 [] := ⟨by simp, .inr ⟨w.heap.size, 0, #[], rfl, Nat.le_refl _, heap_alloc_new _ _, Nat.le_refl _, Nat.zero_le _, rfl, rfl⟩⟩
  have HO := Lib.hid hown
  clear hown
  have hsz : Try.t113.size = 257 := by kernel_rfl
  have hby : Try.t113.bytes = 264 := by kernel_rfl
  have HS := Lib.hid (And.intro hsz hby)
  clear hsz hby
  go_wp2_with (first | (refine wpList_buildNone rfl rfl ?_) | (at_builtin; refine wpList_append_own _ rfl _ _ 104 rfl w.heap.size 113 Try.t113 (.agg zeroPage) 257 264 Try.underlying104 info_page page_zero HS.out.1 HS.out.2 (by simp [Value.cells, zeroPage_size]) (by decide) _ _ _ rfl HO.out ⟨pb, 0, none⟩ 64 c M.cells.toList rfl (by rw [Array.length_toList, Mem.size_cells]) (page_list _ (HM.out.keep ((Upd.refl [] w).alloc _) (by simp) (by simp))) (cells_oneCell M) (by unfold maxLen; omega) (by omega) (by simp) ?_; intro v' w' hv hg _))
  have e1 : ∀ l : List Value, [] ++ l = l := fun l => List.nil_append l
  rw [e1] at hv
  have hg' : Upd [w.heap.size] (w.alloc (.cells #[] 113)) w' := Upd.of_grown (row := some w.heap.size) hg
  clear hg
  have hx := owns_holds hv
  clear hv
  go_ret
  obtain ⟨g, d, C, he, hd, hge, hC, hb⟩ := hx
  exact ⟨g, d, C, ret_of he, hd, hge, hC, hb, ((Upd.refl [] w).alloc _).new hg' (by simp)⟩

set_option maxRecDepth 100000 in
set_option maxHeartbeats 2000000 in
theorem Copy_any (M : Mem) (a pb : Nat) (w : World) (hM : IsMem w a pb M) :
    Calls Try.prog 17 #[.pointer (some ⟨a, 0, none⟩)] w fun e w' => ∃ b qb, e = .returned (.pointer (some ⟨b, 0, none⟩)) ∧ w.heap.size ≤ b ∧ w.heap.size ≤ qb ∧ IsMem w' b qb M ∧ Upd [] w w' := by
  obtain ⟨c, hc, c0⟩ := hM.c0
  have HM := Lib.hid hM
  clear hM
  go_enter Try.func17, Try.ntmps17
  go_wp2_with (go_at_call 57; refine (Clone_any M a pb c _ HM.out).mono ?_; rintro e w1 ⟨g, d, C, rfl, hd, hge, hC, hb, hU⟩; have HB := Lib.hid hb; have HU := Lib.hid hU; clear hb hU)
  go_ret
  refine ⟨w1.heap.size, g, rfl, HU.out.size, hge, ?_, HU.out.alloc _⟩
  exact ⟨⟨d, hd, heap_alloc_new _ _⟩, ⟨C, hC, heap_alloc_keep _ HB.out⟩, HM.out.ok⟩

end Go.Proofs.Ytncafchgdgmeaaa
