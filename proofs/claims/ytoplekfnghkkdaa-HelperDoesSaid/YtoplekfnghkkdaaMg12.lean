/-
  Package helper: touches: a number read; whether bytes can be: by contracts. No condition.
-/
import Derived.Test.YtoplekfnghkkdaaMg11
import Derived.Test.YtoplekfnghkkdaaMg09
import Derived.Recover
namespace Go.Proofs.Ytoplekfnghkkdaa
open Go Go.RowKit
set_option linter.unusedVariables false
set_option linter.unusedSimpArgs false

set_option maxRecDepth 100000 in
set_option maxHeartbeats 4000000 in
theorem touch_number_ok (H : Hs) (M : Mem) (ab hb a pb : Nat) (w : World) (h : As w ab hb a pb H M) (hk : M.rd8K (H.get 10) = true) :
    Calls Try.prog 61 #[.pointer (some ⟨ab, 0, none⟩), .int .u32 7] w fun e w' => e = .returned (.tuple #[]) ∧ IsHost w' hb ((H.put 10 (M.rd8V (H.get 10) % 4294967296)).put 11 (M.rd8V (H.get 10) / 4294967296)) ∧ IsMem w' a pb (M) ∧ Upd [hb, pb] w w' := by
  have hmo : Try.prog.follows .mixedOrders = true := by kernel_rfl
  have u0 : Upd [] w (w.alloc (.cells #[.pointer (some ⟨ab, 0, none⟩)] 127)) := (Upd.refl [] w).alloc _
  have S0 := Lib.hid h.start
  have U0 := Lib.hid u0
  have G0 := Lib.hid (Hs.get_range h.h 10)
  have HN := Lib.hid h.n
  have HK := Lib.hid hk
  have GV := Lib.hid (show 0 ≤ M.rd8V (H.get 10) ∧ M.rd8V (H.get 10) < 18446744073709551616 by
    have g1 := readV_range h.m (H.get 10) 4 1
    have g2 := readV_range h.m (plus (H.get 10) 4) 4 1
    unfold Mem.rd8V
    split <;> omega)
  clear h hk u0
  go_enter Try.func61, Try.ntmps61
  go_wp2_with fail
  refine wp_drawE 15 (HpD (w.alloc (.cells #[.pointer (some ⟨ab, 0, none⟩)] 127)) w.heap.size ab hb a pb H M (M.rd8F (H.get 10)) 11 13) (fun _ _ => False) (by kernel_rfl) (by decide +kernel) (fun r0 => HpD.start (S0.out.step (Upd.refl [] _).drew) (by decide) r0) (fun _ _ _ h => h.elim) ?_
  simp only [List.take_succ_cons, List.take_zero, List.drop_succ_cons, List.drop_zero]
  iterate 5
    apply headE_val0 rfl rfl
    · intro d r0 K hd hdep hK w5 hB1
      have HB := Lib.hid hB1
      have c1 := cells_of HB.out.b.t
      have c2 := cells_of HB.out.b.k.h
      clear hB1 hdep
      go_wp2_with fail
      first
      | exact hK _ (HB.out.same _ (by decide) (by decide))
      | exact HB.out.same _ (by decide) (by decide)
      | exact hK _ (HB.out.quiet hu _ (by decide) (by decide))
      | exact HB.out.quiet hu _ (by decide) (by decide)
    · exact ⟨_, rfl⟩
  iterate 1
    apply headE_val0 rfl rfl
    · intro d r0 K hd hdep hK w5 hB1
      have HB := Lib.hid hB1
      have c1 := cells_of HB.out.b.t
      have c2 := cells_of HB.out.b.k.h
      clear hB1 hdep
      go_wp2_with (go_at_call 127; refine (arg_any H ab hb a 0 (by decide) _ HB.out.b.h HB.out.b.k).mono ?_; rintro e w' ⟨rfl, rfl⟩)
      first
      | exact hK _ (HB.out.same _ (by decide) (by decide))
      | exact HB.out.same _ (by decide) (by decide)
      | exact hK _ (HB.out.quiet hu _ (by decide) (by decide))
      | exact HB.out.quiet hu _ (by decide) (by decide)
    · exact ⟨_, rfl⟩
  iterate 1
    apply headE_val0 rfl rfl
    · intro d r0 K hd hdep hK w5 hB1
      have HB := Lib.hid hB1
      have c1 := cells_of HB.out.b.t
      have c2 := cells_of HB.out.b.k.h
      clear hB1 hdep
      go_wp2_with (go_at_call 132; refine (Read8_any M a pb (H.get 10) _ HB.out.b.m G0.out.1 G0.out.2).mono ?_; rintro e w6 ⟨rfl, hu⟩; rw [HK.out])
      first
      | exact hK _ (HB.out.same _ (by decide) (by decide))
      | exact HB.out.same _ (by decide) (by decide)
      | exact hK _ (HB.out.quiet hu _ (by decide) (by decide))
      | exact HB.out.quiet hu _ (by decide) (by decide)
    · exact ⟨_, rfl⟩
  iterate 4
    apply headE_val0 rfl rfl
    · intro d r0 K hd hdep hK w5 hB1
      have HB := Lib.hid hB1
      have c1 := cells_of HB.out.b.t
      have c2 := cells_of HB.out.b.k.h
      clear hB1 hdep
      go_wp2_with fail
      first
      | exact hK _ (HB.out.same _ (by decide) (by decide))
      | exact HB.out.same _ (by decide) (by decide)
      | exact hK _ (HB.out.quiet hu _ (by decide) (by decide))
      | exact HB.out.quiet hu _ (by decide) (by decide)
    · exact ⟨_, rfl⟩
  refine headE_free rfl (fun _ => rfl) 6 rfl (by simp [Act.put]) ?_ ?_
  · intro d r0 K hd w5 hB1 hK
    have HB := Lib.hid hB1
    clear hB1
    simp only [fillE]
    go_wp2_with fail
    first
    | exact hK (.pointer (some ⟨w5.heap.size, 0, none⟩)) _ (HB.out.lay hd)
    | exact HB.out.lay hd
  iterate 1
    apply headE_val rfl (fun _ => rfl)
    · intro d r0 K hd hdep hK w5 hB1
      have HB := Lib.hid hB1
      have c1 := cells_of HB.out.b.t
      have c2 := cells_of HB.out.b.k.h
      clear hB1 hdep
      simp only [fillE]
      go_wp2_with fail
      first
      | exact hK _ (HB.out.same _ (by decide) (by decide))
      | exact HB.out.same _ (by decide) (by decide)
      | exact hK _ (HB.out.quiet hu _ (by decide) (by decide))
      | exact HB.out.quiet hu _ (by decide) (by decide)
    · exact ⟨_, fun _ => rfl, rfl⟩
  apply headE_val rfl (fun _ => rfl)
  · intro d r0 K hd hdep hK w5 hB1
    have h8 : d 11 = true := hdep ⟨11, .data⟩ (by simp) rfl
    obtain ⟨g, Z, e1, e2, e3, e4⟩ := hB1.x h8
    refine wp_store_flt (M.rd8F (H.get 10)) Z g _ _ rfl (by show r0 11 = _; exact e1) rfl e3 ?_
    exact hK _ (hB1.store h8 e1 e2 e3)
  · exact ⟨_, fun _ => rfl, rfl⟩
  iterate 1
    apply headE_val rfl (fun _ => rfl)
    · intro d r0 K hd hdep hK w5 hB1
      have HB := Lib.hid hB1
      have c1 := cells_of HB.out.b.t
      have c2 := cells_of HB.out.b.k.h
      clear hB1 hdep
      simp only [fillE]
      go_wp2_with fail
      first
      | exact hK _ (HB.out.same _ (by decide) (by decide))
      | exact HB.out.same _ (by decide) (by decide)
      | exact hK _ (HB.out.quiet hu _ (by decide) (by decide))
      | exact HB.out.quiet hu _ (by decide) (by decide)
    · exact ⟨_, fun _ => rfl, rfl⟩
  refine headE_nil (fun _ r0 w5 d hall hB1 => ?_)
  obtain ⟨g5, e1, hG⟩ := hB1.fin (hall 11 (by decide)) (hall 13 (by decide))
  have G5 := Lib.hid (And.intro hB1.b hG)
  show wpList _ _ _ _ (Act.put (fillE _ _ [] _) (some 6) (r0 11)) _
  rw [e1]
  simp only [fillE]
  clear hG e1 hall hB1
  have cf := cells_of G5.out.2
  unfold fltC at cf
  have ct := cells_of G5.out.1.t
  go_wp2_with (first | (have _t := G5; clear _t; go_at_call 128; refine (hmust_ok (M.rd8F (H.get 10)) _).mono ?_; rintro e w6 ⟨rfl, hu⟩; have G6 := Lib.hid (G5.out.1.step hu); clear hu G5 cf ct; have ct := cells_of G6.out.t) | (have _t := G6; clear _t; go_at_call 118; refine (number_any H ab hb a _ GV.out _ G6.out.h G6.out.k HN.out.1).mono ?_; rintro e w7 ⟨rfl, h7, hu⟩; have G7 := Lib.hid (And.intro h7 (And.intro (G6.out.m.keep hu (by simpa using fun e => HN.out.2.1 e.symm) (by simpa using fun e => HN.out.2.2.1 e.symm)) (((U0.out.also G6.out.u (by simp)).mono (T := [hb]) (by simp)).also hu (by simp)))); clear h7 hu G6))
  go_end0
  exact ⟨rfl, G7.out.1, G7.out.2.1, G7.out.2.2.mono (by simp)⟩

/-- Whether so many bytes can be read and written, from a place on. -/
def Mem.canRow (M : Mem) (x : Int) (n : Nat) : Bool := (List.range n).all fun i => M.canK (plus x i) 1 3

theorem canK1_place (M : Mem) (y : Int) (hy : 0 ≤ y ∧ y < 4294967296) : opCanK M St.zero ⟨3, 0, y, -1, -1, 1⟩ 1 3 = M.canK y 1 3 ∧ opCanF M St.zero ⟨3, 0, y, -1, -1, 1⟩ 1 3 = M.canF y 1 3 := by
  have hp := op_place0 St.zero y hy.1 hy.2
  unfold opCanK opCanF
  rw [if_pos rfl, if_pos rfl, hp]
  exact ⟨rfl, rfl⟩

set_option maxRecDepth 100000 in
set_option maxHeartbeats 4000000 in
theorem touch_can (H : Hs) (M : Mem) (ab hb a pb : Nat) (w : World) (h : As w ab hb a pb H M) :
    Calls Try.prog 61 #[.pointer (some ⟨ab, 0, none⟩), .int .u32 14] w fun e w' => (M.canRow (H.get 10) (min (H.get 11) 16).toNat = true ∧ e = .returned (.tuple #[]) ∧ IsHost w' hb (H.put 10 0) ∧ IsMem w' a pb M ∧ Upd [hb] w w') ∨ (M.canRow (H.get 10) (min (H.get 11) 16).toNat = false ∧ (∃ F : Flt, e = .panicked [{ v := .iface 49 F.val, recovered := false }]) ∧ Upd [] w w') := by
  have hmo : Try.prog.follows .mixedOrders = true := by kernel_rfl
  have u0 : Upd [] w (w.alloc (.cells #[.pointer (some ⟨ab, 0, none⟩)] 127)) := (Upd.refl [] w).alloc _
  have S0 := Lib.hid h.start
  have U0 := Lib.hid u0
  have G0 := Lib.hid (Hs.get_range h.h 10)
  have HN := Lib.hid h.n
  have G1 := Lib.hid (Hs.get_range h.h 11)
  obtain ⟨n, hn⟩ : ∃ n : Nat, min (H.get 11) 16 = n := ⟨(min (H.get 11) 16).toNat, by have := G1.out; omega⟩
  have hn16 : n ≤ 16 := by have := G1.out; omega
  have hnn : (min (H.get 11) 16).toNat = n := by omega
  rw [hnn]
  clear h u0 hnn
  go_enter Try.func61, Try.ntmps61
  have ct := cells_of S0.out.t
  go_wp2_with (have _t := ct; clear _t; go_at_call 127; refine (arg_any H ab hb a 1 (by decide) _ S0.out.h S0.out.k).mono ?_; rintro e w' ⟨rfl, rfl⟩; clear ct)
  · have hL : 16 = (n : Int) := by omega
    clear hn h
    go_loopw [86] (fun t wl => ∃ j : Nat, j ≤ n ∧ t = .int .u32 j ∧ (∀ i, i < j → M.canK (plus (H.get 10) i) 1 3 = true) ∧ HpS (w.alloc (.cells #[.pointer (some ⟨ab, 0, none⟩)] 127)) w.heap.size ab hb a pb H M wl) (fun t wl => n - (intOf t).toNat)
    case atStart => exact ⟨0, Nat.zero_le _, rfl, fun _ h => absurd h (by omega), S0.out⟩
    case round =>
      obtain ⟨j, hj, rfl, hc, hS⟩ := hrel
      have HC := Lib.hid hc
      have HS := Lib.hid hS
      clear hc hS
      by_cases hlt : j < n
      · have hjd : decide ((j : Int) < 16) = true := by rw [hL]; simpa using hlt
        have q2 : (H.get 10 + j) % 4294967296 = plus (H.get 10) j := rfl
        have HL := Lib.hid hL
        have HP := Lib.hid (show 0 ≤ plus (H.get 10) j ∧ plus (H.get 10) j < 4294967296 by unfold plus; omega)
        have ct := cells_of HS.out.t
        clear hL
        go_wp2_with (have _t := ct; clear _t; go_at_call 127; refine (arg_any H ab hb a 0 (by decide) _ HS.out.h HS.out.k).mono ?_; rintro e w' ⟨rfl, rfl⟩; clear ct)
        have CP := Lib.hid (canK1_place M _ HP.out)
        have B0 := Lib.hid (show HpS (w.alloc (.cells #[.pointer (some ⟨ab, 0, none⟩)] 127)) w.heap.size ab hb a pb H M (wr.alloc (.cells (opCells ⟨3, 0, plus (H.get 10) j, -1, -1, 1⟩) 26)) ∧ (wr.alloc (.cells (opCells ⟨3, 0, plus (H.get 10) j, -1, -1, 1⟩) 26)).heap[wr.heap.size]? = some (.cells (opCells ⟨3, 0, plus (H.get 10) j, -1, -1, 1⟩) 26 (0, 0)) from ⟨HS.out.step ((Upd.refl [] wr).alloc _), heap_alloc_new _ _⟩)
        cases hk : M.canK (plus (H.get 10) j) 1 3
        · have HK := Lib.hid hk
          clear hk
          refine wp_draw 10 (fun w5 => HpS (w.alloc (.cells #[.pointer (some ⟨ab, 0, none⟩)] 127)) w.heap.size ab hb a pb H M w5 ∧ w5.heap[wr.heap.size]? = some (.cells (opCells ⟨3, 0, plus (H.get 10) j, -1, -1, 1⟩) 26 (0, 0))) (fun c w5 => (∃ F : Flt, c = [{ v := .iface 49 F.val, recovered := false }]) ∧ Upd [] (w.alloc (.cells #[.pointer (some ⟨ab, 0, none⟩)] 127)) w5) (by kernel_rfl) (by decide +kernel) ⟨B0.out.1.step (Upd.refl [] _).drew, B0.out.2⟩ ?_ ?_
          · rintro c a' w' ⟨⟨F, rfl⟩, h2⟩ hd _ _
            refine ⟨hd, .inr ⟨?_, ⟨F, rfl⟩, U0.out.also h2 (by simp)⟩⟩
            rw [Mem.canRow, List.all_eq_false]
            exact ⟨j, List.mem_range.2 hlt, by rw [HK.out]; simp⟩
          simp only [List.take_succ_cons, List.take_zero, List.drop_succ_cons, List.drop_zero]
          iterate 6
            apply headW_val rfl rfl
            · intro K hK w5 hB1
              have HB := Lib.hid hB1
              have c1 := cells_of HB.out.1.t
              have c2 := cells_of HB.out.1.k.h
              have c3 := cells_of HB.out.2
              unfold opCells at c3
              clear hB1
              go_wp2_with fail
              first
              | exact hK _ HB.out
              | exact HB.out
              | exact hK _ ⟨HB.out.1.step hu, hu.get HB.out.2 (by simp)⟩
              | exact ⟨HB.out.1.step hu, hu.get HB.out.2 (by simp)⟩
            · exact ⟨_, rfl⟩
          iterate 1
            apply headW_val rfl rfl
            · intro K hK w5 hB1
              have HB := Lib.hid hB1
              have c1 := cells_of HB.out.1.t
              have c2 := cells_of HB.out.1.k.h
              have c3 := cells_of HB.out.2
              unfold opCells at c3
              clear hB1
              go_wp2_with (go_at_call 134; refine (opCan_any M a pb St.zero ⟨3, 0, plus (H.get 10) j, -1, -1, 1⟩ 1 3 _ HB.out.1.m).mono ?_; rintro e w6 ⟨rfl, hu⟩; rw [CP.out.1, CP.out.2, HK.out])
              first
              | exact hK _ HB.out
              | exact HB.out
              | exact hK _ ⟨HB.out.1.step hu, hu.get HB.out.2 (by simp)⟩
              | exact ⟨HB.out.1.step hu, hu.get HB.out.2 (by simp)⟩
            · exact ⟨_, rfl⟩
          iterate 2
            apply headW_val rfl rfl
            · intro K hK w5 hB1
              have HB := Lib.hid hB1
              have c1 := cells_of HB.out.1.t
              have c2 := cells_of HB.out.1.k.h
              have c3 := cells_of HB.out.2
              unfold opCells at c3
              clear hB1
              go_wp2_with fail
              first
              | exact hK _ HB.out
              | exact HB.out
              | exact hK _ ⟨HB.out.1.step hu, hu.get HB.out.2 (by simp)⟩
              | exact ⟨HB.out.1.step hu, hu.get HB.out.2 (by simp)⟩
            · exact ⟨_, rfl⟩
          refine headW_dies rfl rfl ?_ ?_
          · intro w5 hB1
            have HB := Lib.hid hB1
            clear hB1
            go_wp2_with (go_at_call 128; refine (hmust_bad (M.canF (plus (H.get 10) j) 1 3) _).mono ?_; rintro e w6 ⟨rfl, hu⟩)
            exact ⟨⟨_, rfl⟩, HB.out.1.u.also hu (by simp)⟩
          refine headW_nil (fun hdead => by cases hdead)
        · have HK := Lib.hid hk
          clear hk
          refine wp_draw 10 (fun w5 => HpS (w.alloc (.cells #[.pointer (some ⟨ab, 0, none⟩)] 127)) w.heap.size ab hb a pb H M w5 ∧ w5.heap[wr.heap.size]? = some (.cells (opCells ⟨3, 0, plus (H.get 10) j, -1, -1, 1⟩) 26 (0, 0))) (fun _ _ => False) (by kernel_rfl) (by decide +kernel) ⟨B0.out.1.step (Upd.refl [] _).drew, B0.out.2⟩ (fun _ _ _ h => h.elim) ?_
          simp only [List.take_succ_cons, List.take_zero, List.drop_succ_cons, List.drop_zero]
          iterate 6
            apply headW_val rfl rfl
            · intro K hK w5 hB1
              have HB := Lib.hid hB1
              have c1 := cells_of HB.out.1.t
              have c2 := cells_of HB.out.1.k.h
              have c3 := cells_of HB.out.2
              unfold opCells at c3
              clear hB1
              go_wp2_with fail
              first
              | exact hK _ HB.out
              | exact HB.out
              | exact hK _ ⟨HB.out.1.step hu, hu.get HB.out.2 (by simp)⟩
              | exact ⟨HB.out.1.step hu, hu.get HB.out.2 (by simp)⟩
            · exact ⟨_, rfl⟩
          iterate 1
            apply headW_val rfl rfl
            · intro K hK w5 hB1
              have HB := Lib.hid hB1
              have c1 := cells_of HB.out.1.t
              have c2 := cells_of HB.out.1.k.h
              have c3 := cells_of HB.out.2
              unfold opCells at c3
              clear hB1
              go_wp2_with (go_at_call 134; refine (opCan_any M a pb St.zero ⟨3, 0, plus (H.get 10) j, -1, -1, 1⟩ 1 3 _ HB.out.1.m).mono ?_; rintro e w6 ⟨rfl, hu⟩; rw [CP.out.1, CP.out.2, HK.out])
              first
              | exact hK _ HB.out
              | exact HB.out
              | exact hK _ ⟨HB.out.1.step hu, hu.get HB.out.2 (by simp)⟩
              | exact ⟨HB.out.1.step hu, hu.get HB.out.2 (by simp)⟩
            · exact ⟨_, rfl⟩
          iterate 2
            apply headW_val rfl rfl
            · intro K hK w5 hB1
              have HB := Lib.hid hB1
              have c1 := cells_of HB.out.1.t
              have c2 := cells_of HB.out.1.k.h
              have c3 := cells_of HB.out.2
              unfold opCells at c3
              clear hB1
              go_wp2_with fail
              first
              | exact hK _ HB.out
              | exact HB.out
              | exact hK _ ⟨HB.out.1.step hu, hu.get HB.out.2 (by simp)⟩
              | exact ⟨HB.out.1.step hu, hu.get HB.out.2 (by simp)⟩
            · exact ⟨_, rfl⟩
          iterate 1
            apply headW_val rfl rfl
            · intro K hK w5 hB1
              have HB := Lib.hid hB1
              have c1 := cells_of HB.out.1.t
              have c2 := cells_of HB.out.1.k.h
              have c3 := cells_of HB.out.2
              unfold opCells at c3
              clear hB1
              go_wp2_with (go_at_call 128; refine (hmust_ok (M.canF (plus (H.get 10) j) 1 3) _).mono ?_; rintro e w6 ⟨rfl, hu⟩)
              first
              | exact hK _ HB.out
              | exact HB.out
              | exact hK _ ⟨HB.out.1.step hu, hu.get HB.out.2 (by simp)⟩
              | exact ⟨HB.out.1.step hu, hu.get HB.out.2 (by simp)⟩
            · exact ⟨_, rfl⟩
          refine headW_nil (fun _ w7 hB1 => ?_)
          have HB := Lib.hid hB1
          clear hB1
          go_wp2_with fail
          go_roundw
          case rel => exact ⟨j + 1, by omega, by go_num, fun i hi => by
              by_cases e : i = j
              · subst e; exact HK.out
              · exact HC.out i (by omega), HB.out.1⟩
          case measure => simp [intOf]; omega
      · obtain rfl : n = j := by omega
        have hjd : decide ((n : Int) < 16) = false := by rw [hL]; simp
        have ct := cells_of HS.out.t
        have HL := Lib.hid hL
        clear hL
        go_wp2_with (have _t := ct; clear _t; go_at_call 123; refine (answers_any H ab hb a 0 (by decide) _ HS.out.h HS.out.k).mono ?_; rintro e w7 ⟨rfl, h7, hu⟩; have G7 := Lib.hid (And.intro h7 (And.intro (HS.out.m.keep hu (by simpa using fun e => HN.out.2.1 e.symm) (by simpa using fun e => HN.out.2.2.1 e.symm)) (((U0.out.also HS.out.u (by simp)).mono (T := [hb]) (by simp)).also hu (by simp)))); clear h7 hu ct)
        go_end0
        refine .inl ⟨?_, rfl, G7.out.1, G7.out.2.1, G7.out.2.2⟩
        rw [Mem.canRow, List.all_eq_true]
        exact fun i hi => HC.out i (List.mem_range.1 hi)
  · have hL : H.get 11 = (n : Int) := by omega
    clear hn h
    go_loopw [86] (fun t wl => ∃ j : Nat, j ≤ n ∧ t = .int .u32 j ∧ (∀ i, i < j → M.canK (plus (H.get 10) i) 1 3 = true) ∧ HpS (w.alloc (.cells #[.pointer (some ⟨ab, 0, none⟩)] 127)) w.heap.size ab hb a pb H M wl) (fun t wl => n - (intOf t).toNat)
    case atStart => exact ⟨0, Nat.zero_le _, rfl, fun _ h => absurd h (by omega), S0.out⟩
    case round =>
      obtain ⟨j, hj, rfl, hc, hS⟩ := hrel
      have HC := Lib.hid hc
      have HS := Lib.hid hS
      clear hc hS
      by_cases hlt : j < n
      · have hjd : decide ((j : Int) < H.get 11) = true := by rw [hL]; simpa using hlt
        have q2 : (H.get 10 + j) % 4294967296 = plus (H.get 10) j := rfl
        have HL := Lib.hid hL
        have HP := Lib.hid (show 0 ≤ plus (H.get 10) j ∧ plus (H.get 10) j < 4294967296 by unfold plus; omega)
        have ct := cells_of HS.out.t
        clear hL
        go_wp2_with (have _t := ct; clear _t; go_at_call 127; refine (arg_any H ab hb a 0 (by decide) _ HS.out.h HS.out.k).mono ?_; rintro e w' ⟨rfl, rfl⟩; clear ct)
        have CP := Lib.hid (canK1_place M _ HP.out)
        have B0 := Lib.hid (show HpS (w.alloc (.cells #[.pointer (some ⟨ab, 0, none⟩)] 127)) w.heap.size ab hb a pb H M (wr.alloc (.cells (opCells ⟨3, 0, plus (H.get 10) j, -1, -1, 1⟩) 26)) ∧ (wr.alloc (.cells (opCells ⟨3, 0, plus (H.get 10) j, -1, -1, 1⟩) 26)).heap[wr.heap.size]? = some (.cells (opCells ⟨3, 0, plus (H.get 10) j, -1, -1, 1⟩) 26 (0, 0)) from ⟨HS.out.step ((Upd.refl [] wr).alloc _), heap_alloc_new _ _⟩)
        cases hk : M.canK (plus (H.get 10) j) 1 3
        · have HK := Lib.hid hk
          clear hk
          refine wp_draw 10 (fun w5 => HpS (w.alloc (.cells #[.pointer (some ⟨ab, 0, none⟩)] 127)) w.heap.size ab hb a pb H M w5 ∧ w5.heap[wr.heap.size]? = some (.cells (opCells ⟨3, 0, plus (H.get 10) j, -1, -1, 1⟩) 26 (0, 0))) (fun c w5 => (∃ F : Flt, c = [{ v := .iface 49 F.val, recovered := false }]) ∧ Upd [] (w.alloc (.cells #[.pointer (some ⟨ab, 0, none⟩)] 127)) w5) (by kernel_rfl) (by decide +kernel) ⟨B0.out.1.step (Upd.refl [] _).drew, B0.out.2⟩ ?_ ?_
          · rintro c a' w' ⟨⟨F, rfl⟩, h2⟩ hd _ _
            refine ⟨hd, .inr ⟨?_, ⟨F, rfl⟩, U0.out.also h2 (by simp)⟩⟩
            rw [Mem.canRow, List.all_eq_false]
            exact ⟨j, List.mem_range.2 hlt, by rw [HK.out]; simp⟩
          simp only [List.take_succ_cons, List.take_zero, List.drop_succ_cons, List.drop_zero]
          iterate 6
            apply headW_val rfl rfl
            · intro K hK w5 hB1
              have HB := Lib.hid hB1
              have c1 := cells_of HB.out.1.t
              have c2 := cells_of HB.out.1.k.h
              have c3 := cells_of HB.out.2
              unfold opCells at c3
              clear hB1
              go_wp2_with fail
              first
              | exact hK _ HB.out
              | exact HB.out
              | exact hK _ ⟨HB.out.1.step hu, hu.get HB.out.2 (by simp)⟩
              | exact ⟨HB.out.1.step hu, hu.get HB.out.2 (by simp)⟩
            · exact ⟨_, rfl⟩
          iterate 1
            apply headW_val rfl rfl
            · intro K hK w5 hB1
              have HB := Lib.hid hB1
              have c1 := cells_of HB.out.1.t
              have c2 := cells_of HB.out.1.k.h
              have c3 := cells_of HB.out.2
              unfold opCells at c3
              clear hB1
              go_wp2_with (go_at_call 134; refine (opCan_any M a pb St.zero ⟨3, 0, plus (H.get 10) j, -1, -1, 1⟩ 1 3 _ HB.out.1.m).mono ?_; rintro e w6 ⟨rfl, hu⟩; rw [CP.out.1, CP.out.2, HK.out])
              first
              | exact hK _ HB.out
              | exact HB.out
              | exact hK _ ⟨HB.out.1.step hu, hu.get HB.out.2 (by simp)⟩
              | exact ⟨HB.out.1.step hu, hu.get HB.out.2 (by simp)⟩
            · exact ⟨_, rfl⟩
          iterate 2
            apply headW_val rfl rfl
            · intro K hK w5 hB1
              have HB := Lib.hid hB1
              have c1 := cells_of HB.out.1.t
              have c2 := cells_of HB.out.1.k.h
              have c3 := cells_of HB.out.2
              unfold opCells at c3
              clear hB1
              go_wp2_with fail
              first
              | exact hK _ HB.out
              | exact HB.out
              | exact hK _ ⟨HB.out.1.step hu, hu.get HB.out.2 (by simp)⟩
              | exact ⟨HB.out.1.step hu, hu.get HB.out.2 (by simp)⟩
            · exact ⟨_, rfl⟩
          refine headW_dies rfl rfl ?_ ?_
          · intro w5 hB1
            have HB := Lib.hid hB1
            clear hB1
            go_wp2_with (go_at_call 128; refine (hmust_bad (M.canF (plus (H.get 10) j) 1 3) _).mono ?_; rintro e w6 ⟨rfl, hu⟩)
            exact ⟨⟨_, rfl⟩, HB.out.1.u.also hu (by simp)⟩
          refine headW_nil (fun hdead => by cases hdead)
        · have HK := Lib.hid hk
          clear hk
          refine wp_draw 10 (fun w5 => HpS (w.alloc (.cells #[.pointer (some ⟨ab, 0, none⟩)] 127)) w.heap.size ab hb a pb H M w5 ∧ w5.heap[wr.heap.size]? = some (.cells (opCells ⟨3, 0, plus (H.get 10) j, -1, -1, 1⟩) 26 (0, 0))) (fun _ _ => False) (by kernel_rfl) (by decide +kernel) ⟨B0.out.1.step (Upd.refl [] _).drew, B0.out.2⟩ (fun _ _ _ h => h.elim) ?_
          simp only [List.take_succ_cons, List.take_zero, List.drop_succ_cons, List.drop_zero]
          iterate 6
            apply headW_val rfl rfl
            · intro K hK w5 hB1
              have HB := Lib.hid hB1
              have c1 := cells_of HB.out.1.t
              have c2 := cells_of HB.out.1.k.h
              have c3 := cells_of HB.out.2
              unfold opCells at c3
              clear hB1
              go_wp2_with fail
              first
              | exact hK _ HB.out
              | exact HB.out
              | exact hK _ ⟨HB.out.1.step hu, hu.get HB.out.2 (by simp)⟩
              | exact ⟨HB.out.1.step hu, hu.get HB.out.2 (by simp)⟩
            · exact ⟨_, rfl⟩
          iterate 1
            apply headW_val rfl rfl
            · intro K hK w5 hB1
              have HB := Lib.hid hB1
              have c1 := cells_of HB.out.1.t
              have c2 := cells_of HB.out.1.k.h
              have c3 := cells_of HB.out.2
              unfold opCells at c3
              clear hB1
              go_wp2_with (go_at_call 134; refine (opCan_any M a pb St.zero ⟨3, 0, plus (H.get 10) j, -1, -1, 1⟩ 1 3 _ HB.out.1.m).mono ?_; rintro e w6 ⟨rfl, hu⟩; rw [CP.out.1, CP.out.2, HK.out])
              first
              | exact hK _ HB.out
              | exact HB.out
              | exact hK _ ⟨HB.out.1.step hu, hu.get HB.out.2 (by simp)⟩
              | exact ⟨HB.out.1.step hu, hu.get HB.out.2 (by simp)⟩
            · exact ⟨_, rfl⟩
          iterate 2
            apply headW_val rfl rfl
            · intro K hK w5 hB1
              have HB := Lib.hid hB1
              have c1 := cells_of HB.out.1.t
              have c2 := cells_of HB.out.1.k.h
              have c3 := cells_of HB.out.2
              unfold opCells at c3
              clear hB1
              go_wp2_with fail
              first
              | exact hK _ HB.out
              | exact HB.out
              | exact hK _ ⟨HB.out.1.step hu, hu.get HB.out.2 (by simp)⟩
              | exact ⟨HB.out.1.step hu, hu.get HB.out.2 (by simp)⟩
            · exact ⟨_, rfl⟩
          iterate 1
            apply headW_val rfl rfl
            · intro K hK w5 hB1
              have HB := Lib.hid hB1
              have c1 := cells_of HB.out.1.t
              have c2 := cells_of HB.out.1.k.h
              have c3 := cells_of HB.out.2
              unfold opCells at c3
              clear hB1
              go_wp2_with (go_at_call 128; refine (hmust_ok (M.canF (plus (H.get 10) j) 1 3) _).mono ?_; rintro e w6 ⟨rfl, hu⟩)
              first
              | exact hK _ HB.out
              | exact HB.out
              | exact hK _ ⟨HB.out.1.step hu, hu.get HB.out.2 (by simp)⟩
              | exact ⟨HB.out.1.step hu, hu.get HB.out.2 (by simp)⟩
            · exact ⟨_, rfl⟩
          refine headW_nil (fun _ w7 hB1 => ?_)
          have HB := Lib.hid hB1
          clear hB1
          go_wp2_with fail
          go_roundw
          case rel => exact ⟨j + 1, by omega, by go_num, fun i hi => by
              by_cases e : i = j
              · subst e; exact HK.out
              · exact HC.out i (by omega), HB.out.1⟩
          case measure => simp [intOf]; omega
      · obtain rfl : n = j := by omega
        have hjd : decide ((n : Int) < H.get 11) = false := by rw [hL]; simp
        have ct := cells_of HS.out.t
        have HL := Lib.hid hL
        clear hL
        go_wp2_with (have _t := ct; clear _t; go_at_call 123; refine (answers_any H ab hb a 0 (by decide) _ HS.out.h HS.out.k).mono ?_; rintro e w7 ⟨rfl, h7, hu⟩; have G7 := Lib.hid (And.intro h7 (And.intro (HS.out.m.keep hu (by simpa using fun e => HN.out.2.1 e.symm) (by simpa using fun e => HN.out.2.2.1 e.symm)) (((U0.out.also HS.out.u (by simp)).mono (T := [hb]) (by simp)).also hu (by simp)))); clear h7 hu ct)
        go_end0
        refine .inl ⟨?_, rfl, G7.out.1, G7.out.2.1, G7.out.2.2⟩
        rw [Mem.canRow, List.all_eq_true]
        exact fun i hi => HC.out i (List.mem_range.1 hi)
end Go.Proofs.Ytoplekfnghkkdaa

/-
  Package helper: the deferred recovery of Do; Do, by the contract of what it calls. No condition.
-/
namespace Go.Proofs.Ytoplekfnghkkdaa
open Go Go.RowKit
set_option linter.unusedVariables false
set_option linter.unusedSimpArgs false

set_option maxRecDepth 100000 in
set_option maxHeartbeats 1000000 in
theorem hcaught_panicking (fb kb : Nat) (y0 y1 y2 y3 k0 : Value) (x0 x1 x2 x3 : Int) (older : List PanicEntry) (w : World)
    (hf : w.heap[fb]? = some (.cells #[y0, y1, y2, y3] 49 (0, 0))) (hk : w.heap[kb]? = some (.cells #[k0] 4 (0, 0))) (hne : fb ≠ kb) :
    CallsD Try.prog 58 #[.pointer (some ⟨fb, 0, none⟩), .pointer (some ⟨kb, 0, none⟩)] (.panicking ({ v := .iface 49 (.agg #[.int .i64 x0, .int .u32 x1, .int .u32 x2, .int .i64 x3]), recovered := false } :: older)) w fun e u' w' =>
      e = .returned (.tuple #[]) ∧ u' = .panicking ({ v := .iface 49 (.agg #[.int .i64 x0, .int .u32 x1, .int .u32 x2, .int .i64 x3]), recovered := true } :: older) ∧
        w'.heap[fb]? = some (.cells #[.int .i64 x0, .int .u32 x1, .int .u32 x2, .int .i64 x3] 49 (0, 0)) ∧ w'.heap[kb]? = some (.cells #[.bool false] 4 (0, 0)) ∧ Upd [fb, kb] w w' := by
  refine callsD_of_wpS Try.func58 rfl fun c₀ cs hu => ?_
  simp only [Try.ntmps58, List.size_toArray, List.length_cons, List.length_nil, Nat.reduceAdd, Nat.reduceSub, Array.replicate_succ, Array.replicate_zero, List.push_toArray, List.append_toArray, List.nil_append, List.cons_append]
  apply wpS_seq
  apply wpS_region
  simp [wpOpsS, go_sem, recoverD, hu, Try.ntmps58, Exit.thenS]
  refine wpS_of_wp ?_
  clear hu
  have hfl := lt_of_heap hf
  have hkl := lt_of_heap hk
  have hcf : ∀ o, w.cell? ⟨fb, o, none⟩ = #[y0, y1, y2, y3][o]? := cells_of hf
  have hck : ∀ o, w.cell? ⟨kb, o, none⟩ = #[k0][o]? := cells_of hk
  have hff : ∀ o, w.frozen? ⟨fb, o, none⟩ = false := free_of hf
  have hfk : ∀ o, w.frozen? ⟨kb, o, none⟩ = false := free_of hk
  have HF := Lib.hid hf
  have HK := Lib.hid hk
  clear hf hk
  have hta := assert_fault
  go_wp2_with fail
  refine ⟨rfl, _, rfl, _, results_none rfl _ _ _, rfl, rfl, ?_, ?_, ?_⟩
  · refine heap_alloc_keep _ (heap_set_keep _ hne ?_)
    have h := heap_set_same (heap_set_same (heap_set_same (heap_set_same HF.out 0 (.int .i64 x0)) 1 (.int .u32 x1)) 2 (.int .u32 x2)) 3 (.int .i64 x3)
    exact h
  · refine heap_alloc_keep _ ?_
    have h := heap_set_keep (a := ⟨fb, 3, none⟩) (.int .i64 x3) hne.symm (heap_set_keep (a := ⟨fb, 2, none⟩) (.int .u32 x2) hne.symm (heap_set_keep (a := ⟨fb, 1, none⟩) (.int .u32 x1) hne.symm (heap_set_keep (a := ⟨fb, 0, none⟩) (.int .i64 x0) hne.symm HK.out)))
    exact heap_set_same h 0 (.bool false)
  · exact ((((((Upd.refl _ _).setCell (by simp) _).setCell (by simp) _).setCell (by simp) _).setCell (by simp) _).setCell (by simp) _).alloc _

set_option maxRecDepth 100000 in
set_option maxHeartbeats 1000000 in
theorem hcaught_idle (fb kb : Nat) (w : World) :
    CallsD Try.prog 58 #[.pointer (some ⟨fb, 0, none⟩), .pointer (some ⟨kb, 0, none⟩)] .returning w fun e u' w' => e = .returned (.tuple #[]) ∧ u' = .returning ∧ w = w' := by
  refine callsD_of_wpS Try.func58 rfl fun c₀ cs hu => ?_
  simp only [Try.ntmps58, List.size_toArray, List.length_cons, List.length_nil, Nat.reduceAdd, Nat.reduceSub, Array.replicate_succ, Array.replicate_zero, List.push_toArray, List.append_toArray, List.nil_append, List.cons_append]
  apply wpS_seq
  apply wpS_region
  simp [wpOpsS, go_sem, recoverD, hu, Try.ntmps58, Exit.thenS]
  refine wpS_of_wp ?_
  have HU := Lib.hid hu
  clear hu
  go_wp2_with fail
  refine ⟨rfl, .returning, ?_, _, results_none rfl _ _ _, rfl, rfl, rfl⟩
  rw [← HU.out]

def hDefers (fb kb : Nat) : List Deferred :=
  [{ target := .fn (.func 58) #[.pointer (some ⟨fb, 0, none⟩), .pointer (some ⟨kb, 0, none⟩)], args := #[] }]

theorem hdoor_panic {fn : Func} {tmps : Array Value} {R : Ending → World → Prop} {w1 : World} {fb kb : Nat} {y0 y1 y2 y3 k0 : Value} (F : Flt) (V : Value)
    (hres : ∀ w2, w2.heap[fb]? = some (.cells #[.int .i64 F.k, .int .u32 F.pc, .int .u32 F.a, .int .i64 F.wt] 49 (0, 0)) → w2.heap[kb]? = some (.cells #[.bool false] 4 (0, 0)) → Upd [fb, kb] w1 w2 → (results fn tmps).run Try.prog w2 = .ok V w2)
    (hf : w1.heap[fb]? = some (.cells #[y0, y1, y2, y3] 49 (0, 0))) (hk : w1.heap[kb]? = some (.cells #[k0] 4 (0, 0))) (hne : fb ≠ kb)
    (hR : ∀ w2, Upd [fb, kb] w1 w2 → R (.returned V) w2) :
    Leaves Try.prog fn tmps R (hDefers fb kb) (.panicking [{ v := .iface 49 F.val, recovered := false }]) w1 := by
  refine leaves_cons (f := 58) (args := #[.pointer (some ⟨fb, 0, none⟩), .pointer (some ⟨kb, 0, none⟩)]) (by simp) (by simp [go_sem]) ?_
  refine (hcaught_panicking fb kb _ _ _ _ _ _ _ _ _ [] w1 hf hk hne).mono ?_
  rintro e u' w2 ⟨rfl, rfl, hf, hk, hU⟩
  simp only [settle, List.dropWhile_nil]
  exact ⟨_, hres w2 hf hk hU, hR _ hU⟩

theorem hdoor_ret {fn : Func} {tmps : Array Value} {R : Ending → World → Prop} {w1 : World} {fb kb : Nat} (V : Value) (hres : (results fn tmps).run Try.prog w1 = .ok V w1) (hR : R (.returned V) w1) :
    Leaves Try.prog fn tmps R (hDefers fb kb) .returning w1 := by
  refine leaves_cons (f := 58) (args := #[.pointer (some ⟨fb, 0, none⟩), .pointer (some ⟨kb, 0, none⟩)]) (by simp) (by simp [go_sem]) ?_
  refine (hcaught_idle _ _ w1).mono ?_
  rintro e u' w2 ⟨rfl, rfl, rfl⟩
  simp only [settle]
  exact ⟨_, hres, hR⟩

/-- Where Do stands: its results' variables, the one that asks. -/
structure DoB (w : World) (hb a pb : Nat) (H : Hs) (M : Mem) (w1 : World) : Prop where
  f : w1.heap[w.heap.size]? = some (.cells #[.int .i64 0, .int .u32 0, .int .u32 0, .int .i64 0] 49 (0, 0))
  k : w1.heap[w.heap.size + 1]? = some (.cells #[.bool false] 4 (0, 0))
  s : As w1 (w.heap.size + 1 + 1) hb a pb H M
  u : Upd [] w w1

theorem DoB.start {w : World} {hb a pb : Nat} {H : Hs} {M : Mem} (h : IsHost w hb H) (hm : IsMem w a pb M) (hn : hb ≠ a ∧ hb ≠ pb) :
    DoB w hb a pb H M (((w.alloc (.cells #[.int .i64 0, .int .u32 0, .int .u32 0, .int .i64 0] 49)).alloc (.cells #[.bool false] 4)).alloc (.cells #[.pointer (some ⟨hb, 0, none⟩), .pointer (some ⟨a, 0, none⟩)] 129)) := by
  have u : Upd [] w (((w.alloc (.cells #[.int .i64 0, .int .u32 0, .int .u32 0, .int .i64 0] 49)).alloc (.cells #[.bool false] 4)).alloc (.cells #[.pointer (some ⟨hb, 0, none⟩), .pointer (some ⟨a, 0, none⟩)] 129)) := (((Upd.refl [] w).alloc _).alloc _).alloc _
  have h3 := heap_alloc2_new (w.alloc (.cells #[.int .i64 0, .int .u32 0, .int .u32 0, .int .i64 0] 49)) (.cells #[.bool false] 4) (.cells #[.pointer (some ⟨hb, 0, none⟩), .pointer (some ⟨a, 0, none⟩)] 129)
  have l2 := h.lt
  have l4 := hm.pl
  exact ⟨heap_alloc_keep _ (heap_alloc2_old _ _ _), heap_alloc_keep _ (heap_alloc2_new _ _ _), ⟨⟨by simpa using h3⟩, h.keep u (by simp), hm.keep u (by simp) (by simp), by omega, hn.1, hn.2, by omega⟩, u⟩

set_option maxRecDepth 100000 in
set_option maxHeartbeats 2000000 in
theorem Do_touch_ok (H H' : Hs) (M M' : Mem) (hb a pb : Nat) (w : World) (h : IsHost w hb H) (hm : IsMem w a pb M) (hne : hb ≠ a ∧ hb ≠ pb) (hn : H.get 17 < 9 ∧ H.get 17 ≠ 5 ∧ H.get 17 ≠ 6)
    (hc : ∀ ab w1, As w1 ab hb a pb H M → Calls Try.prog 61 #[.pointer (some ⟨ab, 0, none⟩), .int .u32 (H.get 17)] w1 fun e w' => e = .returned (.tuple #[]) ∧ IsHost w' hb H' ∧ IsMem w' a pb M' ∧ Upd [hb, pb] w1 w') :
    Calls Try.prog 23 #[.pointer (some ⟨hb, 0, none⟩), .pointer (some ⟨a, 0, none⟩)] w fun e w' => e = .returned (.tuple #[Flt.zero.val, .bool true]) ∧ IsHost w' hb H' ∧ IsMem w' a pb M' ∧ Upd [hb, pb] w w' := by
  have HB := Lib.hid (DoB.start h hm hne)
  have HL := Lib.hid (show hb < w.heap.size ∧ a < w.heap.size ∧ pb < w.heap.size from ⟨h.lt, hm.al, hm.pl⟩)
  have e1 : decide (9 ≤ H.get 17) = false := by rw [decide_eq_false_iff_not]; omega
  have e2 : (H.get 17 == 5) = false := by simpa using hn.2.1
  have e3 : (H.get 17 == 6) = false := by simpa using hn.2.2
  clear h hm hne hn
  have tok : True := trivial
  go_enter_defers Try.func23, Try.ntmps23
  go_wp2_with (first | (go_at_call 25; refine (X_any H hb 17 _ HB.out.s.h).mono ?_; rintro e w' ⟨rfl, rfl⟩) | (go_at_call 61; refine (hc (w.heap.size + 1 + 1) _ HB.out.s).mono ?_; rintro e w3 ⟨rfl, h1, h2, h3⟩; have G3 := Lib.hid (And.intro h1 (And.intro h2 (show FkB [hb, pb] w Flt.zero false w3 from ⟨h3.get HB.out.f (by have := HL.out; simp; omega), h3.get HB.out.k (by have := HL.out; simp; omega), (HB.out.u.mono (by simp)).also h3 (by simp)⟩))); clear h1 h2 h3; have cf := cells_of G3.out.2.2.f; have ff := free_of G3.out.2.2.f; have ck := cells_of G3.out.2.2.k; have fk := free_of G3.out.2.2.k))
  have HE := G3.out.2.2.st Flt.zero true
  have hE : Upd [w.heap.size, w.heap.size + 1] w3 (((((w3.setCell ⟨w.heap.size, 0, none⟩ (.int .i64 Flt.zero.k)).setCell ⟨w.heap.size, 0 + 1, none⟩ (.int .u32 Flt.zero.pc)).setCell ⟨w.heap.size, 0 + 2, none⟩ (.int .u32 Flt.zero.a)).setCell ⟨w.heap.size, 0 + 3, none⟩ (.int .i64 Flt.zero.wt)).setCell ⟨w.heap.size + 1, 0, none⟩ (.bool true)) :=
    (Upd_store4 (b := w.heap.size) (Upd.refl _ w3) (.inl (by simp)) _ _ _ _).setCell (.inl (by simp)) _
  refine hdoor_ret (.tuple #[Flt.zero.val, .bool true]) ?_ ⟨rfl, G3.out.1.keep hE (by have := HL.out; simp; omega), G3.out.2.1.keep hE (by have := HL.out; simp; omega) (by have := HL.out; simp; omega), HE.u⟩
  exact results_two' rfl (res_flt 4 w.heap.size Flt.zero rfl HE.f) (res_bool 5 (w.heap.size + 1) true rfl HE.k)

set_option maxRecDepth 100000 in
set_option maxHeartbeats 2000000 in
theorem Do_touch_bad (H : Hs) (M : Mem) (P : Flt → Prop) (S : List Nat) (hb a pb : Nat) (w : World) (h : IsHost w hb H) (hm : IsMem w a pb M) (hne : hb ≠ a ∧ hb ≠ pb) (hn : H.get 17 < 9 ∧ H.get 17 ≠ 5 ∧ H.get 17 ≠ 6) (hS : ∀ x, x ∈ S → x < w.heap.size)
    (hc : ∀ ab w1, As w1 ab hb a pb H M → Calls Try.prog 61 #[.pointer (some ⟨ab, 0, none⟩), .int .u32 (H.get 17)] w1 fun e w' => (∃ F : Flt, P F ∧ e = .panicked [{ v := .iface 49 F.val, recovered := false }]) ∧ Upd S w1 w') :
    Calls Try.prog 23 #[.pointer (some ⟨hb, 0, none⟩), .pointer (some ⟨a, 0, none⟩)] w fun e w' => (∃ F : Flt, P F ∧ e = .returned (.tuple #[F.val, .bool false])) ∧ Upd S w w' := by
  have HB := Lib.hid (DoB.start h hm hne)
  have HS := Lib.hid hS
  have e1 : decide (9 ≤ H.get 17) = false := by rw [decide_eq_false_iff_not]; omega
  have e2 : (H.get 17 == 5) = false := by simpa using hn.2.1
  have e3 : (H.get 17 == 6) = false := by simpa using hn.2.2
  clear h hm hne hn hS
  go_enter_defers Try.func23, Try.ntmps23
  go_wp2_with (first | (go_at_call 25; refine (X_any H hb 17 _ HB.out.s.h).mono ?_; rintro e w' ⟨rfl, rfl⟩) | (go_at_call 61; refine (hc (w.heap.size + 1 + 1) _ HB.out.s).mono ?_; rintro e w3 ⟨⟨F, hF, rfl⟩, h3⟩; have G3 := Lib.hid (And.intro hF (show FkB S w Flt.zero false w3 from ⟨h3.get HB.out.f (fun hx => by have := HS.out _ hx; omega), h3.get HB.out.k (fun hx => by have := HS.out _ hx; omega), (HB.out.u.mono (T := S) (by simp)).also h3 (fun x hx => .inl hx)⟩)); clear h3 hF))
  refine hdoor_panic (fb := w.heap.size) (kb := w.heap.size + 1) F (.tuple #[F.val, .bool false]) (fun w9 hf hk hU => ?_) G3.out.2.f G3.out.2.k (by omega) (fun w9 hU => ?_)
  · exact results_two' rfl (res_flt 4 w.heap.size _ rfl hf) (res_bool 5 (w.heap.size + 1) _ rfl hk)
  · exact ⟨⟨F, G3.out.1, rfl⟩, G3.out.2.u.also hU (by simp <;> omega)⟩

set_option maxRecDepth 100000 in
set_option maxHeartbeats 2000000 in
theorem Do_can_ok (H H' : Hs) (M M' : Mem) (hb a pb : Nat) (w : World) (h : IsHost w hb H) (hm : IsMem w a pb M) (hne : hb ≠ a ∧ hb ≠ pb) (hn : H.get 17 = 14)
    (hc : ∀ ab w1, As w1 ab hb a pb H M → Calls Try.prog 61 #[.pointer (some ⟨ab, 0, none⟩), .int .u32 (H.get 17)] w1 fun e w' => e = .returned (.tuple #[]) ∧ IsHost w' hb H' ∧ IsMem w' a pb M' ∧ Upd [hb, pb] w1 w') :
    Calls Try.prog 23 #[.pointer (some ⟨hb, 0, none⟩), .pointer (some ⟨a, 0, none⟩)] w fun e w' => e = .returned (.tuple #[Flt.zero.val, .bool true]) ∧ IsHost w' hb H' ∧ IsMem w' a pb M' ∧ Upd [hb, pb] w w' := by
  have HB := Lib.hid (DoB.start h hm hne)
  have HL := Lib.hid (show hb < w.heap.size ∧ a < w.heap.size ∧ pb < w.heap.size from ⟨h.lt, hm.al, hm.pl⟩)
  have e1 : decide (9 ≤ H.get 17) = true := by rw [decide_eq_true_eq]; omega
  have e2 : (H.get 17 == 5) = false := by rw [hn]; rfl
  have e3 : (H.get 17 == 6) = false := by rw [hn]; rfl
  have e4 : decide (H.get 17 ≤ 13) = false := by rw [decide_eq_false_iff_not]; omega
  clear h hm hne hn
  have tok : True := trivial
  go_enter_defers Try.func23, Try.ntmps23
  go_wp2_with (first | (go_at_call 25; refine (X_any H hb 17 _ HB.out.s.h).mono ?_; rintro e w' ⟨rfl, rfl⟩) | (go_at_call 61; refine (hc (w.heap.size + 1 + 1) _ HB.out.s).mono ?_; rintro e w3 ⟨rfl, h1, h2, h3⟩; have G3 := Lib.hid (And.intro h1 (And.intro h2 (show FkB [hb, pb] w Flt.zero false w3 from ⟨h3.get HB.out.f (by have := HL.out; simp; omega), h3.get HB.out.k (by have := HL.out; simp; omega), (HB.out.u.mono (by simp)).also h3 (by simp)⟩))); clear h1 h2 h3; have cf := cells_of G3.out.2.2.f; have ff := free_of G3.out.2.2.f; have ck := cells_of G3.out.2.2.k; have fk := free_of G3.out.2.2.k))
  have HE := G3.out.2.2.st Flt.zero true
  have hE : Upd [w.heap.size, w.heap.size + 1] w3 (((((w3.setCell ⟨w.heap.size, 0, none⟩ (.int .i64 Flt.zero.k)).setCell ⟨w.heap.size, 0 + 1, none⟩ (.int .u32 Flt.zero.pc)).setCell ⟨w.heap.size, 0 + 2, none⟩ (.int .u32 Flt.zero.a)).setCell ⟨w.heap.size, 0 + 3, none⟩ (.int .i64 Flt.zero.wt)).setCell ⟨w.heap.size + 1, 0, none⟩ (.bool true)) :=
    (Upd_store4 (b := w.heap.size) (Upd.refl _ w3) (.inl (by simp)) _ _ _ _).setCell (.inl (by simp)) _
  refine hdoor_ret (.tuple #[Flt.zero.val, .bool true]) ?_ ⟨rfl, G3.out.1.keep hE (by have := HL.out; simp; omega), G3.out.2.1.keep hE (by have := HL.out; simp; omega) (by have := HL.out; simp; omega), HE.u⟩
  exact results_two' rfl (res_flt 4 w.heap.size Flt.zero rfl HE.f) (res_bool 5 (w.heap.size + 1) true rfl HE.k)

set_option maxRecDepth 100000 in
set_option maxHeartbeats 2000000 in
theorem Do_can_bad (H : Hs) (M : Mem) (P : Flt → Prop) (S : List Nat) (hb a pb : Nat) (w : World) (h : IsHost w hb H) (hm : IsMem w a pb M) (hne : hb ≠ a ∧ hb ≠ pb) (hn : H.get 17 = 14) (hS : ∀ x, x ∈ S → x < w.heap.size)
    (hc : ∀ ab w1, As w1 ab hb a pb H M → Calls Try.prog 61 #[.pointer (some ⟨ab, 0, none⟩), .int .u32 (H.get 17)] w1 fun e w' => (∃ F : Flt, P F ∧ e = .panicked [{ v := .iface 49 F.val, recovered := false }]) ∧ Upd S w1 w') :
    Calls Try.prog 23 #[.pointer (some ⟨hb, 0, none⟩), .pointer (some ⟨a, 0, none⟩)] w fun e w' => (∃ F : Flt, P F ∧ e = .returned (.tuple #[F.val, .bool false])) ∧ Upd S w w' := by
  have HB := Lib.hid (DoB.start h hm hne)
  have HS := Lib.hid hS
  have e1 : decide (9 ≤ H.get 17) = true := by rw [decide_eq_true_eq]; omega
  have e2 : (H.get 17 == 5) = false := by rw [hn]; rfl
  have e3 : (H.get 17 == 6) = false := by rw [hn]; rfl
  have e4 : decide (H.get 17 ≤ 13) = false := by rw [decide_eq_false_iff_not]; omega
  clear h hm hne hn hS
  go_enter_defers Try.func23, Try.ntmps23
  go_wp2_with (first | (go_at_call 25; refine (X_any H hb 17 _ HB.out.s.h).mono ?_; rintro e w' ⟨rfl, rfl⟩) | (go_at_call 61; refine (hc (w.heap.size + 1 + 1) _ HB.out.s).mono ?_; rintro e w3 ⟨⟨F, hF, rfl⟩, h3⟩; have G3 := Lib.hid (And.intro hF (show FkB S w Flt.zero false w3 from ⟨h3.get HB.out.f (fun hx => by have := HS.out _ hx; omega), h3.get HB.out.k (fun hx => by have := HS.out _ hx; omega), (HB.out.u.mono (T := S) (by simp)).also h3 (fun x hx => .inl hx)⟩)); clear h3 hF))
  refine hdoor_panic (fb := w.heap.size) (kb := w.heap.size + 1) F (.tuple #[F.val, .bool false]) (fun w9 hf hk hU => ?_) G3.out.2.f G3.out.2.k (by omega) (fun w9 hU => ?_)
  · exact results_two' rfl (res_flt 4 w.heap.size _ rfl hf) (res_bool 5 (w.heap.size + 1) _ rfl hk)
  · exact ⟨⟨F, G3.out.1, rfl⟩, G3.out.2.u.also hU (by simp <;> omega)⟩

set_option maxRecDepth 100000 in
set_option maxHeartbeats 2000000 in
theorem Do_div_ok (H H' : Hs) (M M' : Mem) (hb a pb : Nat) (w : World) (h : IsHost w hb H) (hm : IsMem w a pb M) (hne : hb ≠ a ∧ hb ≠ pb) (hn : H.get 17 = 5)
    (hc : ∀ ab w1, As w1 ab hb a pb H M → Calls Try.prog 60 #[.pointer (some ⟨ab, 0, none⟩), .int .u32 (H.get 17)] w1 fun e w' => e = .returned (.tuple #[]) ∧ IsHost w' hb H' ∧ IsMem w' a pb M' ∧ Upd [hb, pb] w1 w') :
    Calls Try.prog 23 #[.pointer (some ⟨hb, 0, none⟩), .pointer (some ⟨a, 0, none⟩)] w fun e w' => e = .returned (.tuple #[Flt.zero.val, .bool true]) ∧ IsHost w' hb H' ∧ IsMem w' a pb M' ∧ Upd [hb, pb] w w' := by
  have HB := Lib.hid (DoB.start h hm hne)
  have HL := Lib.hid (show hb < w.heap.size ∧ a < w.heap.size ∧ pb < w.heap.size from ⟨h.lt, hm.al, hm.pl⟩)
  have e1 : decide (9 ≤ H.get 17) = false := by rw [decide_eq_false_iff_not]; omega
  have e2 : (H.get 17 == 5) = true := by rw [hn]; rfl
  clear h hm hne hn
  have tok : True := trivial
  go_enter_defers Try.func23, Try.ntmps23
  go_wp2_with (first | (go_at_call 25; refine (X_any H hb 17 _ HB.out.s.h).mono ?_; rintro e w' ⟨rfl, rfl⟩) | (go_at_call 60; refine (hc (w.heap.size + 1 + 1) _ HB.out.s).mono ?_; rintro e w3 ⟨rfl, h1, h2, h3⟩; have G3 := Lib.hid (And.intro h1 (And.intro h2 (show FkB [hb, pb] w Flt.zero false w3 from ⟨h3.get HB.out.f (by have := HL.out; simp; omega), h3.get HB.out.k (by have := HL.out; simp; omega), (HB.out.u.mono (by simp)).also h3 (by simp)⟩))); clear h1 h2 h3; have cf := cells_of G3.out.2.2.f; have ff := free_of G3.out.2.2.f; have ck := cells_of G3.out.2.2.k; have fk := free_of G3.out.2.2.k))
  have HE := G3.out.2.2.st Flt.zero true
  have hE : Upd [w.heap.size, w.heap.size + 1] w3 (((((w3.setCell ⟨w.heap.size, 0, none⟩ (.int .i64 Flt.zero.k)).setCell ⟨w.heap.size, 0 + 1, none⟩ (.int .u32 Flt.zero.pc)).setCell ⟨w.heap.size, 0 + 2, none⟩ (.int .u32 Flt.zero.a)).setCell ⟨w.heap.size, 0 + 3, none⟩ (.int .i64 Flt.zero.wt)).setCell ⟨w.heap.size + 1, 0, none⟩ (.bool true)) :=
    (Upd_store4 (b := w.heap.size) (Upd.refl _ w3) (.inl (by simp)) _ _ _ _).setCell (.inl (by simp)) _
  refine hdoor_ret (.tuple #[Flt.zero.val, .bool true]) ?_ ⟨rfl, G3.out.1.keep hE (by have := HL.out; simp; omega), G3.out.2.1.keep hE (by have := HL.out; simp; omega) (by have := HL.out; simp; omega), HE.u⟩
  exact results_two' rfl (res_flt 4 w.heap.size Flt.zero rfl HE.f) (res_bool 5 (w.heap.size + 1) true rfl HE.k)

set_option maxRecDepth 100000 in
set_option maxHeartbeats 2000000 in
theorem Do_div_bad (H : Hs) (M : Mem) (P : Flt → Prop) (S : List Nat) (hb a pb : Nat) (w : World) (h : IsHost w hb H) (hm : IsMem w a pb M) (hne : hb ≠ a ∧ hb ≠ pb) (hn : H.get 17 = 5) (hS : ∀ x, x ∈ S → x < w.heap.size)
    (hc : ∀ ab w1, As w1 ab hb a pb H M → Calls Try.prog 60 #[.pointer (some ⟨ab, 0, none⟩), .int .u32 (H.get 17)] w1 fun e w' => (∃ F : Flt, P F ∧ e = .panicked [{ v := .iface 49 F.val, recovered := false }]) ∧ Upd S w1 w') :
    Calls Try.prog 23 #[.pointer (some ⟨hb, 0, none⟩), .pointer (some ⟨a, 0, none⟩)] w fun e w' => (∃ F : Flt, P F ∧ e = .returned (.tuple #[F.val, .bool false])) ∧ Upd S w w' := by
  have HB := Lib.hid (DoB.start h hm hne)
  have HS := Lib.hid hS
  have e1 : decide (9 ≤ H.get 17) = false := by rw [decide_eq_false_iff_not]; omega
  have e2 : (H.get 17 == 5) = true := by rw [hn]; rfl
  clear h hm hne hn hS
  go_enter_defers Try.func23, Try.ntmps23
  go_wp2_with (first | (go_at_call 25; refine (X_any H hb 17 _ HB.out.s.h).mono ?_; rintro e w' ⟨rfl, rfl⟩) | (go_at_call 60; refine (hc (w.heap.size + 1 + 1) _ HB.out.s).mono ?_; rintro e w3 ⟨⟨F, hF, rfl⟩, h3⟩; have G3 := Lib.hid (And.intro hF (show FkB S w Flt.zero false w3 from ⟨h3.get HB.out.f (fun hx => by have := HS.out _ hx; omega), h3.get HB.out.k (fun hx => by have := HS.out _ hx; omega), (HB.out.u.mono (T := S) (by simp)).also h3 (fun x hx => .inl hx)⟩)); clear h3 hF))
  refine hdoor_panic (fb := w.heap.size) (kb := w.heap.size + 1) F (.tuple #[F.val, .bool false]) (fun w9 hf hk hU => ?_) G3.out.2.f G3.out.2.k (by omega) (fun w9 hU => ?_)
  · exact results_two' rfl (res_flt 4 w.heap.size _ rfl hf) (res_bool 5 (w.heap.size + 1) _ rfl hk)
  · exact ⟨⟨F, G3.out.1, rfl⟩, G3.out.2.u.also hU (by simp <;> omega)⟩

set_option maxRecDepth 100000 in
set_option maxHeartbeats 2000000 in
theorem Do_reck_ok (H H' : Hs) (M M' : Mem) (hb a pb : Nat) (w : World) (h : IsHost w hb H) (hm : IsMem w a pb M) (hne : hb ≠ a ∧ hb ≠ pb) (hn : 9 ≤ H.get 17 ∧ H.get 17 ≤ 13)
    (hc : ∀ ab w1, As w1 ab hb a pb H M → Calls Try.prog 59 #[.pointer (some ⟨ab, 0, none⟩), .int .u32 (H.get 17)] w1 fun e w' => e = .returned (.tuple #[]) ∧ IsHost w' hb H' ∧ IsMem w' a pb M' ∧ Upd [hb, pb] w1 w') :
    Calls Try.prog 23 #[.pointer (some ⟨hb, 0, none⟩), .pointer (some ⟨a, 0, none⟩)] w fun e w' => e = .returned (.tuple #[Flt.zero.val, .bool true]) ∧ IsHost w' hb H' ∧ IsMem w' a pb M' ∧ Upd [hb, pb] w w' := by
  have HB := Lib.hid (DoB.start h hm hne)
  have HL := Lib.hid (show hb < w.heap.size ∧ a < w.heap.size ∧ pb < w.heap.size from ⟨h.lt, hm.al, hm.pl⟩)
  have e4 : decide (9 ≤ H.get 17) = true := by rw [decide_eq_true_eq]; exact hn.1
  have e5 : decide (H.get 17 ≤ 13) = true := by rw [decide_eq_true_eq]; exact hn.2
  clear h hm hne hn
  have tok : True := trivial
  go_enter_defers Try.func23, Try.ntmps23
  go_wp2_with (first | (go_at_call 25; refine (X_any H hb 17 _ HB.out.s.h).mono ?_; rintro e w' ⟨rfl, rfl⟩) | (go_at_call 59; refine (hc (w.heap.size + 1 + 1) _ HB.out.s).mono ?_; rintro e w3 ⟨rfl, h1, h2, h3⟩; have G3 := Lib.hid (And.intro h1 (And.intro h2 (show FkB [hb, pb] w Flt.zero false w3 from ⟨h3.get HB.out.f (by have := HL.out; simp; omega), h3.get HB.out.k (by have := HL.out; simp; omega), (HB.out.u.mono (by simp)).also h3 (by simp)⟩))); clear h1 h2 h3; have cf := cells_of G3.out.2.2.f; have ff := free_of G3.out.2.2.f; have ck := cells_of G3.out.2.2.k; have fk := free_of G3.out.2.2.k))
  have HE := G3.out.2.2.st Flt.zero true
  have hE : Upd [w.heap.size, w.heap.size + 1] w3 (((((w3.setCell ⟨w.heap.size, 0, none⟩ (.int .i64 Flt.zero.k)).setCell ⟨w.heap.size, 0 + 1, none⟩ (.int .u32 Flt.zero.pc)).setCell ⟨w.heap.size, 0 + 2, none⟩ (.int .u32 Flt.zero.a)).setCell ⟨w.heap.size, 0 + 3, none⟩ (.int .i64 Flt.zero.wt)).setCell ⟨w.heap.size + 1, 0, none⟩ (.bool true)) :=
    (Upd_store4 (b := w.heap.size) (Upd.refl _ w3) (.inl (by simp)) _ _ _ _).setCell (.inl (by simp)) _
  refine hdoor_ret (.tuple #[Flt.zero.val, .bool true]) ?_ ⟨rfl, G3.out.1.keep hE (by have := HL.out; simp; omega), G3.out.2.1.keep hE (by have := HL.out; simp; omega) (by have := HL.out; simp; omega), HE.u⟩
  exact results_two' rfl (res_flt 4 w.heap.size Flt.zero rfl HE.f) (res_bool 5 (w.heap.size + 1) true rfl HE.k)

set_option maxRecDepth 100000 in
set_option maxHeartbeats 2000000 in
theorem Do_reck_bad (H : Hs) (M : Mem) (P : Flt → Prop) (S : List Nat) (hb a pb : Nat) (w : World) (h : IsHost w hb H) (hm : IsMem w a pb M) (hne : hb ≠ a ∧ hb ≠ pb) (hn : 9 ≤ H.get 17 ∧ H.get 17 ≤ 13) (hS : ∀ x, x ∈ S → x < w.heap.size)
    (hc : ∀ ab w1, As w1 ab hb a pb H M → Calls Try.prog 59 #[.pointer (some ⟨ab, 0, none⟩), .int .u32 (H.get 17)] w1 fun e w' => (∃ F : Flt, P F ∧ e = .panicked [{ v := .iface 49 F.val, recovered := false }]) ∧ Upd S w1 w') :
    Calls Try.prog 23 #[.pointer (some ⟨hb, 0, none⟩), .pointer (some ⟨a, 0, none⟩)] w fun e w' => (∃ F : Flt, P F ∧ e = .returned (.tuple #[F.val, .bool false])) ∧ Upd S w w' := by
  have HB := Lib.hid (DoB.start h hm hne)
  have HS := Lib.hid hS
  have e4 : decide (9 ≤ H.get 17) = true := by rw [decide_eq_true_eq]; exact hn.1
  have e5 : decide (H.get 17 ≤ 13) = true := by rw [decide_eq_true_eq]; exact hn.2
  clear h hm hne hn hS
  go_enter_defers Try.func23, Try.ntmps23
  go_wp2_with (first | (go_at_call 25; refine (X_any H hb 17 _ HB.out.s.h).mono ?_; rintro e w' ⟨rfl, rfl⟩) | (go_at_call 59; refine (hc (w.heap.size + 1 + 1) _ HB.out.s).mono ?_; rintro e w3 ⟨⟨F, hF, rfl⟩, h3⟩; have G3 := Lib.hid (And.intro hF (show FkB S w Flt.zero false w3 from ⟨h3.get HB.out.f (fun hx => by have := HS.out _ hx; omega), h3.get HB.out.k (fun hx => by have := HS.out _ hx; omega), (HB.out.u.mono (T := S) (by simp)).also h3 (fun x hx => .inl hx)⟩)); clear h3 hF))
  refine hdoor_panic (fb := w.heap.size) (kb := w.heap.size + 1) F (.tuple #[F.val, .bool false]) (fun w9 hf hk hU => ?_) G3.out.2.f G3.out.2.k (by omega) (fun w9 hU => ?_)
  · exact results_two' rfl (res_flt 4 w.heap.size _ rfl hf) (res_bool 5 (w.heap.size + 1) _ rfl hk)
  · exact ⟨⟨F, G3.out.1, rfl⟩, G3.out.2.u.also hU (by simp <;> omega)⟩
end Go.Proofs.Ytoplekfnghkkdaa

/-
  The laws of layer 20: one call asked, by the contract of Do. No condition.
-/
namespace Go.Proofs.Ytoplekfnghkkdaa
open Go Go.RowKit
set_option linter.unusedVariables false
set_option linter.unusedSimpArgs false

def Hs.ask (H : Hs) (n x y z t : Int) : Hs := ((((H.put 17 n).put 10 x).put 11 y).put 12 z).put 13 t

theorem Hs.ask_get (H : Hs) (n x y z t : Int) : (H.ask n x y z t).get 17 = n ∧ (H.ask n x y z t).get 10 = x ∧ (H.ask n x y z t).get 11 = y ∧ (H.ask n x y z t).get 12 = z ∧ (H.ask n x y z t).get 13 = t := by
  refine ⟨?_, ?_, ?_, ?_, ?_⟩ <;> simp [Hs.ask, Hs.put, Hs.get, Hs.set]

theorem Hs.put_get (H : Hs) (i j v : Int) (hi : 1 ≤ i ∧ i < 32) (hj : 1 ≤ j ∧ j < 32) : (H.put i v).get j = if j = i then v else H.get j := by
  have hi' : ¬ (i < 1 ∨ 32 ≤ i) := by omega
  have hj' : ¬ (j < 1 ∨ 32 ≤ j) := by omega
  simp only [Hs.put, Hs.get, if_neg hi', if_neg hj', Hs.set]
  by_cases h : j = i
  · subst h; rw [if_pos rfl, if_pos rfl]
  · rw [if_neg (by omega), if_neg h]

end Go.Proofs.Ytoplekfnghkkdaa
