/-
  Package helper: touches: a number read; whether bytes can be: by contracts. No condition.
-/
import Derived.Test.YtncafchgdgmeaaaHpD
import Derived.Test.YtncafchgdgmeaaaStN
namespace Go.Proofs.Ytncafchgdgmeaaa
open Go Go.RowKit
set_option linter.unusedVariables false
set_option linter.unusedSimpArgs false

set_option maxRecDepth 100000 in
set_option maxHeartbeats 4000000 in
theorem touch_number_ok (H : Hs) (M : Mem) (ab hb a pb : Nat) (w : World) (h : As w ab hb a pb H M) (hk : M.rd8K (H.get 10) = true) :
    Calls Try.prog 85 #[.pointer (some ⟨ab, 0, none⟩), .int .u32 7] w fun e w' => e = .returned (.tuple #[]) ∧ IsHost w' hb ((H.put 10 (M.rd8V (H.get 10) % 4294967296)).put 11 (M.rd8V (H.get 10) / 4294967296)) ∧ IsMem w' a pb (M) ∧ Upd [hb, pb] w w' := by
  have hmo : Try.prog.follows .mixedOrders = true := by kernel_rfl
  have u0 : Upd [] w (w.alloc (.cells #[.pointer (some ⟨ab, 0, none⟩)] 137)) := (Upd.refl [] w).alloc _
  have S0 := Lib.hid h.start
  have U0 := Lib.hid u0
  have G0 := Lib.hid (Hs.get_range h.h 10)
  have HN := Lib.hid h.n
  have HK := Lib.hid hk
  have GV := Lib.hid (show 0 ≤ M.rd8V (H.get 10) ∧ M.rd8V (H.get 10) < 18446744073709551616 by
    have g1 := readV_range h.m (H.get 10) 4 1
    have g2 := readV_range h.m (plus (H.get 10) 4) 4 1
    unfold Mem.rd8V
    split <;> omega)
  clear h hk u0
  go_enter Try.func85, Try.ntmps85
  go_wp2_with fail
  refine wp_drawE 15 (HpD (w.alloc (.cells #[.pointer (some ⟨ab, 0, none⟩)] 137)) w.heap.size ab hb a pb H M (M.rd8F (H.get 10)) 11 13) (fun _ _ => False) (by kernel_rfl) (by decide +kernel) (fun r0 => HpD.start (S0.out.step (Upd.refl [] _).drew) (by decide) r0) (fun _ _ _ h => h.elim) ?_
  simp only [List.take_succ_cons, List.take_zero, List.drop_succ_cons, List.drop_zero]
  iterate 5
    apply headE_val0 rfl rfl
    · intro d r0 K hd hdep hK w5 hB1
      have HB := Lib.hid hB1
      have c1 := cells_of HB.out.b.t
      have c2 := cells_of HB.out.b.k.h
      clear hB1 hdep
      go_wp2_with fail
      first
      | exact hK _ (HB.out.same _ (by decide) (by decide))
      | exact HB.out.same _ (by decide) (by decide)
      | exact hK _ (HB.out.quiet hu _ (by decide) (by decide))
      | exact HB.out.quiet hu _ (by decide) (by decide)
    · exact ⟨_, rfl⟩
  iterate 1
    apply headE_val0 rfl rfl
    · intro d r0 K hd hdep hK w5 hB1
      have HB := Lib.hid hB1
      have c1 := cells_of HB.out.b.t
      have c2 := cells_of HB.out.b.k.h
      clear hB1 hdep
      go_wp2_with (go_at_call 110; refine (arg_any H ab hb a 0 (by decide) _ HB.out.b.h HB.out.b.k).mono ?_; rintro e w' ⟨rfl, rfl⟩)
      first
      | exact hK _ (HB.out.same _ (by decide) (by decide))
      | exact HB.out.same _ (by decide) (by decide)
      | exact hK _ (HB.out.quiet hu _ (by decide) (by decide))
      | exact HB.out.quiet hu _ (by decide) (by decide)
    · exact ⟨_, rfl⟩
  iterate 1
    apply headE_val0 rfl rfl
    · intro d r0 K hd hdep hK w5 hB1
      have HB := Lib.hid hB1
      have c1 := cells_of HB.out.b.t
      have c2 := cells_of HB.out.b.k.h
      clear hB1 hdep
      go_wp2_with (go_at_call 40; refine (Read8_any M a pb (H.get 10) _ HB.out.b.m G0.out.1 G0.out.2).mono ?_; rintro e w6 ⟨rfl, hu⟩; rw [HK.out])
      first
      | exact hK _ (HB.out.same _ (by decide) (by decide))
      | exact HB.out.same _ (by decide) (by decide)
      | exact hK _ (HB.out.quiet hu _ (by decide) (by decide))
      | exact HB.out.quiet hu _ (by decide) (by decide)
    · exact ⟨_, rfl⟩
  iterate 4
    apply headE_val0 rfl rfl
    · intro d r0 K hd hdep hK w5 hB1
      have HB := Lib.hid hB1
      have c1 := cells_of HB.out.b.t
      have c2 := cells_of HB.out.b.k.h
      clear hB1 hdep
      go_wp2_with fail
      first
      | exact hK _ (HB.out.same _ (by decide) (by decide))
      | exact HB.out.same _ (by decide) (by decide)
      | exact hK _ (HB.out.quiet hu _ (by decide) (by decide))
      | exact HB.out.quiet hu _ (by decide) (by decide)
    · exact ⟨_, rfl⟩
  refine headE_free rfl (fun _ => rfl) 6 rfl (by simp [Act.put]) ?_ ?_
  · intro d r0 K hd w5 hB1 hK
    have HB := Lib.hid hB1
    clear hB1
    simp only [fillE]
    go_wp2_with fail
    first
    | exact hK (.pointer (some ⟨w5.heap.size, 0, none⟩)) _ (HB.out.lay hd)
    | exact HB.out.lay hd
  iterate 1
    apply headE_val rfl (fun _ => rfl)
    · intro d r0 K hd hdep hK w5 hB1
      have HB := Lib.hid hB1
      have c1 := cells_of HB.out.b.t
      have c2 := cells_of HB.out.b.k.h
      clear hB1 hdep
      simp only [fillE]
      go_wp2_with fail
      first
      | exact hK _ (HB.out.same _ (by decide) (by decide))
      | exact HB.out.same _ (by decide) (by decide)
      | exact hK _ (HB.out.quiet hu _ (by decide) (by decide))
      | exact HB.out.quiet hu _ (by decide) (by decide)
    · exact ⟨_, fun _ => rfl, rfl⟩
  apply headE_val rfl (fun _ => rfl)
  · intro d r0 K hd hdep hK w5 hB1
    have h8 : d 11 = true := hdep ⟨11, .data⟩ (by simp) rfl
    obtain ⟨g, Z, e1, e2, e3, e4⟩ := hB1.x h8
    refine wp_store_flt (M.rd8F (H.get 10)) Z g _ _ rfl (by show r0 11 = _; exact e1) rfl e3 ?_
    exact hK _ (hB1.store h8 e1 e2 e3)
  · exact ⟨_, fun _ => rfl, rfl⟩
  iterate 1
    apply headE_val rfl (fun _ => rfl)
    · intro d r0 K hd hdep hK w5 hB1
      have HB := Lib.hid hB1
      have c1 := cells_of HB.out.b.t
      have c2 := cells_of HB.out.b.k.h
      clear hB1 hdep
      simp only [fillE]
      go_wp2_with fail
      first
      | exact hK _ (HB.out.same _ (by decide) (by decide))
      | exact HB.out.same _ (by decide) (by decide)
      | exact hK _ (HB.out.quiet hu _ (by decide) (by decide))
      | exact HB.out.quiet hu _ (by decide) (by decide)
    · exact ⟨_, fun _ => rfl, rfl⟩
  refine headE_nil (fun _ r0 w5 d hall hB1 => ?_)
  obtain ⟨g5, e1, hG⟩ := hB1.fin (hall 11 (by decide)) (hall 13 (by decide))
  have G5 := Lib.hid (And.intro hB1.b hG)
  show wpList _ _ _ _ (Act.put (fillE _ _ [] _) (some 6) (r0 11)) _
  rw [e1]
  simp only [fillE]
  clear hG e1 hall hB1
  have cf := cells_of G5.out.2
  unfold fltC at cf
  have ct := cells_of G5.out.1.t
  go_wp2_with (first | (have _t := G5; clear _t; go_at_call 111; refine (hmust_ok (M.rd8F (H.get 10)) _).mono ?_; rintro e w6 ⟨rfl, hu⟩; have G6 := Lib.hid (G5.out.1.step hu); clear hu G5 cf ct; have ct := cells_of G6.out.t) | (have _t := G6; clear _t; go_at_call 101; refine (number_any H ab hb a _ GV.out _ G6.out.h G6.out.k HN.out.1).mono ?_; rintro e w7 ⟨rfl, h7, hu⟩; have G7 := Lib.hid (And.intro h7 (And.intro (G6.out.m.keep hu (by simpa using fun e => HN.out.2.1 e.symm) (by simpa using fun e => HN.out.2.2.1 e.symm)) (((U0.out.also G6.out.u (by simp)).mono (T := [hb]) (by simp)).also hu (by simp)))); clear h7 hu G6))
  go_end0
  exact ⟨rfl, G7.out.1, G7.out.2.1, G7.out.2.2.mono (by simp)⟩

/-- Whether so many bytes can be read and written, from a place on. -/
def Mem.canRow (M : Mem) (x : Int) (n : Nat) : Bool := (List.range n).all fun i => M.canK (plus x i) 1 3

theorem canK1_place (M : Mem) (y : Int) (hy : 0 ≤ y ∧ y < 4294967296) : opCanK M St.zero ⟨3, 0, y, -1, -1, 1⟩ 1 3 = M.canK y 1 3 ∧ opCanF M St.zero ⟨3, 0, y, -1, -1, 1⟩ 1 3 = M.canF y 1 3 := by
  have hp := op_place0 St.zero y hy.1 hy.2
  unfold opCanK opCanF
  rw [if_pos rfl, if_pos rfl, hp]
  exact ⟨rfl, rfl⟩

set_option maxRecDepth 100000 in
set_option maxHeartbeats 4000000 in
theorem touch_can (H : Hs) (M : Mem) (ab hb a pb : Nat) (w : World) (h : As w ab hb a pb H M) :
    Calls Try.prog 85 #[.pointer (some ⟨ab, 0, none⟩), .int .u32 14] w fun e w' => (M.canRow (H.get 10) (min (H.get 11) 16).toNat = true ∧ e = .returned (.tuple #[]) ∧ IsHost w' hb (H.put 10 0) ∧ IsMem w' a pb M ∧ Upd [hb] w w') ∨ (M.canRow (H.get 10) (min (H.get 11) 16).toNat = false ∧ (∃ F : Flt, e = .panicked [{ v := .iface 32 F.val, recovered := false }]) ∧ Upd [] w w') := by
  have hmo : Try.prog.follows .mixedOrders = true := by kernel_rfl
  have u0 : Upd [] w (w.alloc (.cells #[.pointer (some ⟨ab, 0, none⟩)] 137)) := (Upd.refl [] w).alloc _
  have S0 := Lib.hid h.start
  have U0 := Lib.hid u0
  have G0 := Lib.hid (Hs.get_range h.h 10)
  have HN := Lib.hid h.n
  have G1 := Lib.hid (Hs.get_range h.h 11)
  obtain ⟨n, hn⟩ : ∃ n : Nat, min (H.get 11) 16 = n := ⟨(min (H.get 11) 16).toNat, by have := G1.out; omega⟩
  have hn16 : n ≤ 16 := by have := G1.out; omega
  have hnn : (min (H.get 11) 16).toNat = n := by omega
  rw [hnn]
  clear h u0 hnn
  go_enter Try.func85, Try.ntmps85
  have ct := cells_of S0.out.t
  go_wp2_with (have _t := ct; clear _t; go_at_call 110; refine (arg_any H ab hb a 1 (by decide) _ S0.out.h S0.out.k).mono ?_; rintro e w' ⟨rfl, rfl⟩; clear ct)
  · have hL : 16 = (n : Int) := by omega
    clear hn h
    go_loopw [86] (fun t wl => ∃ j : Nat, j ≤ n ∧ t = .int .u32 j ∧ (∀ i, i < j → M.canK (plus (H.get 10) i) 1 3 = true) ∧ HpS (w.alloc (.cells #[.pointer (some ⟨ab, 0, none⟩)] 137)) w.heap.size ab hb a pb H M wl) (fun t wl => n - (intOf t).toNat)
    case atStart => exact ⟨0, Nat.zero_le _, rfl, fun _ h => absurd h (by omega), S0.out⟩
    case round =>
      obtain ⟨j, hj, rfl, hc, hS⟩ := hrel
      have HC := Lib.hid hc
      have HS := Lib.hid hS
      clear hc hS
      by_cases hlt : j < n
      · have hjd : decide ((j : Int) < 16) = true := by rw [hL]; simpa using hlt
        have q2 : (H.get 10 + j) % 4294967296 = plus (H.get 10) j := rfl
        have HL := Lib.hid hL
        have HP := Lib.hid (show 0 ≤ plus (H.get 10) j ∧ plus (H.get 10) j < 4294967296 by unfold plus; omega)
        have ct := cells_of HS.out.t
        clear hL
        go_wp2_with (have _t := ct; clear _t; go_at_call 110; refine (arg_any H ab hb a 0 (by decide) _ HS.out.h HS.out.k).mono ?_; rintro e w' ⟨rfl, rfl⟩; clear ct)
        have CP := Lib.hid (canK1_place M _ HP.out)
        have B0 := Lib.hid (show HpS (w.alloc (.cells #[.pointer (some ⟨ab, 0, none⟩)] 137)) w.heap.size ab hb a pb H M (wr.alloc (.cells (opCells ⟨3, 0, plus (H.get 10) j, -1, -1, 1⟩) 68)) ∧ (wr.alloc (.cells (opCells ⟨3, 0, plus (H.get 10) j, -1, -1, 1⟩) 68)).heap[wr.heap.size]? = some (.cells (opCells ⟨3, 0, plus (H.get 10) j, -1, -1, 1⟩) 68 (0, 0)) from ⟨HS.out.step ((Upd.refl [] wr).alloc _), heap_alloc_new _ _⟩)
        cases hk : M.canK (plus (H.get 10) j) 1 3
        · have HK := Lib.hid hk
          clear hk
          refine wp_draw 10 (fun w5 => HpS (w.alloc (.cells #[.pointer (some ⟨ab, 0, none⟩)] 137)) w.heap.size ab hb a pb H M w5 ∧ w5.heap[wr.heap.size]? = some (.cells (opCells ⟨3, 0, plus (H.get 10) j, -1, -1, 1⟩) 68 (0, 0))) (fun c w5 => (∃ F : Flt, c = [{ v := .iface 32 F.val, recovered := false }]) ∧ Upd [] (w.alloc (.cells #[.pointer (some ⟨ab, 0, none⟩)] 137)) w5) (by kernel_rfl) (by decide +kernel) ⟨B0.out.1.step (Upd.refl [] _).drew, B0.out.2⟩ ?_ ?_
          · rintro c a' w' ⟨⟨F, rfl⟩, h2⟩ hd _ _
            refine ⟨hd, .inr ⟨?_, ⟨F, rfl⟩, U0.out.also h2 (by simp)⟩⟩
            rw [Mem.canRow, List.all_eq_false]
            exact ⟨j, List.mem_range.2 hlt, by rw [HK.out]; simp⟩
          simp only [List.take_succ_cons, List.take_zero, List.drop_succ_cons, List.drop_zero]
          iterate 6
            apply headW_val rfl rfl
            · intro K hK w5 hB1
              have HB := Lib.hid hB1
              have c1 := cells_of HB.out.1.t
              have c2 := cells_of HB.out.1.k.h
              have c3 := cells_of HB.out.2
              unfold opCells at c3
              clear hB1
              go_wp2_with fail
              first
              | exact hK _ HB.out
              | exact HB.out
              | exact hK _ ⟨HB.out.1.step hu, hu.get HB.out.2 (by simp)⟩
              | exact ⟨HB.out.1.step hu, hu.get HB.out.2 (by simp)⟩
            · exact ⟨_, rfl⟩
          iterate 1
            apply headW_val rfl rfl
            · intro K hK w5 hB1
              have HB := Lib.hid hB1
              have c1 := cells_of HB.out.1.t
              have c2 := cells_of HB.out.1.k.h
              have c3 := cells_of HB.out.2
              unfold opCells at c3
              clear hB1
              go_wp2_with (go_at_call 34; refine (opCan_any M a pb St.zero ⟨3, 0, plus (H.get 10) j, -1, -1, 1⟩ 1 3 _ HB.out.1.m).mono ?_; rintro e w6 ⟨rfl, hu⟩; rw [CP.out.1, CP.out.2, HK.out])
              first
              | exact hK _ HB.out
              | exact HB.out
              | exact hK _ ⟨HB.out.1.step hu, hu.get HB.out.2 (by simp)⟩
              | exact ⟨HB.out.1.step hu, hu.get HB.out.2 (by simp)⟩
            · exact ⟨_, rfl⟩
          iterate 2
            apply headW_val rfl rfl
            · intro K hK w5 hB1
              have HB := Lib.hid hB1
              have c1 := cells_of HB.out.1.t
              have c2 := cells_of HB.out.1.k.h
              have c3 := cells_of HB.out.2
              unfold opCells at c3
              clear hB1
              go_wp2_with fail
              first
              | exact hK _ HB.out
              | exact HB.out
              | exact hK _ ⟨HB.out.1.step hu, hu.get HB.out.2 (by simp)⟩
              | exact ⟨HB.out.1.step hu, hu.get HB.out.2 (by simp)⟩
            · exact ⟨_, rfl⟩
          refine headW_dies rfl rfl ?_ ?_
          · intro w5 hB1
            have HB := Lib.hid hB1
            clear hB1
            go_wp2_with (go_at_call 111; refine (hmust_bad (M.canF (plus (H.get 10) j) 1 3) _).mono ?_; rintro e w6 ⟨rfl, hu⟩)
            exact ⟨⟨_, rfl⟩, HB.out.1.u.also hu (by simp)⟩
          refine headW_nil (fun hdead => by cases hdead)
        · have HK := Lib.hid hk
          clear hk
          refine wp_draw 10 (fun w5 => HpS (w.alloc (.cells #[.pointer (some ⟨ab, 0, none⟩)] 137)) w.heap.size ab hb a pb H M w5 ∧ w5.heap[wr.heap.size]? = some (.cells (opCells ⟨3, 0, plus (H.get 10) j, -1, -1, 1⟩) 68 (0, 0))) (fun _ _ => False) (by kernel_rfl) (by decide +kernel) ⟨B0.out.1.step (Upd.refl [] _).drew, B0.out.2⟩ (fun _ _ _ h => h.elim) ?_
          simp only [List.take_succ_cons, List.take_zero, List.drop_succ_cons, List.drop_zero]
          iterate 6
            apply headW_val rfl rfl
            · intro K hK w5 hB1
              have HB := Lib.hid hB1
              have c1 := cells_of HB.out.1.t
              have c2 := cells_of HB.out.1.k.h
              have c3 := cells_of HB.out.2
              unfold opCells at c3
              clear hB1
              go_wp2_with fail
              first
              | exact hK _ HB.out
              | exact HB.out
              | exact hK _ ⟨HB.out.1.step hu, hu.get HB.out.2 (by simp)⟩
              | exact ⟨HB.out.1.step hu, hu.get HB.out.2 (by simp)⟩
            · exact ⟨_, rfl⟩
          iterate 1
            apply headW_val rfl rfl
            · intro K hK w5 hB1
              have HB := Lib.hid hB1
              have c1 := cells_of HB.out.1.t
              have c2 := cells_of HB.out.1.k.h
              have c3 := cells_of HB.out.2
              unfold opCells at c3
              clear hB1
              go_wp2_with (go_at_call 34; refine (opCan_any M a pb St.zero ⟨3, 0, plus (H.get 10) j, -1, -1, 1⟩ 1 3 _ HB.out.1.m).mono ?_; rintro e w6 ⟨rfl, hu⟩; rw [CP.out.1, CP.out.2, HK.out])
              first
              | exact hK _ HB.out
              | exact HB.out
              | exact hK _ ⟨HB.out.1.step hu, hu.get HB.out.2 (by simp)⟩
              | exact ⟨HB.out.1.step hu, hu.get HB.out.2 (by simp)⟩
            · exact ⟨_, rfl⟩
          iterate 2
            apply headW_val rfl rfl
            · intro K hK w5 hB1
              have HB := Lib.hid hB1
              have c1 := cells_of HB.out.1.t
              have c2 := cells_of HB.out.1.k.h
              have c3 := cells_of HB.out.2
              unfold opCells at c3
              clear hB1
              go_wp2_with fail
              first
              | exact hK _ HB.out
              | exact HB.out
              | exact hK _ ⟨HB.out.1.step hu, hu.get HB.out.2 (by simp)⟩
              | exact ⟨HB.out.1.step hu, hu.get HB.out.2 (by simp)⟩
            · exact ⟨_, rfl⟩
          iterate 1
            apply headW_val rfl rfl
            · intro K hK w5 hB1
              have HB := Lib.hid hB1
              have c1 := cells_of HB.out.1.t
              have c2 := cells_of HB.out.1.k.h
              have c3 := cells_of HB.out.2
              unfold opCells at c3
              clear hB1
              go_wp2_with (go_at_call 111; refine (hmust_ok (M.canF (plus (H.get 10) j) 1 3) _).mono ?_; rintro e w6 ⟨rfl, hu⟩)
              first
              | exact hK _ HB.out
              | exact HB.out
              | exact hK _ ⟨HB.out.1.step hu, hu.get HB.out.2 (by simp)⟩
              | exact ⟨HB.out.1.step hu, hu.get HB.out.2 (by simp)⟩
            · exact ⟨_, rfl⟩
          refine headW_nil (fun _ w7 hB1 => ?_)
          have HB := Lib.hid hB1
          clear hB1
          go_wp2_with fail
          go_roundw
          case rel => exact ⟨j + 1, by omega, by go_num, fun i hi => by
              by_cases e : i = j
              · subst e; exact HK.out
              · exact HC.out i (by omega), HB.out.1⟩
          case measure => simp [intOf]; omega
      · obtain rfl : n = j := by omega
        have hjd : decide ((n : Int) < 16) = false := by rw [hL]; simp
        have ct := cells_of HS.out.t
        have HL := Lib.hid hL
        clear hL
        go_wp2_with (have _t := ct; clear _t; go_at_call 106; refine (answers_any H ab hb a 0 (by decide) _ HS.out.h HS.out.k).mono ?_; rintro e w7 ⟨rfl, h7, hu⟩; have G7 := Lib.hid (And.intro h7 (And.intro (HS.out.m.keep hu (by simpa using fun e => HN.out.2.1 e.symm) (by simpa using fun e => HN.out.2.2.1 e.symm)) (((U0.out.also HS.out.u (by simp)).mono (T := [hb]) (by simp)).also hu (by simp)))); clear h7 hu ct)
        go_end0
        refine .inl ⟨?_, rfl, G7.out.1, G7.out.2.1, G7.out.2.2⟩
        rw [Mem.canRow, List.all_eq_true]
        exact fun i hi => HC.out i (List.mem_range.1 hi)
  · have hL : H.get 11 = (n : Int) := by omega
    clear hn h
    go_loopw [86] (fun t wl => ∃ j : Nat, j ≤ n ∧ t = .int .u32 j ∧ (∀ i, i < j → M.canK (plus (H.get 10) i) 1 3 = true) ∧ HpS (w.alloc (.cells #[.pointer (some ⟨ab, 0, none⟩)] 137)) w.heap.size ab hb a pb H M wl) (fun t wl => n - (intOf t).toNat)
    case atStart => exact ⟨0, Nat.zero_le _, rfl, fun _ h => absurd h (by omega), S0.out⟩
    case round =>
      obtain ⟨j, hj, rfl, hc, hS⟩ := hrel
      have HC := Lib.hid hc
      have HS := Lib.hid hS
      clear hc hS
      by_cases hlt : j < n
      · have hjd : decide ((j : Int) < H.get 11) = true := by rw [hL]; simpa using hlt
        have q2 : (H.get 10 + j) % 4294967296 = plus (H.get 10) j := rfl
        have HL := Lib.hid hL
        have HP := Lib.hid (show 0 ≤ plus (H.get 10) j ∧ plus (H.get 10) j < 4294967296 by unfold plus; omega)
        have ct := cells_of HS.out.t
        clear hL
        go_wp2_with (have _t := ct; clear _t; go_at_call 110; refine (arg_any H ab hb a 0 (by decide) _ HS.out.h HS.out.k).mono ?_; rintro e w' ⟨rfl, rfl⟩; clear ct)
        have CP := Lib.hid (canK1_place M _ HP.out)
        have B0 := Lib.hid (show HpS (w.alloc (.cells #[.pointer (some ⟨ab, 0, none⟩)] 137)) w.heap.size ab hb a pb H M (wr.alloc (.cells (opCells ⟨3, 0, plus (H.get 10) j, -1, -1, 1⟩) 68)) ∧ (wr.alloc (.cells (opCells ⟨3, 0, plus (H.get 10) j, -1, -1, 1⟩) 68)).heap[wr.heap.size]? = some (.cells (opCells ⟨3, 0, plus (H.get 10) j, -1, -1, 1⟩) 68 (0, 0)) from ⟨HS.out.step ((Upd.refl [] wr).alloc _), heap_alloc_new _ _⟩)
        cases hk : M.canK (plus (H.get 10) j) 1 3
        · have HK := Lib.hid hk
          clear hk
          refine wp_draw 10 (fun w5 => HpS (w.alloc (.cells #[.pointer (some ⟨ab, 0, none⟩)] 137)) w.heap.size ab hb a pb H M w5 ∧ w5.heap[wr.heap.size]? = some (.cells (opCells ⟨3, 0, plus (H.get 10) j, -1, -1, 1⟩) 68 (0, 0))) (fun c w5 => (∃ F : Flt, c = [{ v := .iface 32 F.val, recovered := false }]) ∧ Upd [] (w.alloc (.cells #[.pointer (some ⟨ab, 0, none⟩)] 137)) w5) (by kernel_rfl) (by decide +kernel) ⟨B0.out.1.step (Upd.refl [] _).drew, B0.out.2⟩ ?_ ?_
          · rintro c a' w' ⟨⟨F, rfl⟩, h2⟩ hd _ _
            refine ⟨hd, .inr ⟨?_, ⟨F, rfl⟩, U0.out.also h2 (by simp)⟩⟩
            rw [Mem.canRow, List.all_eq_false]
            exact ⟨j, List.mem_range.2 hlt, by rw [HK.out]; simp⟩
          simp only [List.take_succ_cons, List.take_zero, List.drop_succ_cons, List.drop_zero]
          iterate 6
            apply headW_val rfl rfl
            · intro K hK w5 hB1
              have HB := Lib.hid hB1
              have c1 := cells_of HB.out.1.t
              have c2 := cells_of HB.out.1.k.h
              have c3 := cells_of HB.out.2
              unfold opCells at c3
              clear hB1
              go_wp2_with fail
              first
              | exact hK _ HB.out
              | exact HB.out
              | exact hK _ ⟨HB.out.1.step hu, hu.get HB.out.2 (by simp)⟩
              | exact ⟨HB.out.1.step hu, hu.get HB.out.2 (by simp)⟩
            · exact ⟨_, rfl⟩
          iterate 1
            apply headW_val rfl rfl
            · intro K hK w5 hB1
              have HB := Lib.hid hB1
              have c1 := cells_of HB.out.1.t
              have c2 := cells_of HB.out.1.k.h
              have c3 := cells_of HB.out.2
              unfold opCells at c3
              clear hB1
              go_wp2_with (go_at_call 34; refine (opCan_any M a pb St.zero ⟨3, 0, plus (H.get 10) j, -1, -1, 1⟩ 1 3 _ HB.out.1.m).mono ?_; rintro e w6 ⟨rfl, hu⟩; rw [CP.out.1, CP.out.2, HK.out])
              first
              | exact hK _ HB.out
              | exact HB.out
              | exact hK _ ⟨HB.out.1.step hu, hu.get HB.out.2 (by simp)⟩
              | exact ⟨HB.out.1.step hu, hu.get HB.out.2 (by simp)⟩
            · exact ⟨_, rfl⟩
          iterate 2
            apply headW_val rfl rfl
            · intro K hK w5 hB1
              have HB := Lib.hid hB1
              have c1 := cells_of HB.out.1.t
              have c2 := cells_of HB.out.1.k.h
              have c3 := cells_of HB.out.2
              unfold opCells at c3
              clear hB1
              go_wp2_with fail
              first
              | exact hK _ HB.out
              | exact HB.out
              | exact hK _ ⟨HB.out.1.step hu, hu.get HB.out.2 (by simp)⟩
              | exact ⟨HB.out.1.step hu, hu.get HB.out.2 (by simp)⟩
            · exact ⟨_, rfl⟩
          refine headW_dies rfl rfl ?_ ?_
          · intro w5 hB1
            have HB := Lib.hid hB1
            clear hB1
            go_wp2_with (go_at_call 111; refine (hmust_bad (M.canF (plus (H.get 10) j) 1 3) _).mono ?_; rintro e w6 ⟨rfl, hu⟩)
            exact ⟨⟨_, rfl⟩, HB.out.1.u.also hu (by simp)⟩
          refine headW_nil (fun hdead => by cases hdead)
        · have HK := Lib.hid hk
          clear hk
          refine wp_draw 10 (fun w5 => HpS (w.alloc (.cells #[.pointer (some ⟨ab, 0, none⟩)] 137)) w.heap.size ab hb a pb H M w5 ∧ w5.heap[wr.heap.size]? = some (.cells (opCells ⟨3, 0, plus (H.get 10) j, -1, -1, 1⟩) 68 (0, 0))) (fun _ _ => False) (by kernel_rfl) (by decide +kernel) ⟨B0.out.1.step (Upd.refl [] _).drew, B0.out.2⟩ (fun _ _ _ h => h.elim) ?_
          simp only [List.take_succ_cons, List.take_zero, List.drop_succ_cons, List.drop_zero]
          iterate 6
            apply headW_val rfl rfl
            · intro K hK w5 hB1
              have HB := Lib.hid hB1
              have c1 := cells_of HB.out.1.t
              have c2 := cells_of HB.out.1.k.h
              have c3 := cells_of HB.out.2
              unfold opCells at c3
              clear hB1
              go_wp2_with fail
              first
              | exact hK _ HB.out
              | exact HB.out
              | exact hK _ ⟨HB.out.1.step hu, hu.get HB.out.2 (by simp)⟩
              | exact ⟨HB.out.1.step hu, hu.get HB.out.2 (by simp)⟩
            · exact ⟨_, rfl⟩
          iterate 1
            apply headW_val rfl rfl
            · intro K hK w5 hB1
              have HB := Lib.hid hB1
              have c1 := cells_of HB.out.1.t
              have c2 := cells_of HB.out.1.k.h
              have c3 := cells_of HB.out.2
              unfold opCells at c3
              clear hB1
              go_wp2_with (go_at_call 34; refine (opCan_any M a pb St.zero ⟨3, 0, plus (H.get 10) j, -1, -1, 1⟩ 1 3 _ HB.out.1.m).mono ?_; rintro e w6 ⟨rfl, hu⟩; rw [CP.out.1, CP.out.2, HK.out])
              first
              | exact hK _ HB.out
              | exact HB.out
              | exact hK _ ⟨HB.out.1.step hu, hu.get HB.out.2 (by simp)⟩
              | exact ⟨HB.out.1.step hu, hu.get HB.out.2 (by simp)⟩
            · exact ⟨_, rfl⟩
          iterate 2
            apply headW_val rfl rfl
            · intro K hK w5 hB1
              have HB := Lib.hid hB1
              have c1 := cells_of HB.out.1.t
              have c2 := cells_of HB.out.1.k.h
              have c3 := cells_of HB.out.2
              unfold opCells at c3
              clear hB1
              go_wp2_with fail
              first
              | exact hK _ HB.out
              | exact HB.out
              | exact hK _ ⟨HB.out.1.step hu, hu.get HB.out.2 (by simp)⟩
              | exact ⟨HB.out.1.step hu, hu.get HB.out.2 (by simp)⟩
            · exact ⟨_, rfl⟩
          iterate 1
            apply headW_val rfl rfl
            · intro K hK w5 hB1
              have HB := Lib.hid hB1
              have c1 := cells_of HB.out.1.t
              have c2 := cells_of HB.out.1.k.h
              have c3 := cells_of HB.out.2
              unfold opCells at c3
              clear hB1
              go_wp2_with (go_at_call 111; refine (hmust_ok (M.canF (plus (H.get 10) j) 1 3) _).mono ?_; rintro e w6 ⟨rfl, hu⟩)
              first
              | exact hK _ HB.out
              | exact HB.out
              | exact hK _ ⟨HB.out.1.step hu, hu.get HB.out.2 (by simp)⟩
              | exact ⟨HB.out.1.step hu, hu.get HB.out.2 (by simp)⟩
            · exact ⟨_, rfl⟩
          refine headW_nil (fun _ w7 hB1 => ?_)
          have HB := Lib.hid hB1
          clear hB1
          go_wp2_with fail
          go_roundw
          case rel => exact ⟨j + 1, by omega, by go_num, fun i hi => by
              by_cases e : i = j
              · subst e; exact HK.out
              · exact HC.out i (by omega), HB.out.1⟩
          case measure => simp [intOf]; omega
      · obtain rfl : n = j := by omega
        have hjd : decide ((n : Int) < H.get 11) = false := by rw [hL]; simp
        have ct := cells_of HS.out.t
        have HL := Lib.hid hL
        clear hL
        go_wp2_with (have _t := ct; clear _t; go_at_call 106; refine (answers_any H ab hb a 0 (by decide) _ HS.out.h HS.out.k).mono ?_; rintro e w7 ⟨rfl, h7, hu⟩; have G7 := Lib.hid (And.intro h7 (And.intro (HS.out.m.keep hu (by simpa using fun e => HN.out.2.1 e.symm) (by simpa using fun e => HN.out.2.2.1 e.symm)) (((U0.out.also HS.out.u (by simp)).mono (T := [hb]) (by simp)).also hu (by simp)))); clear h7 hu ct)
        go_end0
        refine .inl ⟨?_, rfl, G7.out.1, G7.out.2.1, G7.out.2.2⟩
        rw [Mem.canRow, List.all_eq_true]
        exact fun i hi => HC.out i (List.mem_range.1 hi)
end Go.Proofs.Ytncafchgdgmeaaa
