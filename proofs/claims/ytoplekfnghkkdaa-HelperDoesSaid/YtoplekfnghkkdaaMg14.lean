/-
  Package helper: touches: the arms that were left. No condition.
-/
import Derived.Test.YtoplekfnghkkdaaMg12
import Derived.Test.YtoplekfnghkkdaaMg05
import Derived.Test.YtoplekfnghkkdaaMg08
namespace Go.Proofs.Ytoplekfnghkkdaa
open Go Go.RowKit
set_option linter.unusedVariables false
set_option linter.unusedSimpArgs false

theorem writeM_no {M : Mem} {x b v : Int} (h : M.writeK x b = false) : M.writeM x b v = M := by
  rw [Mem.writeM]; rw [Mem.writeK] at h
  cases hb : M.bad x 2 (widthI b).toNat with
  | none => rw [hb] at h; cases h
  | some i => rfl

theorem wr8M_no {M : Mem} {x v : Int} (h : M.canK x 8 2 = false) : M.wr8M x v = M := by rw [Mem.wr8M, if_neg (by rw [h]; simp)]

theorem canRow_canK (M : Mem) (x : Int) (n : Nat) : M.canRow x n = M.canK x n 3 := by
  rw [Bool.eq_iff_iff, canK_iff, Mem.canRow, List.all_eq_true]
  have h1 : ∀ y, M.canK y 1 3 = true ↔ M.lack (plus y 0) 3 = 0 := fun y => by
    rw [canK_iff]
    exact ⟨fun h => h 0 (by decide), fun h t ht => by have : t = 0 := by omega
                                                      subst this; exact h⟩
  constructor
  · intro h t ht
    have := (h1 _).1 (h t (List.mem_range.2 ht))
    rwa [plus_plus] at this
  · intro h t ht
    rw [h1, plus_plus]
    exact h t (List.mem_range.1 ht)

theorem canF_first (M : Mem) (x : Int) (n j : Nat) (hj : j < n) (hc : ∀ i, i < j → M.canK (plus x i) 1 3 = true) (hb : M.canK (plus x j) 1 3 = false) : M.canF (plus x j) 1 3 = M.canF x n 3 := by
  have h1 : ∀ i, M.canK (plus x i) 1 3 = true ↔ M.lack (plus x i) 3 = 0 := fun i => by
    rw [canK_iff]
    constructor
    · intro h
      have := h 0 (by decide)
      rwa [plus_plus] at this
    · intro h t ht
      have : t = 0 := by omega
      subst this
      rw [plus_plus]
      exact h
  have hl : M.lack (plus x j) 3 ≠ 0 := fun e => by
    rw [(h1 j).2 e] at hb; cases hb
  have a := canBad_some M x n 3 j hj (fun t ht => (h1 t).1 (hc t ht)) hl
  have b := canBad_some M (plus x j) 1 3 0 (by decide) (fun t ht => by omega) (by rw [plus_plus]; exact hl)
  rw [Mem.canF, Mem.canF, a, b]
  simp only [plus_plus]
  rfl

set_option maxRecDepth 100000 in
set_option maxHeartbeats 4000000 in
theorem touch_load1_bad (H : Hs) (M : Mem) (ab hb a pb : Nat) (w : World) (h : As w ab hb a pb H M) (hk : M.readK (H.get 10) 1 1 = false) :
    Calls Try.prog 61 #[.pointer (some ⟨ab, 0, none⟩), .int .u32 2] w fun e w' => e = .panicked [{ v := .iface 49 (M.rdF (H.get 10) 1 1).val, recovered := false }] ∧ Upd [] w w' := by
  have hmo : Try.prog.follows .mixedOrders = true := by kernel_rfl
  have u0 : Upd [] w (w.alloc (.cells #[.pointer (some ⟨ab, 0, none⟩)] 127)) := (Upd.refl [] w).alloc _
  have S0 := Lib.hid h.start
  have U0 := Lib.hid u0
  have G0 := Lib.hid (Hs.get_range h.h 10)
  have HN := Lib.hid h.n
  have HK := Lib.hid hk
  clear h hk u0
  go_enter Try.func61, Try.ntmps61
  go_wp2_with (have _t := S0; clear _t; go_at_call 129; refine (loads_bad H M 1 _ ab hb a pb _ S0.out HK.out).mono ?_; rintro e w7 ⟨rfl, h3⟩; have G7 := Lib.hid (U0.out.also h3 (by simp)); clear h3 S0)
  exact ⟨rfl, rfl, G7.out⟩

set_option maxRecDepth 100000 in
set_option maxHeartbeats 4000000 in
theorem touch_store1_ok (H : Hs) (M : Mem) (ab hb a pb : Nat) (w : World) (h : As w ab hb a pb H M) (hk : M.writeK (H.get 10) 1 = true) :
    Calls Try.prog 61 #[.pointer (some ⟨ab, 0, none⟩), .int .u32 4] w fun e w' => e = .returned (.tuple #[]) ∧ IsHost w' hb (H) ∧ IsMem w' a pb (M.writeM (H.get 10) 1 (H.get 11)) ∧ Upd [hb, pb] w w' := by
  have hmo : Try.prog.follows .mixedOrders = true := by kernel_rfl
  have u0 : Upd [] w (w.alloc (.cells #[.pointer (some ⟨ab, 0, none⟩)] 127)) := (Upd.refl [] w).alloc _
  have S0 := Lib.hid h.start
  have U0 := Lib.hid u0
  have G0 := Lib.hid (Hs.get_range h.h 10)
  have HN := Lib.hid h.n
  have NW := Lib.hid (show w.heap.size ≠ pb ∧ ab ≠ pb ∧ hb ≠ pb from ⟨by have := h.m.pl; omega, h.n.2.2.2, h.n.2.2.1⟩)
  have G1 := Lib.hid (Hs.get_range h.h 11)
  have HK := Lib.hid hk
  clear h hk u0
  go_enter Try.func61, Try.ntmps61
  go_wp2_with fail
  refine wp_drawD 12 (HpW (w.alloc (.cells #[.pointer (some ⟨ab, 0, none⟩)] 127)) w.heap.size ab hb a pb H M (M.writeM (H.get 10) 1 (H.get 11)) 8) (fun _ _ => False) (by kernel_rfl) (by decide +kernel) (HpW.start (S0.out.step (Upd.refl [] _).drew)) (fun _ _ _ h => h.elim) ?_
  simp only [List.take_succ_cons, List.take_zero, List.drop_succ_cons, List.drop_zero]
  iterate 5
    apply headD_val rfl rfl
    · intro d K hd hK w5 hB1
      have HB := Lib.hid hB1
      have c1 := cells_of HB.out.t
      have c2 := cells_of HB.out.ask.h
      clear hB1
      go_wp2_with fail
      first
      | exact hK _ (HB.out.same _ (by decide))
      | exact HB.out.same _ (by decide)
      | exact hK _ (HB.out.quiet hu _ (by decide))
      | exact HB.out.quiet hu _ (by decide)
    · exact ⟨_, rfl⟩
  iterate 1
    apply headD_val rfl rfl
    · intro d K hd hK w5 hB1
      have HB := Lib.hid hB1
      have c1 := cells_of HB.out.t
      have c2 := cells_of HB.out.ask.h
      clear hB1
      go_wp2_with (go_at_call 127; refine (arg_any H ab hb a 0 (by decide) _ HB.out.h HB.out.ask).mono ?_; rintro e w' ⟨rfl, rfl⟩)
      first
      | exact hK _ (HB.out.same _ (by decide))
      | exact HB.out.same _ (by decide)
      | exact hK _ (HB.out.quiet hu _ (by decide))
      | exact HB.out.quiet hu _ (by decide)
    · exact ⟨_, rfl⟩
  iterate 1
    apply headD_val rfl rfl
    · intro d K hd hK w5 hB1
      have HB := Lib.hid hB1
      have c1 := cells_of HB.out.t
      have c2 := cells_of HB.out.ask.h
      clear hB1
      go_wp2_with fail
      first
      | exact hK _ (HB.out.same _ (by decide))
      | exact HB.out.same _ (by decide)
      | exact hK _ (HB.out.quiet hu _ (by decide))
      | exact HB.out.quiet hu _ (by decide)
    · exact ⟨_, rfl⟩
  iterate 1
    apply headD_val rfl rfl
    · intro d K hd hK w5 hB1
      have HB := Lib.hid hB1
      have c1 := cells_of HB.out.t
      have c2 := cells_of HB.out.ask.h
      clear hB1
      go_wp2_with (go_at_call 127; refine (arg_any H ab hb a 1 (by decide) _ HB.out.h HB.out.ask).mono ?_; rintro e w' ⟨rfl, rfl⟩)
      first
      | exact hK _ (HB.out.same _ (by decide))
      | exact HB.out.same _ (by decide)
      | exact hK _ (HB.out.quiet hu _ (by decide))
      | exact HB.out.quiet hu _ (by decide)
    · exact ⟨_, rfl⟩
  apply headD_val rfl rfl
  · intro d K hd hK w5 hB1
    have HB := Lib.hid hB1
    have hm : IsMem w5 a pb M := by have := hB1.m; rw [hd] at this; exact this
    have HM := Lib.hid hm
    clear hB1 hm
    go_wp2_with (go_at_call 131; refine (Write_any M a pb (H.get 10) 1 (H.get 11) _ HM.out G0.out.1 G0.out.2 G1.out.1 G1.out.2).mono ?_; rintro e w6 ⟨rfl, hm6, hu⟩; rw [Mem.writeF_val, HK.out])
    first
    | exact hK _ (HB.out.mem hu hm6 NW.out)
    | exact HB.out.mem hu hm6 NW.out
  · exact ⟨_, rfl⟩
  iterate 2
    apply headD_val rfl rfl
    · intro d K hd hK w5 hB1
      have HB := Lib.hid hB1
      have c1 := cells_of HB.out.t
      have c2 := cells_of HB.out.ask.h
      clear hB1
      go_wp2_with fail
      first
      | exact hK _ (HB.out.same _ (by decide))
      | exact HB.out.same _ (by decide)
      | exact hK _ (HB.out.quiet hu _ (by decide))
      | exact HB.out.quiet hu _ (by decide)
    · exact ⟨_, rfl⟩
  iterate 1
    apply headD_val rfl rfl
    · intro d K hd hK w5 hB1
      have HB := Lib.hid hB1
      have c1 := cells_of HB.out.t
      have c2 := cells_of HB.out.ask.h
      clear hB1
      go_wp2_with (go_at_call 128; refine (hmust_ok (M.wrF (H.get 10) 1) _).mono ?_; rintro e w6 ⟨rfl, hu⟩)
      first
      | exact hK _ (HB.out.same _ (by decide))
      | exact HB.out.same _ (by decide)
      | exact hK _ (HB.out.quiet hu _ (by decide))
      | exact HB.out.quiet hu _ (by decide)
    · exact ⟨_, rfl⟩
  refine headD_nil (fun _ w7 d hall hB1 => ?_)
  have h8 := hall 8 (by decide)
  have hm := hB1.m
  rw [h8] at hm
  have G7 := Lib.hid (And.intro hB1.h (And.intro hm ((U0.out.mono (T := [pb]) (by simp)).also hB1.u (by simp))))
  clear hB1 hm hall h8
  go_wp2_with fail
  go_end0
  exact ⟨rfl, G7.out.1, G7.out.2.1, G7.out.2.2.mono (by simp)⟩

set_option maxRecDepth 100000 in
set_option maxHeartbeats 4000000 in
theorem touch_store4_bad (H : Hs) (M : Mem) (ab hb a pb : Nat) (w : World) (h : As w ab hb a pb H M) (hk : M.writeK (H.get 10) 4 = false) :
    Calls Try.prog 61 #[.pointer (some ⟨ab, 0, none⟩), .int .u32 3] w fun e w' => e = .panicked [{ v := .iface 49 (M.wrF (H.get 10) 4).val, recovered := false }] ∧ IsHost w' hb H ∧ IsMem w' a pb M ∧ Upd [pb] w w' := by
  have hmo : Try.prog.follows .mixedOrders = true := by kernel_rfl
  have u0 : Upd [] w (w.alloc (.cells #[.pointer (some ⟨ab, 0, none⟩)] 127)) := (Upd.refl [] w).alloc _
  have S0 := Lib.hid h.start
  have U0 := Lib.hid u0
  have G0 := Lib.hid (Hs.get_range h.h 10)
  have HN := Lib.hid h.n
  have NW := Lib.hid (show w.heap.size ≠ pb ∧ ab ≠ pb ∧ hb ≠ pb from ⟨by have := h.m.pl; omega, h.n.2.2.2, h.n.2.2.1⟩)
  have G1 := Lib.hid (Hs.get_range h.h 11)
  have HK := Lib.hid hk
  have HWM := Lib.hid (show M.writeM (H.get 10) 4 (H.get 11) = M from writeM_no hk)
  clear h hk u0
  go_enter Try.func61, Try.ntmps61
  go_wp2_with fail
  refine wp_drawD 12 (HpW (w.alloc (.cells #[.pointer (some ⟨ab, 0, none⟩)] 127)) w.heap.size ab hb a pb H M (M.writeM (H.get 10) 4 (H.get 11)) 8) (fun c w1 => c = [{ v := .iface 49 (M.wrF (H.get 10) 4).val, recovered := false }] ∧ IsHost w1 hb H ∧ IsMem w1 a pb M ∧ Upd [pb] (w.alloc (.cells #[.pointer (some ⟨ab, 0, none⟩)] 127)) w1) (by kernel_rfl) (by decide +kernel) (HpW.start (S0.out.step (Upd.refl [] _).drew)) ?_ ?_
  · rintro c a' w' ⟨rfl, h1, h2, h3⟩ hd _ _
    exact ⟨hd, rfl, h1, h2, (U0.out.mono (T := [pb]) (by simp)).also h3 (by simp)⟩
  simp only [List.take_succ_cons, List.take_zero, List.drop_succ_cons, List.drop_zero]
  iterate 5
    apply headD_val rfl rfl
    · intro d K hd hK w5 hB1
      have HB := Lib.hid hB1
      have c1 := cells_of HB.out.t
      have c2 := cells_of HB.out.ask.h
      clear hB1
      go_wp2_with fail
      first
      | exact hK _ (HB.out.same _ (by decide))
      | exact HB.out.same _ (by decide)
      | exact hK _ (HB.out.quiet hu _ (by decide))
      | exact HB.out.quiet hu _ (by decide)
    · exact ⟨_, rfl⟩
  iterate 1
    apply headD_val rfl rfl
    · intro d K hd hK w5 hB1
      have HB := Lib.hid hB1
      have c1 := cells_of HB.out.t
      have c2 := cells_of HB.out.ask.h
      clear hB1
      go_wp2_with (go_at_call 127; refine (arg_any H ab hb a 0 (by decide) _ HB.out.h HB.out.ask).mono ?_; rintro e w' ⟨rfl, rfl⟩)
      first
      | exact hK _ (HB.out.same _ (by decide))
      | exact HB.out.same _ (by decide)
      | exact hK _ (HB.out.quiet hu _ (by decide))
      | exact HB.out.quiet hu _ (by decide)
    · exact ⟨_, rfl⟩
  iterate 1
    apply headD_val rfl rfl
    · intro d K hd hK w5 hB1
      have HB := Lib.hid hB1
      have c1 := cells_of HB.out.t
      have c2 := cells_of HB.out.ask.h
      clear hB1
      go_wp2_with fail
      first
      | exact hK _ (HB.out.same _ (by decide))
      | exact HB.out.same _ (by decide)
      | exact hK _ (HB.out.quiet hu _ (by decide))
      | exact HB.out.quiet hu _ (by decide)
    · exact ⟨_, rfl⟩
  iterate 1
    apply headD_val rfl rfl
    · intro d K hd hK w5 hB1
      have HB := Lib.hid hB1
      have c1 := cells_of HB.out.t
      have c2 := cells_of HB.out.ask.h
      clear hB1
      go_wp2_with (go_at_call 127; refine (arg_any H ab hb a 1 (by decide) _ HB.out.h HB.out.ask).mono ?_; rintro e w' ⟨rfl, rfl⟩)
      first
      | exact hK _ (HB.out.same _ (by decide))
      | exact HB.out.same _ (by decide)
      | exact hK _ (HB.out.quiet hu _ (by decide))
      | exact HB.out.quiet hu _ (by decide)
    · exact ⟨_, rfl⟩
  apply headD_val rfl rfl
  · intro d K hd hK w5 hB1
    have HB := Lib.hid hB1
    have hm : IsMem w5 a pb M := by have := hB1.m; rw [hd] at this; exact this
    have HM := Lib.hid hm
    clear hB1 hm
    go_wp2_with (go_at_call 131; refine (Write_any M a pb (H.get 10) 4 (H.get 11) _ HM.out G0.out.1 G0.out.2 G1.out.1 G1.out.2).mono ?_; rintro e w6 ⟨rfl, hm6, hu⟩; rw [Mem.writeF_val, HK.out])
    first
    | exact hK _ (HB.out.mem hu hm6 NW.out)
    | exact HB.out.mem hu hm6 NW.out
  · exact ⟨_, rfl⟩
  iterate 2
    apply headD_val rfl rfl
    · intro d K hd hK w5 hB1
      have HB := Lib.hid hB1
      have c1 := cells_of HB.out.t
      have c2 := cells_of HB.out.ask.h
      clear hB1
      go_wp2_with fail
      first
      | exact hK _ (HB.out.same _ (by decide))
      | exact HB.out.same _ (by decide)
      | exact hK _ (HB.out.quiet hu _ (by decide))
      | exact HB.out.quiet hu _ (by decide)
    · exact ⟨_, rfl⟩
  refine headD_dies rfl rfl ?_ ?_
  · intro d w5 hd hB1
    have HB := Lib.hid hB1
    clear hB1
    go_wp2_with (go_at_call 128; refine (hmust_bad (M.wrF (H.get 10) 4) _).mono ?_; rintro e w6 ⟨rfl, hu⟩)
    have hm := HB.out.m
    rw [HWM.out] at hm
    exact ⟨rfl, HB.out.h.keep hu (by simp), IsMem.keep (by simpa using hm) hu (by simp) (by simp), HB.out.u.also hu (by simp)⟩
  refine headD_nil (fun hdead => by cases hdead)

set_option maxRecDepth 100000 in
set_option maxHeartbeats 4000000 in
theorem touch_store1_bad2 (H : Hs) (M : Mem) (ab hb a pb : Nat) (w : World) (h : As w ab hb a pb H M) (hk : M.writeK (H.get 10) 1 = false) :
    Calls Try.prog 61 #[.pointer (some ⟨ab, 0, none⟩), .int .u32 4] w fun e w' => e = .panicked [{ v := .iface 49 (M.wrF (H.get 10) 1).val, recovered := false }] ∧ IsHost w' hb H ∧ IsMem w' a pb M ∧ Upd [pb] w w' := by
  have hmo : Try.prog.follows .mixedOrders = true := by kernel_rfl
  have u0 : Upd [] w (w.alloc (.cells #[.pointer (some ⟨ab, 0, none⟩)] 127)) := (Upd.refl [] w).alloc _
  have S0 := Lib.hid h.start
  have U0 := Lib.hid u0
  have G0 := Lib.hid (Hs.get_range h.h 10)
  have HN := Lib.hid h.n
  have NW := Lib.hid (show w.heap.size ≠ pb ∧ ab ≠ pb ∧ hb ≠ pb from ⟨by have := h.m.pl; omega, h.n.2.2.2, h.n.2.2.1⟩)
  have G1 := Lib.hid (Hs.get_range h.h 11)
  have HK := Lib.hid hk
  have HWM := Lib.hid (show M.writeM (H.get 10) 1 (H.get 11) = M from writeM_no hk)
  clear h hk u0
  go_enter Try.func61, Try.ntmps61
  go_wp2_with fail
  refine wp_drawD 12 (HpW (w.alloc (.cells #[.pointer (some ⟨ab, 0, none⟩)] 127)) w.heap.size ab hb a pb H M (M.writeM (H.get 10) 1 (H.get 11)) 8) (fun c w1 => c = [{ v := .iface 49 (M.wrF (H.get 10) 1).val, recovered := false }] ∧ IsHost w1 hb H ∧ IsMem w1 a pb M ∧ Upd [pb] (w.alloc (.cells #[.pointer (some ⟨ab, 0, none⟩)] 127)) w1) (by kernel_rfl) (by decide +kernel) (HpW.start (S0.out.step (Upd.refl [] _).drew)) ?_ ?_
  · rintro c a' w' ⟨rfl, h1, h2, h3⟩ hd _ _
    exact ⟨hd, rfl, h1, h2, (U0.out.mono (T := [pb]) (by simp)).also h3 (by simp)⟩
  simp only [List.take_succ_cons, List.take_zero, List.drop_succ_cons, List.drop_zero]
  iterate 5
    apply headD_val rfl rfl
    · intro d K hd hK w5 hB1
      have HB := Lib.hid hB1
      have c1 := cells_of HB.out.t
      have c2 := cells_of HB.out.ask.h
      clear hB1
      go_wp2_with fail
      first
      | exact hK _ (HB.out.same _ (by decide))
      | exact HB.out.same _ (by decide)
      | exact hK _ (HB.out.quiet hu _ (by decide))
      | exact HB.out.quiet hu _ (by decide)
    · exact ⟨_, rfl⟩
  iterate 1
    apply headD_val rfl rfl
    · intro d K hd hK w5 hB1
      have HB := Lib.hid hB1
      have c1 := cells_of HB.out.t
      have c2 := cells_of HB.out.ask.h
      clear hB1
      go_wp2_with (go_at_call 127; refine (arg_any H ab hb a 0 (by decide) _ HB.out.h HB.out.ask).mono ?_; rintro e w' ⟨rfl, rfl⟩)
      first
      | exact hK _ (HB.out.same _ (by decide))
      | exact HB.out.same _ (by decide)
      | exact hK _ (HB.out.quiet hu _ (by decide))
      | exact HB.out.quiet hu _ (by decide)
    · exact ⟨_, rfl⟩
  iterate 1
    apply headD_val rfl rfl
    · intro d K hd hK w5 hB1
      have HB := Lib.hid hB1
      have c1 := cells_of HB.out.t
      have c2 := cells_of HB.out.ask.h
      clear hB1
      go_wp2_with fail
      first
      | exact hK _ (HB.out.same _ (by decide))
      | exact HB.out.same _ (by decide)
      | exact hK _ (HB.out.quiet hu _ (by decide))
      | exact HB.out.quiet hu _ (by decide)
    · exact ⟨_, rfl⟩
  iterate 1
    apply headD_val rfl rfl
    · intro d K hd hK w5 hB1
      have HB := Lib.hid hB1
      have c1 := cells_of HB.out.t
      have c2 := cells_of HB.out.ask.h
      clear hB1
      go_wp2_with (go_at_call 127; refine (arg_any H ab hb a 1 (by decide) _ HB.out.h HB.out.ask).mono ?_; rintro e w' ⟨rfl, rfl⟩)
      first
      | exact hK _ (HB.out.same _ (by decide))
      | exact HB.out.same _ (by decide)
      | exact hK _ (HB.out.quiet hu _ (by decide))
      | exact HB.out.quiet hu _ (by decide)
    · exact ⟨_, rfl⟩
  apply headD_val rfl rfl
  · intro d K hd hK w5 hB1
    have HB := Lib.hid hB1
    have hm : IsMem w5 a pb M := by have := hB1.m; rw [hd] at this; exact this
    have HM := Lib.hid hm
    clear hB1 hm
    go_wp2_with (go_at_call 131; refine (Write_any M a pb (H.get 10) 1 (H.get 11) _ HM.out G0.out.1 G0.out.2 G1.out.1 G1.out.2).mono ?_; rintro e w6 ⟨rfl, hm6, hu⟩; rw [Mem.writeF_val, HK.out])
    first
    | exact hK _ (HB.out.mem hu hm6 NW.out)
    | exact HB.out.mem hu hm6 NW.out
  · exact ⟨_, rfl⟩
  iterate 2
    apply headD_val rfl rfl
    · intro d K hd hK w5 hB1
      have HB := Lib.hid hB1
      have c1 := cells_of HB.out.t
      have c2 := cells_of HB.out.ask.h
      clear hB1
      go_wp2_with fail
      first
      | exact hK _ (HB.out.same _ (by decide))
      | exact HB.out.same _ (by decide)
      | exact hK _ (HB.out.quiet hu _ (by decide))
      | exact HB.out.quiet hu _ (by decide)
    · exact ⟨_, rfl⟩
  refine headD_dies rfl rfl ?_ ?_
  · intro d w5 hd hB1
    have HB := Lib.hid hB1
    clear hB1
    go_wp2_with (go_at_call 128; refine (hmust_bad (M.wrF (H.get 10) 1) _).mono ?_; rintro e w6 ⟨rfl, hu⟩)
    have hm := HB.out.m
    rw [HWM.out] at hm
    exact ⟨rfl, HB.out.h.keep hu (by simp), IsMem.keep (by simpa using hm) hu (by simp) (by simp), HB.out.u.also hu (by simp)⟩
  refine headD_nil (fun hdead => by cases hdead)

set_option maxRecDepth 100000 in
set_option maxHeartbeats 4000000 in
theorem touch_lay_bad (H : Hs) (M : Mem) (ab hb a pb : Nat) (w : World) (h : As w ab hb a pb H M) (hk : M.canK (H.get 10) 8 2 = false) :
    Calls Try.prog 61 #[.pointer (some ⟨ab, 0, none⟩), .int .u32 8] w fun e w' => e = .panicked [{ v := .iface 49 (M.canF (H.get 10) 8 2).val, recovered := false }] ∧ IsHost w' hb H ∧ IsMem w' a pb M ∧ Upd [pb] w w' := by
  have hmo : Try.prog.follows .mixedOrders = true := by kernel_rfl
  have u0 : Upd [] w (w.alloc (.cells #[.pointer (some ⟨ab, 0, none⟩)] 127)) := (Upd.refl [] w).alloc _
  have S0 := Lib.hid h.start
  have U0 := Lib.hid u0
  have G0 := Lib.hid (Hs.get_range h.h 10)
  have HN := Lib.hid h.n
  have NW := Lib.hid (show w.heap.size ≠ pb ∧ ab ≠ pb ∧ hb ≠ pb from ⟨by have := h.m.pl; omega, h.n.2.2.2, h.n.2.2.1⟩)
  have G1 := Lib.hid (Hs.get_range h.h 11)
  have G2 := Lib.hid (show 0 ≤ H.two 1 ∧ H.two 1 < 18446744073709551616 by
    have g1 := Hs.get_range h.h (10 + 1)
    have g2 := Hs.get_range h.h (11 + 1)
    unfold Hs.two
    omega)
  have HK := Lib.hid hk
  have HWM := Lib.hid (show M.wr8M (H.get 10) (H.two 1) = M from wr8M_no hk)
  clear h hk u0
  go_enter Try.func61, Try.ntmps61
  go_wp2_with fail
  refine wp_drawD 12 (HpW (w.alloc (.cells #[.pointer (some ⟨ab, 0, none⟩)] 127)) w.heap.size ab hb a pb H M (M.wr8M (H.get 10) (H.two 1)) 8) (fun c w1 => c = [{ v := .iface 49 (M.canF (H.get 10) 8 2).val, recovered := false }] ∧ IsHost w1 hb H ∧ IsMem w1 a pb M ∧ Upd [pb] (w.alloc (.cells #[.pointer (some ⟨ab, 0, none⟩)] 127)) w1) (by kernel_rfl) (by decide +kernel) (HpW.start (S0.out.step (Upd.refl [] _).drew)) ?_ ?_
  · rintro c a' w' ⟨rfl, h1, h2, h3⟩ hd _ _
    exact ⟨hd, rfl, h1, h2, (U0.out.mono (T := [pb]) (by simp)).also h3 (by simp)⟩
  simp only [List.take_succ_cons, List.take_zero, List.drop_succ_cons, List.drop_zero]
  iterate 5
    apply headD_val rfl rfl
    · intro d K hd hK w5 hB1
      have HB := Lib.hid hB1
      have c1 := cells_of HB.out.t
      have c2 := cells_of HB.out.ask.h
      clear hB1
      go_wp2_with fail
      first
      | exact hK _ (HB.out.same _ (by decide))
      | exact HB.out.same _ (by decide)
      | exact hK _ (HB.out.quiet hu _ (by decide))
      | exact HB.out.quiet hu _ (by decide)
    · exact ⟨_, rfl⟩
  iterate 1
    apply headD_val rfl rfl
    · intro d K hd hK w5 hB1
      have HB := Lib.hid hB1
      have c1 := cells_of HB.out.t
      have c2 := cells_of HB.out.ask.h
      clear hB1
      go_wp2_with (go_at_call 127; refine (arg_any H ab hb a 0 (by decide) _ HB.out.h HB.out.ask).mono ?_; rintro e w' ⟨rfl, rfl⟩)
      first
      | exact hK _ (HB.out.same _ (by decide))
      | exact HB.out.same _ (by decide)
      | exact hK _ (HB.out.quiet hu _ (by decide))
      | exact HB.out.quiet hu _ (by decide)
    · exact ⟨_, rfl⟩
  iterate 1
    apply headD_val rfl rfl
    · intro d K hd hK w5 hB1
      have HB := Lib.hid hB1
      have c1 := cells_of HB.out.t
      have c2 := cells_of HB.out.ask.h
      clear hB1
      go_wp2_with fail
      first
      | exact hK _ (HB.out.same _ (by decide))
      | exact HB.out.same _ (by decide)
      | exact hK _ (HB.out.quiet hu _ (by decide))
      | exact HB.out.quiet hu _ (by decide)
    · exact ⟨_, rfl⟩
  iterate 1
    apply headD_val rfl rfl
    · intro d K hd hK w5 hB1
      have HB := Lib.hid hB1
      have c1 := cells_of HB.out.t
      have c2 := cells_of HB.out.ask.h
      clear hB1
      go_wp2_with (go_at_call 117; refine (two_any H ab hb a 1 (by decide) _ HB.out.h HB.out.ask).mono ?_; rintro e w' ⟨rfl, rfl⟩)
      first
      | exact hK _ (HB.out.same _ (by decide))
      | exact HB.out.same _ (by decide)
      | exact hK _ (HB.out.quiet hu _ (by decide))
      | exact HB.out.quiet hu _ (by decide)
    · exact ⟨_, rfl⟩
  apply headD_val rfl rfl
  · intro d K hd hK w5 hB1
    have HB := Lib.hid hB1
    have hm : IsMem w5 a pb M := by have := hB1.m; rw [hd] at this; exact this
    have HM := Lib.hid hm
    clear hB1 hm
    go_wp2_with (go_at_call 133; refine (Write8_any M a pb (H.get 10) (H.two 1) _ HM.out G0.out.1 G0.out.2 G2.out.1 G2.out.2).mono ?_; rintro e w6 ⟨rfl, hm6, hu⟩; rw [HK.out])
    first
    | exact hK _ (HB.out.mem hu hm6 NW.out)
    | exact HB.out.mem hu hm6 NW.out
  · exact ⟨_, rfl⟩
  iterate 2
    apply headD_val rfl rfl
    · intro d K hd hK w5 hB1
      have HB := Lib.hid hB1
      have c1 := cells_of HB.out.t
      have c2 := cells_of HB.out.ask.h
      clear hB1
      go_wp2_with fail
      first
      | exact hK _ (HB.out.same _ (by decide))
      | exact HB.out.same _ (by decide)
      | exact hK _ (HB.out.quiet hu _ (by decide))
      | exact HB.out.quiet hu _ (by decide)
    · exact ⟨_, rfl⟩
  refine headD_dies rfl rfl ?_ ?_
  · intro d w5 hd hB1
    have HB := Lib.hid hB1
    clear hB1
    go_wp2_with (go_at_call 128; refine (hmust_bad (M.canF (H.get 10) 8 2) _).mono ?_; rintro e w6 ⟨rfl, hu⟩)
    have hm := HB.out.m
    rw [HWM.out] at hm
    exact ⟨rfl, HB.out.h.keep hu (by simp), IsMem.keep (by simpa using hm) hu (by simp) (by simp), HB.out.u.also hu (by simp)⟩
  refine headD_nil (fun hdead => by cases hdead)

set_option maxRecDepth 100000 in
set_option maxHeartbeats 4000000 in
theorem touch_number_bad (H : Hs) (M : Mem) (ab hb a pb : Nat) (w : World) (h : As w ab hb a pb H M) (hk : M.rd8K (H.get 10) = false) :
    Calls Try.prog 61 #[.pointer (some ⟨ab, 0, none⟩), .int .u32 7] w fun e w' => e = .panicked [{ v := .iface 49 (M.rd8F (H.get 10)).val, recovered := false }] ∧ Upd [] w w' := by
  have hmo : Try.prog.follows .mixedOrders = true := by kernel_rfl
  have u0 : Upd [] w (w.alloc (.cells #[.pointer (some ⟨ab, 0, none⟩)] 127)) := (Upd.refl [] w).alloc _
  have S0 := Lib.hid h.start
  have U0 := Lib.hid u0
  have G0 := Lib.hid (Hs.get_range h.h 10)
  have HN := Lib.hid h.n
  have HK := Lib.hid hk
  have GV := Lib.hid (show 0 ≤ M.rd8V (H.get 10) ∧ M.rd8V (H.get 10) < 18446744073709551616 by
    have g1 := readV_range h.m (H.get 10) 4 1
    have g2 := readV_range h.m (plus (H.get 10) 4) 4 1
    unfold Mem.rd8V
    split <;> omega)
  clear h hk u0
  go_enter Try.func61, Try.ntmps61
  go_wp2_with fail
  refine wp_drawE 15 (HpD (w.alloc (.cells #[.pointer (some ⟨ab, 0, none⟩)] 127)) w.heap.size ab hb a pb H M (M.rd8F (H.get 10)) 11 13) (fun _ _ => False) (by kernel_rfl) (by decide +kernel) (fun r0 => HpD.start (S0.out.step (Upd.refl [] _).drew) (by decide) r0) (fun _ _ _ h => h.elim) ?_
  simp only [List.take_succ_cons, List.take_zero, List.drop_succ_cons, List.drop_zero]
  iterate 5
    apply headE_val0 rfl rfl
    · intro d r0 K hd hdep hK w5 hB1
      have HB := Lib.hid hB1
      have c1 := cells_of HB.out.b.t
      have c2 := cells_of HB.out.b.k.h
      clear hB1 hdep
      go_wp2_with fail
      first
      | exact hK _ (HB.out.same _ (by decide) (by decide))
      | exact HB.out.same _ (by decide) (by decide)
      | exact hK _ (HB.out.quiet hu _ (by decide) (by decide))
      | exact HB.out.quiet hu _ (by decide) (by decide)
    · exact ⟨_, rfl⟩
  iterate 1
    apply headE_val0 rfl rfl
    · intro d r0 K hd hdep hK w5 hB1
      have HB := Lib.hid hB1
      have c1 := cells_of HB.out.b.t
      have c2 := cells_of HB.out.b.k.h
      clear hB1 hdep
      go_wp2_with (go_at_call 127; refine (arg_any H ab hb a 0 (by decide) _ HB.out.b.h HB.out.b.k).mono ?_; rintro e w' ⟨rfl, rfl⟩)
      first
      | exact hK _ (HB.out.same _ (by decide) (by decide))
      | exact HB.out.same _ (by decide) (by decide)
      | exact hK _ (HB.out.quiet hu _ (by decide) (by decide))
      | exact HB.out.quiet hu _ (by decide) (by decide)
    · exact ⟨_, rfl⟩
  iterate 1
    apply headE_val0 rfl rfl
    · intro d r0 K hd hdep hK w5 hB1
      have HB := Lib.hid hB1
      have c1 := cells_of HB.out.b.t
      have c2 := cells_of HB.out.b.k.h
      clear hB1 hdep
      go_wp2_with (go_at_call 132; refine (Read8_any M a pb (H.get 10) _ HB.out.b.m G0.out.1 G0.out.2).mono ?_; rintro e w6 ⟨rfl, hu⟩; rw [HK.out])
      first
      | exact hK _ (HB.out.same _ (by decide) (by decide))
      | exact HB.out.same _ (by decide) (by decide)
      | exact hK _ (HB.out.quiet hu _ (by decide) (by decide))
      | exact HB.out.quiet hu _ (by decide) (by decide)
    · exact ⟨_, rfl⟩
  iterate 4
    apply headE_val0 rfl rfl
    · intro d r0 K hd hdep hK w5 hB1
      have HB := Lib.hid hB1
      have c1 := cells_of HB.out.b.t
      have c2 := cells_of HB.out.b.k.h
      clear hB1 hdep
      go_wp2_with fail
      first
      | exact hK _ (HB.out.same _ (by decide) (by decide))
      | exact HB.out.same _ (by decide) (by decide)
      | exact hK _ (HB.out.quiet hu _ (by decide) (by decide))
      | exact HB.out.quiet hu _ (by decide) (by decide)
    · exact ⟨_, rfl⟩
  refine headE_free rfl (fun _ => rfl) 6 rfl (by simp [Act.put]) ?_ ?_
  · intro d r0 K hd w5 hB1 hK
    have HB := Lib.hid hB1
    clear hB1
    simp only [fillE]
    go_wp2_with fail
    first
    | exact hK (.pointer (some ⟨w5.heap.size, 0, none⟩)) _ (HB.out.lay hd)
    | exact HB.out.lay hd
  iterate 1
    apply headE_val rfl (fun _ => rfl)
    · intro d r0 K hd hdep hK w5 hB1
      have HB := Lib.hid hB1
      have c1 := cells_of HB.out.b.t
      have c2 := cells_of HB.out.b.k.h
      clear hB1 hdep
      simp only [fillE]
      go_wp2_with fail
      first
      | exact hK _ (HB.out.same _ (by decide) (by decide))
      | exact HB.out.same _ (by decide) (by decide)
      | exact hK _ (HB.out.quiet hu _ (by decide) (by decide))
      | exact HB.out.quiet hu _ (by decide) (by decide)
    · exact ⟨_, fun _ => rfl, rfl⟩
  apply headE_val rfl (fun _ => rfl)
  · intro d r0 K hd hdep hK w5 hB1
    have h8 : d 11 = true := hdep ⟨11, .data⟩ (by simp) rfl
    obtain ⟨g, Z, e1, e2, e3, e4⟩ := hB1.x h8
    refine wp_store_flt (M.rd8F (H.get 10)) Z g _ _ rfl (by show r0 11 = _; exact e1) rfl e3 ?_
    exact hK _ (hB1.store h8 e1 e2 e3)
  · exact ⟨_, fun _ => rfl, rfl⟩
  iterate 1
    apply headE_val rfl (fun _ => rfl)
    · intro d r0 K hd hdep hK w5 hB1
      have HB := Lib.hid hB1
      have c1 := cells_of HB.out.b.t
      have c2 := cells_of HB.out.b.k.h
      clear hB1 hdep
      simp only [fillE]
      go_wp2_with fail
      first
      | exact hK _ (HB.out.same _ (by decide) (by decide))
      | exact HB.out.same _ (by decide) (by decide)
      | exact hK _ (HB.out.quiet hu _ (by decide) (by decide))
      | exact HB.out.quiet hu _ (by decide) (by decide)
    · exact ⟨_, fun _ => rfl, rfl⟩
  refine headE_nil (fun _ r0 w5 d hall hB1 => ?_)
  obtain ⟨g5, e1, hG⟩ := hB1.fin (hall 11 (by decide)) (hall 13 (by decide))
  have G5 := Lib.hid (And.intro hB1.b hG)
  show wpList _ _ _ _ (Act.put (fillE _ _ [] _) (some 6) (r0 11)) _
  rw [e1]
  simp only [fillE]
  clear hG e1 hall hB1
  have cf := cells_of G5.out.2
  unfold fltC at cf
  have ct := cells_of G5.out.1.t
  go_wp2_with (have _t := G5; clear _t; go_at_call 128; refine (hmust_bad (M.rd8F (H.get 10)) _).mono ?_; rintro e w6 ⟨rfl, hu⟩; have G6 := Lib.hid (U0.out.also (G5.out.1.u.also hu (by simp)) (by simp)); clear hu G5 cf ct)
  exact ⟨rfl, rfl, G6.out⟩

set_option maxRecDepth 100000 in
set_option maxHeartbeats 4000000 in
theorem touch_can2 (H : Hs) (M : Mem) (ab hb a pb : Nat) (w : World) (h : As w ab hb a pb H M) :
    Calls Try.prog 61 #[.pointer (some ⟨ab, 0, none⟩), .int .u32 14] w fun e w' => (M.canRow (H.get 10) (min (H.get 11) 16).toNat = true ∧ e = .returned (.tuple #[]) ∧ IsHost w' hb (H.put 10 0) ∧ IsMem w' a pb M ∧ Upd [hb] w w') ∨ (M.canRow (H.get 10) (min (H.get 11) 16).toNat = false ∧ (∃ F : Flt, F = M.canF (H.get 10) (min (H.get 11) 16).toNat 3 ∧ e = .panicked [{ v := .iface 49 F.val, recovered := false }]) ∧ Upd [] w w') := by
  have hmo : Try.prog.follows .mixedOrders = true := by kernel_rfl
  have u0 : Upd [] w (w.alloc (.cells #[.pointer (some ⟨ab, 0, none⟩)] 127)) := (Upd.refl [] w).alloc _
  have S0 := Lib.hid h.start
  have U0 := Lib.hid u0
  have G0 := Lib.hid (Hs.get_range h.h 10)
  have HN := Lib.hid h.n
  have G1 := Lib.hid (Hs.get_range h.h 11)
  obtain ⟨n, hn⟩ : ∃ n : Nat, min (H.get 11) 16 = n := ⟨(min (H.get 11) 16).toNat, by have := G1.out; omega⟩
  have hn16 : n ≤ 16 := by have := G1.out; omega
  have hnn : (min (H.get 11) 16).toNat = n := by omega
  rw [hnn]
  clear h u0 hnn
  go_enter Try.func61, Try.ntmps61
  have ct := cells_of S0.out.t
  go_wp2_with (have _t := ct; clear _t; go_at_call 127; refine (arg_any H ab hb a 1 (by decide) _ S0.out.h S0.out.k).mono ?_; rintro e w' ⟨rfl, rfl⟩; clear ct)
  · have hL : 16 = (n : Int) := by omega
    clear hn h
    go_loopw [86] (fun t wl => ∃ j : Nat, j ≤ n ∧ t = .int .u32 j ∧ (∀ i, i < j → M.canK (plus (H.get 10) i) 1 3 = true) ∧ HpS (w.alloc (.cells #[.pointer (some ⟨ab, 0, none⟩)] 127)) w.heap.size ab hb a pb H M wl) (fun t wl => n - (intOf t).toNat)
    case atStart => exact ⟨0, Nat.zero_le _, rfl, fun _ h => absurd h (by omega), S0.out⟩
    case round =>
      obtain ⟨j, hj, rfl, hc, hS⟩ := hrel
      have HC := Lib.hid hc
      have HS := Lib.hid hS
      clear hc hS
      by_cases hlt : j < n
      · have hjd : decide ((j : Int) < 16) = true := by rw [hL]; simpa using hlt
        have q2 : (H.get 10 + j) % 4294967296 = plus (H.get 10) j := rfl
        have HL := Lib.hid hL
        have HP := Lib.hid (show 0 ≤ plus (H.get 10) j ∧ plus (H.get 10) j < 4294967296 by unfold plus; omega)
        have ct := cells_of HS.out.t
        clear hL
        go_wp2_with (have _t := ct; clear _t; go_at_call 127; refine (arg_any H ab hb a 0 (by decide) _ HS.out.h HS.out.k).mono ?_; rintro e w' ⟨rfl, rfl⟩; clear ct)
        have CP := Lib.hid (canK1_place M _ HP.out)
        have B0 := Lib.hid (show HpS (w.alloc (.cells #[.pointer (some ⟨ab, 0, none⟩)] 127)) w.heap.size ab hb a pb H M (wr.alloc (.cells (opCells ⟨3, 0, plus (H.get 10) j, -1, -1, 1⟩) 26)) ∧ (wr.alloc (.cells (opCells ⟨3, 0, plus (H.get 10) j, -1, -1, 1⟩) 26)).heap[wr.heap.size]? = some (.cells (opCells ⟨3, 0, plus (H.get 10) j, -1, -1, 1⟩) 26 (0, 0)) from ⟨HS.out.step ((Upd.refl [] wr).alloc _), heap_alloc_new _ _⟩)
        cases hk : M.canK (plus (H.get 10) j) 1 3
        · have HK := Lib.hid hk
          clear hk
          refine wp_draw 10 (fun w5 => HpS (w.alloc (.cells #[.pointer (some ⟨ab, 0, none⟩)] 127)) w.heap.size ab hb a pb H M w5 ∧ w5.heap[wr.heap.size]? = some (.cells (opCells ⟨3, 0, plus (H.get 10) j, -1, -1, 1⟩) 26 (0, 0))) (fun c w5 => c = [{ v := .iface 49 (M.canF (H.get 10) n 3).val, recovered := false }] ∧ Upd [] (w.alloc (.cells #[.pointer (some ⟨ab, 0, none⟩)] 127)) w5) (by kernel_rfl) (by decide +kernel) ⟨B0.out.1.step (Upd.refl [] _).drew, B0.out.2⟩ ?_ ?_
          · rintro c a' w' ⟨rfl, h2⟩ hd _ _
            refine ⟨hd, .inr ⟨?_, ⟨_, rfl, rfl⟩, U0.out.also h2 (by simp)⟩⟩
            rw [Mem.canRow, List.all_eq_false]
            exact ⟨j, List.mem_range.2 hlt, by rw [HK.out]; simp⟩
          simp only [List.take_succ_cons, List.take_zero, List.drop_succ_cons, List.drop_zero]
          iterate 6
            apply headW_val rfl rfl
            · intro K hK w5 hB1
              have HB := Lib.hid hB1
              have c1 := cells_of HB.out.1.t
              have c2 := cells_of HB.out.1.k.h
              have c3 := cells_of HB.out.2
              unfold opCells at c3
              clear hB1
              go_wp2_with fail
              first
              | exact hK _ HB.out
              | exact HB.out
              | exact hK _ ⟨HB.out.1.step hu, hu.get HB.out.2 (by simp)⟩
              | exact ⟨HB.out.1.step hu, hu.get HB.out.2 (by simp)⟩
            · exact ⟨_, rfl⟩
          iterate 1
            apply headW_val rfl rfl
            · intro K hK w5 hB1
              have HB := Lib.hid hB1
              have c1 := cells_of HB.out.1.t
              have c2 := cells_of HB.out.1.k.h
              have c3 := cells_of HB.out.2
              unfold opCells at c3
              clear hB1
              go_wp2_with (go_at_call 134; refine (opCan_any M a pb St.zero ⟨3, 0, plus (H.get 10) j, -1, -1, 1⟩ 1 3 _ HB.out.1.m).mono ?_; rintro e w6 ⟨rfl, hu⟩; rw [CP.out.1, CP.out.2, HK.out])
              first
              | exact hK _ HB.out
              | exact HB.out
              | exact hK _ ⟨HB.out.1.step hu, hu.get HB.out.2 (by simp)⟩
              | exact ⟨HB.out.1.step hu, hu.get HB.out.2 (by simp)⟩
            · exact ⟨_, rfl⟩
          iterate 2
            apply headW_val rfl rfl
            · intro K hK w5 hB1
              have HB := Lib.hid hB1
              have c1 := cells_of HB.out.1.t
              have c2 := cells_of HB.out.1.k.h
              have c3 := cells_of HB.out.2
              unfold opCells at c3
              clear hB1
              go_wp2_with fail
              first
              | exact hK _ HB.out
              | exact HB.out
              | exact hK _ ⟨HB.out.1.step hu, hu.get HB.out.2 (by simp)⟩
              | exact ⟨HB.out.1.step hu, hu.get HB.out.2 (by simp)⟩
            · exact ⟨_, rfl⟩
          refine headW_dies rfl rfl ?_ ?_
          · intro w5 hB1
            have HB := Lib.hid hB1
            clear hB1
            go_wp2_with (go_at_call 128; refine (hmust_bad (M.canF (plus (H.get 10) j) 1 3) _).mono ?_; rintro e w6 ⟨rfl, hu⟩)
            exact ⟨by rw [canF_first M (H.get 10) n j hlt HC.out HK.out], HB.out.1.u.also hu (by simp)⟩
          refine headW_nil (fun hdead => by cases hdead)
        · have HK := Lib.hid hk
          clear hk
          refine wp_draw 10 (fun w5 => HpS (w.alloc (.cells #[.pointer (some ⟨ab, 0, none⟩)] 127)) w.heap.size ab hb a pb H M w5 ∧ w5.heap[wr.heap.size]? = some (.cells (opCells ⟨3, 0, plus (H.get 10) j, -1, -1, 1⟩) 26 (0, 0))) (fun _ _ => False) (by kernel_rfl) (by decide +kernel) ⟨B0.out.1.step (Upd.refl [] _).drew, B0.out.2⟩ (fun _ _ _ h => h.elim) ?_
          simp only [List.take_succ_cons, List.take_zero, List.drop_succ_cons, List.drop_zero]
          iterate 6
            apply headW_val rfl rfl
            · intro K hK w5 hB1
              have HB := Lib.hid hB1
              have c1 := cells_of HB.out.1.t
              have c2 := cells_of HB.out.1.k.h
              have c3 := cells_of HB.out.2
              unfold opCells at c3
              clear hB1
              go_wp2_with fail
              first
              | exact hK _ HB.out
              | exact HB.out
              | exact hK _ ⟨HB.out.1.step hu, hu.get HB.out.2 (by simp)⟩
              | exact ⟨HB.out.1.step hu, hu.get HB.out.2 (by simp)⟩
            · exact ⟨_, rfl⟩
          iterate 1
            apply headW_val rfl rfl
            · intro K hK w5 hB1
              have HB := Lib.hid hB1
              have c1 := cells_of HB.out.1.t
              have c2 := cells_of HB.out.1.k.h
              have c3 := cells_of HB.out.2
              unfold opCells at c3
              clear hB1
              go_wp2_with (go_at_call 134; refine (opCan_any M a pb St.zero ⟨3, 0, plus (H.get 10) j, -1, -1, 1⟩ 1 3 _ HB.out.1.m).mono ?_; rintro e w6 ⟨rfl, hu⟩; rw [CP.out.1, CP.out.2, HK.out])
              first
              | exact hK _ HB.out
              | exact HB.out
              | exact hK _ ⟨HB.out.1.step hu, hu.get HB.out.2 (by simp)⟩
              | exact ⟨HB.out.1.step hu, hu.get HB.out.2 (by simp)⟩
            · exact ⟨_, rfl⟩
          iterate 2
            apply headW_val rfl rfl
            · intro K hK w5 hB1
              have HB := Lib.hid hB1
              have c1 := cells_of HB.out.1.t
              have c2 := cells_of HB.out.1.k.h
              have c3 := cells_of HB.out.2
              unfold opCells at c3
              clear hB1
              go_wp2_with fail
              first
              | exact hK _ HB.out
              | exact HB.out
              | exact hK _ ⟨HB.out.1.step hu, hu.get HB.out.2 (by simp)⟩
              | exact ⟨HB.out.1.step hu, hu.get HB.out.2 (by simp)⟩
            · exact ⟨_, rfl⟩
          iterate 1
            apply headW_val rfl rfl
            · intro K hK w5 hB1
              have HB := Lib.hid hB1
              have c1 := cells_of HB.out.1.t
              have c2 := cells_of HB.out.1.k.h
              have c3 := cells_of HB.out.2
              unfold opCells at c3
              clear hB1
              go_wp2_with (go_at_call 128; refine (hmust_ok (M.canF (plus (H.get 10) j) 1 3) _).mono ?_; rintro e w6 ⟨rfl, hu⟩)
              first
              | exact hK _ HB.out
              | exact HB.out
              | exact hK _ ⟨HB.out.1.step hu, hu.get HB.out.2 (by simp)⟩
              | exact ⟨HB.out.1.step hu, hu.get HB.out.2 (by simp)⟩
            · exact ⟨_, rfl⟩
          refine headW_nil (fun _ w7 hB1 => ?_)
          have HB := Lib.hid hB1
          clear hB1
          go_wp2_with fail
          go_roundw
          case rel => exact ⟨j + 1, by omega, by go_num, fun i hi => by
              by_cases e : i = j
              · subst e; exact HK.out
              · exact HC.out i (by omega), HB.out.1⟩
          case measure => simp [intOf]; omega
      · obtain rfl : n = j := by omega
        have hjd : decide ((n : Int) < 16) = false := by rw [hL]; simp
        have ct := cells_of HS.out.t
        have HL := Lib.hid hL
        clear hL
        go_wp2_with (have _t := ct; clear _t; go_at_call 123; refine (answers_any H ab hb a 0 (by decide) _ HS.out.h HS.out.k).mono ?_; rintro e w7 ⟨rfl, h7, hu⟩; have G7 := Lib.hid (And.intro h7 (And.intro (HS.out.m.keep hu (by simpa using fun e => HN.out.2.1 e.symm) (by simpa using fun e => HN.out.2.2.1 e.symm)) (((U0.out.also HS.out.u (by simp)).mono (T := [hb]) (by simp)).also hu (by simp)))); clear h7 hu ct)
        go_end0
        refine .inl ⟨?_, rfl, G7.out.1, G7.out.2.1, G7.out.2.2⟩
        rw [Mem.canRow, List.all_eq_true]
        exact fun i hi => HC.out i (List.mem_range.1 hi)
  · have hL : H.get 11 = (n : Int) := by omega
    clear hn h
    go_loopw [86] (fun t wl => ∃ j : Nat, j ≤ n ∧ t = .int .u32 j ∧ (∀ i, i < j → M.canK (plus (H.get 10) i) 1 3 = true) ∧ HpS (w.alloc (.cells #[.pointer (some ⟨ab, 0, none⟩)] 127)) w.heap.size ab hb a pb H M wl) (fun t wl => n - (intOf t).toNat)
    case atStart => exact ⟨0, Nat.zero_le _, rfl, fun _ h => absurd h (by omega), S0.out⟩
    case round =>
      obtain ⟨j, hj, rfl, hc, hS⟩ := hrel
      have HC := Lib.hid hc
      have HS := Lib.hid hS
      clear hc hS
      by_cases hlt : j < n
      · have hjd : decide ((j : Int) < H.get 11) = true := by rw [hL]; simpa using hlt
        have q2 : (H.get 10 + j) % 4294967296 = plus (H.get 10) j := rfl
        have HL := Lib.hid hL
        have HP := Lib.hid (show 0 ≤ plus (H.get 10) j ∧ plus (H.get 10) j < 4294967296 by unfold plus; omega)
        have ct := cells_of HS.out.t
        clear hL
        go_wp2_with (have _t := ct; clear _t; go_at_call 127; refine (arg_any H ab hb a 0 (by decide) _ HS.out.h HS.out.k).mono ?_; rintro e w' ⟨rfl, rfl⟩; clear ct)
        have CP := Lib.hid (canK1_place M _ HP.out)
        have B0 := Lib.hid (show HpS (w.alloc (.cells #[.pointer (some ⟨ab, 0, none⟩)] 127)) w.heap.size ab hb a pb H M (wr.alloc (.cells (opCells ⟨3, 0, plus (H.get 10) j, -1, -1, 1⟩) 26)) ∧ (wr.alloc (.cells (opCells ⟨3, 0, plus (H.get 10) j, -1, -1, 1⟩) 26)).heap[wr.heap.size]? = some (.cells (opCells ⟨3, 0, plus (H.get 10) j, -1, -1, 1⟩) 26 (0, 0)) from ⟨HS.out.step ((Upd.refl [] wr).alloc _), heap_alloc_new _ _⟩)
        cases hk : M.canK (plus (H.get 10) j) 1 3
        · have HK := Lib.hid hk
          clear hk
          refine wp_draw 10 (fun w5 => HpS (w.alloc (.cells #[.pointer (some ⟨ab, 0, none⟩)] 127)) w.heap.size ab hb a pb H M w5 ∧ w5.heap[wr.heap.size]? = some (.cells (opCells ⟨3, 0, plus (H.get 10) j, -1, -1, 1⟩) 26 (0, 0))) (fun c w5 => c = [{ v := .iface 49 (M.canF (H.get 10) n 3).val, recovered := false }] ∧ Upd [] (w.alloc (.cells #[.pointer (some ⟨ab, 0, none⟩)] 127)) w5) (by kernel_rfl) (by decide +kernel) ⟨B0.out.1.step (Upd.refl [] _).drew, B0.out.2⟩ ?_ ?_
          · rintro c a' w' ⟨rfl, h2⟩ hd _ _
            refine ⟨hd, .inr ⟨?_, ⟨_, rfl, rfl⟩, U0.out.also h2 (by simp)⟩⟩
            rw [Mem.canRow, List.all_eq_false]
            exact ⟨j, List.mem_range.2 hlt, by rw [HK.out]; simp⟩
          simp only [List.take_succ_cons, List.take_zero, List.drop_succ_cons, List.drop_zero]
          iterate 6
            apply headW_val rfl rfl
            · intro K hK w5 hB1
              have HB := Lib.hid hB1
              have c1 := cells_of HB.out.1.t
              have c2 := cells_of HB.out.1.k.h
              have c3 := cells_of HB.out.2
              unfold opCells at c3
              clear hB1
              go_wp2_with fail
              first
              | exact hK _ HB.out
              | exact HB.out
              | exact hK _ ⟨HB.out.1.step hu, hu.get HB.out.2 (by simp)⟩
              | exact ⟨HB.out.1.step hu, hu.get HB.out.2 (by simp)⟩
            · exact ⟨_, rfl⟩
          iterate 1
            apply headW_val rfl rfl
            · intro K hK w5 hB1
              have HB := Lib.hid hB1
              have c1 := cells_of HB.out.1.t
              have c2 := cells_of HB.out.1.k.h
              have c3 := cells_of HB.out.2
              unfold opCells at c3
              clear hB1
              go_wp2_with (go_at_call 134; refine (opCan_any M a pb St.zero ⟨3, 0, plus (H.get 10) j, -1, -1, 1⟩ 1 3 _ HB.out.1.m).mono ?_; rintro e w6 ⟨rfl, hu⟩; rw [CP.out.1, CP.out.2, HK.out])
              first
              | exact hK _ HB.out
              | exact HB.out
              | exact hK _ ⟨HB.out.1.step hu, hu.get HB.out.2 (by simp)⟩
              | exact ⟨HB.out.1.step hu, hu.get HB.out.2 (by simp)⟩
            · exact ⟨_, rfl⟩
          iterate 2
            apply headW_val rfl rfl
            · intro K hK w5 hB1
              have HB := Lib.hid hB1
              have c1 := cells_of HB.out.1.t
              have c2 := cells_of HB.out.1.k.h
              have c3 := cells_of HB.out.2
              unfold opCells at c3
              clear hB1
              go_wp2_with fail
              first
              | exact hK _ HB.out
              | exact HB.out
              | exact hK _ ⟨HB.out.1.step hu, hu.get HB.out.2 (by simp)⟩
              | exact ⟨HB.out.1.step hu, hu.get HB.out.2 (by simp)⟩
            · exact ⟨_, rfl⟩
          refine headW_dies rfl rfl ?_ ?_
          · intro w5 hB1
            have HB := Lib.hid hB1
            clear hB1
            go_wp2_with (go_at_call 128; refine (hmust_bad (M.canF (plus (H.get 10) j) 1 3) _).mono ?_; rintro e w6 ⟨rfl, hu⟩)
            exact ⟨by rw [canF_first M (H.get 10) n j hlt HC.out HK.out], HB.out.1.u.also hu (by simp)⟩
          refine headW_nil (fun hdead => by cases hdead)
        · have HK := Lib.hid hk
          clear hk
          refine wp_draw 10 (fun w5 => HpS (w.alloc (.cells #[.pointer (some ⟨ab, 0, none⟩)] 127)) w.heap.size ab hb a pb H M w5 ∧ w5.heap[wr.heap.size]? = some (.cells (opCells ⟨3, 0, plus (H.get 10) j, -1, -1, 1⟩) 26 (0, 0))) (fun _ _ => False) (by kernel_rfl) (by decide +kernel) ⟨B0.out.1.step (Upd.refl [] _).drew, B0.out.2⟩ (fun _ _ _ h => h.elim) ?_
          simp only [List.take_succ_cons, List.take_zero, List.drop_succ_cons, List.drop_zero]
          iterate 6
            apply headW_val rfl rfl
            · intro K hK w5 hB1
              have HB := Lib.hid hB1
              have c1 := cells_of HB.out.1.t
              have c2 := cells_of HB.out.1.k.h
              have c3 := cells_of HB.out.2
              unfold opCells at c3
              clear hB1
              go_wp2_with fail
              first
              | exact hK _ HB.out
              | exact HB.out
              | exact hK _ ⟨HB.out.1.step hu, hu.get HB.out.2 (by simp)⟩
              | exact ⟨HB.out.1.step hu, hu.get HB.out.2 (by simp)⟩
            · exact ⟨_, rfl⟩
          iterate 1
            apply headW_val rfl rfl
            · intro K hK w5 hB1
              have HB := Lib.hid hB1
              have c1 := cells_of HB.out.1.t
              have c2 := cells_of HB.out.1.k.h
              have c3 := cells_of HB.out.2
              unfold opCells at c3
              clear hB1
              go_wp2_with (go_at_call 134; refine (opCan_any M a pb St.zero ⟨3, 0, plus (H.get 10) j, -1, -1, 1⟩ 1 3 _ HB.out.1.m).mono ?_; rintro e w6 ⟨rfl, hu⟩; rw [CP.out.1, CP.out.2, HK.out])
              first
              | exact hK _ HB.out
              | exact HB.out
              | exact hK _ ⟨HB.out.1.step hu, hu.get HB.out.2 (by simp)⟩
              | exact ⟨HB.out.1.step hu, hu.get HB.out.2 (by simp)⟩
            · exact ⟨_, rfl⟩
          iterate 2
            apply headW_val rfl rfl
            · intro K hK w5 hB1
              have HB := Lib.hid hB1
              have c1 := cells_of HB.out.1.t
              have c2 := cells_of HB.out.1.k.h
              have c3 := cells_of HB.out.2
              unfold opCells at c3
              clear hB1
              go_wp2_with fail
              first
              | exact hK _ HB.out
              | exact HB.out
              | exact hK _ ⟨HB.out.1.step hu, hu.get HB.out.2 (by simp)⟩
              | exact ⟨HB.out.1.step hu, hu.get HB.out.2 (by simp)⟩
            · exact ⟨_, rfl⟩
          iterate 1
            apply headW_val rfl rfl
            · intro K hK w5 hB1
              have HB := Lib.hid hB1
              have c1 := cells_of HB.out.1.t
              have c2 := cells_of HB.out.1.k.h
              have c3 := cells_of HB.out.2
              unfold opCells at c3
              clear hB1
              go_wp2_with (go_at_call 128; refine (hmust_ok (M.canF (plus (H.get 10) j) 1 3) _).mono ?_; rintro e w6 ⟨rfl, hu⟩)
              first
              | exact hK _ HB.out
              | exact HB.out
              | exact hK _ ⟨HB.out.1.step hu, hu.get HB.out.2 (by simp)⟩
              | exact ⟨HB.out.1.step hu, hu.get HB.out.2 (by simp)⟩
            · exact ⟨_, rfl⟩
          refine headW_nil (fun _ w7 hB1 => ?_)
          have HB := Lib.hid hB1
          clear hB1
          go_wp2_with fail
          go_roundw
          case rel => exact ⟨j + 1, by omega, by go_num, fun i hi => by
              by_cases e : i = j
              · subst e; exact HK.out
              · exact HC.out i (by omega), HB.out.1⟩
          case measure => simp [intOf]; omega
      · obtain rfl : n = j := by omega
        have hjd : decide ((n : Int) < H.get 11) = false := by rw [hL]; simp
        have ct := cells_of HS.out.t
        have HL := Lib.hid hL
        clear hL
        go_wp2_with (have _t := ct; clear _t; go_at_call 123; refine (answers_any H ab hb a 0 (by decide) _ HS.out.h HS.out.k).mono ?_; rintro e w7 ⟨rfl, h7, hu⟩; have G7 := Lib.hid (And.intro h7 (And.intro (HS.out.m.keep hu (by simpa using fun e => HN.out.2.1 e.symm) (by simpa using fun e => HN.out.2.2.1 e.symm)) (((U0.out.also HS.out.u (by simp)).mono (T := [hb]) (by simp)).also hu (by simp)))); clear h7 hu ct)
        go_end0
        refine .inl ⟨?_, rfl, G7.out.1, G7.out.2.1, G7.out.2.2⟩
        rw [Mem.canRow, List.all_eq_true]
        exact fun i hi => HC.out i (List.mem_range.1 hi)
end Go.Proofs.Ytoplekfnghkkdaa
