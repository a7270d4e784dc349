/-
  Package helper: touches, each arm by its contract. No condition.
-/
import Derived.Test.YtncafchgdgmeaaaHpC
namespace Go.Proofs.Ytncafchgdgmeaaa
open Go Go.RowKit
set_option linter.unusedVariables false
set_option linter.unusedSimpArgs false

/-- One that asks, its host, its memory, each by itself. -/
structure As (w : World) (ab hb a pb : Nat) (H : Hs) (M : Mem) : Prop where
  k : IsAsk w ab hb a
  h : IsHost w hb H
  m : IsMem w a pb M
  n : ab ≠ hb ∧ hb ≠ a ∧ hb ≠ pb ∧ ab ≠ pb

theorem As.start {w : World} {ab hb a pb : Nat} {H : Hs} {M : Mem} (h : As w ab hb a pb H M) :
    HpS (w.alloc (.cells #[.pointer (some ⟨ab, 0, none⟩)] 137)) w.heap.size ab hb a pb H M (w.alloc (.cells #[.pointer (some ⟨ab, 0, none⟩)] 137)) := by
  have u : Upd [] w (w.alloc (.cells #[.pointer (some ⟨ab, 0, none⟩)] 137)) := (Upd.refl [] w).alloc _
  have l1 := lt_of_heap h.k.h
  have l2 := h.h.lt
  have l3 := h.m.al
  have l4 := h.m.pl
  exact ⟨heap_alloc_new _ _, h.k.keep u (by simp), h.h.keep u (by simp), h.m.keep u (by simp) (by simp), by simp; omega, Upd.refl _ _⟩

/-- Along a drawn region that writes memory (operation k). -/
structure HpW (w : World) (tb ab hb a pb : Nat) (H : Hs) (M M' : Mem) (k : Nat) (d : Nat → Bool) (w1 : World) : Prop where
  t : w1.heap[tb]? = some (.cells #[.pointer (some ⟨ab, 0, none⟩)] 137 (0, 0))
  ask : IsAsk w1 ab hb a
  h : IsHost w1 hb H
  m : IsMem w1 a pb (if d k then M' else M)
  u : Upd [pb] w w1

section
variable {w w1 w2 : World} {tb ab hb a pb g : Nat} {H : Hs} {M M' : Mem} {k : Nat} {d : Nat → Bool}
theorem HpW.start (h : HpS w tb ab hb a pb H M w1) : HpW w tb ab hb a pb H M M' k (fun _ => false) w1 := ⟨h.t, h.k, h.h, h.m, h.u.mono (by simp)⟩
theorem HpW.quiet (h : HpW w tb ab hb a pb H M M' k d w1) (hu : Upd [] w1 w2) (m : Nat) (h1 : k ≠ m) : HpW w tb ab hb a pb H M M' k (updD d m) w2 :=
  ⟨hu.get h.t (by simp), h.ask.keep hu (by simp), h.h.keep hu (by simp), by rw [updD_ne h1]; exact h.m.keep hu (by simp) (by simp), h.u.also hu (by simp)⟩
theorem HpW.same (h : HpW w tb ab hb a pb H M M' k d w1) (m : Nat) (h1 : k ≠ m) : HpW w tb ab hb a pb H M M' k (updD d m) w1 := h.quiet (Upd.refl [] w1) m h1
theorem HpW.mem (h : HpW w tb ab hb a pb H M M' k d w1) (hu : Upd [pb] w1 w2) (hm : IsMem w2 a pb M') (n : tb ≠ pb ∧ ab ≠ pb ∧ hb ≠ pb) : HpW w tb ab hb a pb H M M' k (updD d k) w2 :=
  ⟨hu.get h.t (by simp; exact n.1), h.ask.keep hu (by simp; exact n.2.1), h.h.keep hu (by simp; exact n.2.2), by rw [updD_eq]; exact hm, h.u.also hu (by simp)⟩
end

set_option maxRecDepth 100000 in
set_option maxHeartbeats 4000000 in
theorem touch_load4_ok (H : Hs) (M : Mem) (ab hb a pb : Nat) (w : World) (h : As w ab hb a pb H M) (hk : M.readK (H.get 10) 4 1 = true) :
    Calls Try.prog 85 #[.pointer (some ⟨ab, 0, none⟩), .int .u32 1] w fun e w' => e = .returned (.tuple #[]) ∧ IsHost w' hb (H.put 10 (M.readV (H.get 10) 4 1)) ∧ IsMem w' a pb (M) ∧ Upd [hb, pb] w w' := by
  have hmo : Try.prog.follows .mixedOrders = true := by kernel_rfl
  have u0 : Upd [] w (w.alloc (.cells #[.pointer (some ⟨ab, 0, none⟩)] 137)) := (Upd.refl [] w).alloc _
  have S0 := Lib.hid h.start
  have U0 := Lib.hid u0
  have G0 := Lib.hid (Hs.get_range h.h 10)
  have HN := Lib.hid h.n
  have HK := Lib.hid hk
  clear h hk u0
  go_enter Try.func85, Try.ntmps85
  go_wp2_with (have _t := S0; clear _t; go_at_call 112; refine (loads_ok H M 4 _ ab hb a pb _ S0.out ⟨HN.out.2.1, HN.out.2.2.1⟩ HK.out).mono ?_; rintro e w7 ⟨rfl, h1, h2, h3⟩; have G7 := Lib.hid (And.intro h1 (And.intro h2 ((U0.out.mono (T := [hb]) (by simp)).also h3 (by simp)))); clear h1 h2 h3 S0)
  go_end0
  exact ⟨rfl, G7.out.1, G7.out.2.1, G7.out.2.2.mono (by simp)⟩

set_option maxRecDepth 100000 in
set_option maxHeartbeats 4000000 in
theorem touch_load1_ok (H : Hs) (M : Mem) (ab hb a pb : Nat) (w : World) (h : As w ab hb a pb H M) (hk : M.readK (H.get 10) 1 1 = true) :
    Calls Try.prog 85 #[.pointer (some ⟨ab, 0, none⟩), .int .u32 2] w fun e w' => e = .returned (.tuple #[]) ∧ IsHost w' hb (H.put 10 (M.readV (H.get 10) 1 1)) ∧ IsMem w' a pb (M) ∧ Upd [hb, pb] w w' := by
  have hmo : Try.prog.follows .mixedOrders = true := by kernel_rfl
  have u0 : Upd [] w (w.alloc (.cells #[.pointer (some ⟨ab, 0, none⟩)] 137)) := (Upd.refl [] w).alloc _
  have S0 := Lib.hid h.start
  have U0 := Lib.hid u0
  have G0 := Lib.hid (Hs.get_range h.h 10)
  have HN := Lib.hid h.n
  have HK := Lib.hid hk
  clear h hk u0
  go_enter Try.func85, Try.ntmps85
  go_wp2_with (have _t := S0; clear _t; go_at_call 112; refine (loads_ok H M 1 _ ab hb a pb _ S0.out ⟨HN.out.2.1, HN.out.2.2.1⟩ HK.out).mono ?_; rintro e w7 ⟨rfl, h1, h2, h3⟩; have G7 := Lib.hid (And.intro h1 (And.intro h2 ((U0.out.mono (T := [hb]) (by simp)).also h3 (by simp)))); clear h1 h2 h3 S0)
  go_end0
  exact ⟨rfl, G7.out.1, G7.out.2.1, G7.out.2.2.mono (by simp)⟩

set_option maxRecDepth 100000 in
set_option maxHeartbeats 4000000 in
theorem touch_load4_bad (H : Hs) (M : Mem) (ab hb a pb : Nat) (w : World) (h : As w ab hb a pb H M) (hk : M.readK (H.get 10) 4 1 = false) :
    Calls Try.prog 85 #[.pointer (some ⟨ab, 0, none⟩), .int .u32 1] w fun e w' => e = .panicked [{ v := .iface 32 (M.rdF (H.get 10) 4 1).val, recovered := false }] ∧ Upd [] w w' := by
  have hmo : Try.prog.follows .mixedOrders = true := by kernel_rfl
  have u0 : Upd [] w (w.alloc (.cells #[.pointer (some ⟨ab, 0, none⟩)] 137)) := (Upd.refl [] w).alloc _
  have S0 := Lib.hid h.start
  have U0 := Lib.hid u0
  have G0 := Lib.hid (Hs.get_range h.h 10)
  have HN := Lib.hid h.n
  have HK := Lib.hid hk
  clear h hk u0
  go_enter Try.func85, Try.ntmps85
  go_wp2_with (have _t := S0; clear _t; go_at_call 112; refine (loads_bad H M 4 _ ab hb a pb _ S0.out HK.out).mono ?_; rintro e w7 ⟨rfl, h3⟩; have G7 := Lib.hid (U0.out.also h3 (by simp)); clear h3 S0)
  exact ⟨rfl, rfl, G7.out⟩

set_option maxRecDepth 100000 in
set_option maxHeartbeats 4000000 in
theorem touch_store4_ok (H : Hs) (M : Mem) (ab hb a pb : Nat) (w : World) (h : As w ab hb a pb H M) (hk : M.writeK (H.get 10) 4 = true) :
    Calls Try.prog 85 #[.pointer (some ⟨ab, 0, none⟩), .int .u32 3] w fun e w' => e = .returned (.tuple #[]) ∧ IsHost w' hb (H) ∧ IsMem w' a pb (M.writeM (H.get 10) 4 (H.get 11)) ∧ Upd [hb, pb] w w' := by
  have hmo : Try.prog.follows .mixedOrders = true := by kernel_rfl
  have u0 : Upd [] w (w.alloc (.cells #[.pointer (some ⟨ab, 0, none⟩)] 137)) := (Upd.refl [] w).alloc _
  have S0 := Lib.hid h.start
  have U0 := Lib.hid u0
  have G0 := Lib.hid (Hs.get_range h.h 10)
  have HN := Lib.hid h.n
  have NW := Lib.hid (show w.heap.size ≠ pb ∧ ab ≠ pb ∧ hb ≠ pb from ⟨by have := h.m.pl; omega, h.n.2.2.2, h.n.2.2.1⟩)
  have G1 := Lib.hid (Hs.get_range h.h 11)
  have HK := Lib.hid hk
  clear h hk u0
  go_enter Try.func85, Try.ntmps85
  go_wp2_with fail
  refine wp_drawD 12 (HpW (w.alloc (.cells #[.pointer (some ⟨ab, 0, none⟩)] 137)) w.heap.size ab hb a pb H M (M.writeM (H.get 10) 4 (H.get 11)) 8) (fun _ _ => False) (by kernel_rfl) (by decide +kernel) (HpW.start (S0.out.step (Upd.refl [] _).drew)) (fun _ _ _ h => h.elim) ?_
  simp only [List.take_succ_cons, List.take_zero, List.drop_succ_cons, List.drop_zero]
  iterate 5
    apply headD_val rfl rfl
    · intro d K hd hK w5 hB1
      have HB := Lib.hid hB1
      have c1 := cells_of HB.out.t
      have c2 := cells_of HB.out.ask.h
      clear hB1
      go_wp2_with fail
      first
      | exact hK _ (HB.out.same _ (by decide))
      | exact HB.out.same _ (by decide)
      | exact hK _ (HB.out.quiet hu _ (by decide))
      | exact HB.out.quiet hu _ (by decide)
    · exact ⟨_, rfl⟩
  iterate 1
    apply headD_val rfl rfl
    · intro d K hd hK w5 hB1
      have HB := Lib.hid hB1
      have c1 := cells_of HB.out.t
      have c2 := cells_of HB.out.ask.h
      clear hB1
      go_wp2_with (go_at_call 110; refine (arg_any H ab hb a 0 (by decide) _ HB.out.h HB.out.ask).mono ?_; rintro e w' ⟨rfl, rfl⟩)
      first
      | exact hK _ (HB.out.same _ (by decide))
      | exact HB.out.same _ (by decide)
      | exact hK _ (HB.out.quiet hu _ (by decide))
      | exact HB.out.quiet hu _ (by decide)
    · exact ⟨_, rfl⟩
  iterate 1
    apply headD_val rfl rfl
    · intro d K hd hK w5 hB1
      have HB := Lib.hid hB1
      have c1 := cells_of HB.out.t
      have c2 := cells_of HB.out.ask.h
      clear hB1
      go_wp2_with fail
      first
      | exact hK _ (HB.out.same _ (by decide))
      | exact HB.out.same _ (by decide)
      | exact hK _ (HB.out.quiet hu _ (by decide))
      | exact HB.out.quiet hu _ (by decide)
    · exact ⟨_, rfl⟩
  iterate 1
    apply headD_val rfl rfl
    · intro d K hd hK w5 hB1
      have HB := Lib.hid hB1
      have c1 := cells_of HB.out.t
      have c2 := cells_of HB.out.ask.h
      clear hB1
      go_wp2_with (go_at_call 110; refine (arg_any H ab hb a 1 (by decide) _ HB.out.h HB.out.ask).mono ?_; rintro e w' ⟨rfl, rfl⟩)
      first
      | exact hK _ (HB.out.same _ (by decide))
      | exact HB.out.same _ (by decide)
      | exact hK _ (HB.out.quiet hu _ (by decide))
      | exact HB.out.quiet hu _ (by decide)
    · exact ⟨_, rfl⟩
  apply headD_val rfl rfl
  · intro d K hd hK w5 hB1
    have HB := Lib.hid hB1
    have hm : IsMem w5 a pb M := by have := hB1.m; rw [hd] at this; exact this
    have HM := Lib.hid hm
    clear hB1 hm
    go_wp2_with (go_at_call 18; refine (Write_any M a pb (H.get 10) 4 (H.get 11) _ HM.out G0.out.1 G0.out.2 G1.out.1 G1.out.2).mono ?_; rintro e w6 ⟨rfl, hm6, hu⟩; rw [Mem.writeF_val, HK.out])
    first
    | exact hK _ (HB.out.mem hu hm6 NW.out)
    | exact HB.out.mem hu hm6 NW.out
  · exact ⟨_, rfl⟩
  iterate 2
    apply headD_val rfl rfl
    · intro d K hd hK w5 hB1
      have HB := Lib.hid hB1
      have c1 := cells_of HB.out.t
      have c2 := cells_of HB.out.ask.h
      clear hB1
      go_wp2_with fail
      first
      | exact hK _ (HB.out.same _ (by decide))
      | exact HB.out.same _ (by decide)
      | exact hK _ (HB.out.quiet hu _ (by decide))
      | exact HB.out.quiet hu _ (by decide)
    · exact ⟨_, rfl⟩
  iterate 1
    apply headD_val rfl rfl
    · intro d K hd hK w5 hB1
      have HB := Lib.hid hB1
      have c1 := cells_of HB.out.t
      have c2 := cells_of HB.out.ask.h
      clear hB1
      go_wp2_with (go_at_call 111; refine (hmust_ok (M.wrF (H.get 10) 4) _).mono ?_; rintro e w6 ⟨rfl, hu⟩)
      first
      | exact hK _ (HB.out.same _ (by decide))
      | exact HB.out.same _ (by decide)
      | exact hK _ (HB.out.quiet hu _ (by decide))
      | exact HB.out.quiet hu _ (by decide)
    · exact ⟨_, rfl⟩
  refine headD_nil (fun _ w7 d hall hB1 => ?_)
  have h8 := hall 8 (by decide)
  have hm := hB1.m
  rw [h8] at hm
  have G7 := Lib.hid (And.intro hB1.h (And.intro hm ((U0.out.mono (T := [pb]) (by simp)).also hB1.u (by simp))))
  clear hB1 hm hall h8
  go_wp2_with fail
  go_end0
  exact ⟨rfl, G7.out.1, G7.out.2.1, G7.out.2.2.mono (by simp)⟩

set_option maxRecDepth 100000 in
set_option maxHeartbeats 4000000 in
theorem touch_store1_bad (H : Hs) (M : Mem) (ab hb a pb : Nat) (w : World) (h : As w ab hb a pb H M) (hk : M.writeK (H.get 10) 1 = false) :
    Calls Try.prog 85 #[.pointer (some ⟨ab, 0, none⟩), .int .u32 4] w fun e w' => e = .panicked [{ v := .iface 32 (M.wrF (H.get 10) 1).val, recovered := false }] ∧ IsHost w' hb H ∧ Upd [pb] w w' := by
  have hmo : Try.prog.follows .mixedOrders = true := by kernel_rfl
  have u0 : Upd [] w (w.alloc (.cells #[.pointer (some ⟨ab, 0, none⟩)] 137)) := (Upd.refl [] w).alloc _
  have S0 := Lib.hid h.start
  have U0 := Lib.hid u0
  have G0 := Lib.hid (Hs.get_range h.h 10)
  have HN := Lib.hid h.n
  have NW := Lib.hid (show w.heap.size ≠ pb ∧ ab ≠ pb ∧ hb ≠ pb from ⟨by have := h.m.pl; omega, h.n.2.2.2, h.n.2.2.1⟩)
  have G1 := Lib.hid (Hs.get_range h.h 11)
  have HK := Lib.hid hk
  clear h hk u0
  go_enter Try.func85, Try.ntmps85
  go_wp2_with fail
  refine wp_drawD 12 (HpW (w.alloc (.cells #[.pointer (some ⟨ab, 0, none⟩)] 137)) w.heap.size ab hb a pb H M (M.writeM (H.get 10) 1 (H.get 11)) 8) (fun c w1 => c = [{ v := .iface 32 (M.wrF (H.get 10) 1).val, recovered := false }] ∧ IsHost w1 hb H ∧ Upd [pb] (w.alloc (.cells #[.pointer (some ⟨ab, 0, none⟩)] 137)) w1) (by kernel_rfl) (by decide +kernel) (HpW.start (S0.out.step (Upd.refl [] _).drew)) ?_ ?_
  simp only [List.take_succ_cons, List.take_zero, List.drop_succ_cons, List.drop_zero]
  · rintro c a' w' ⟨rfl, h1, h2⟩ hd _ _
    exact ⟨hd, rfl, h1, (U0.out.mono (T := [pb]) (by simp)).also h2 (by simp)⟩
  iterate 5
    apply headD_val rfl rfl
    · intro d K hd hK w5 hB1
      have HB := Lib.hid hB1
      have c1 := cells_of HB.out.t
      have c2 := cells_of HB.out.ask.h
      clear hB1
      go_wp2_with fail
      first
      | exact hK _ (HB.out.same _ (by decide))
      | exact HB.out.same _ (by decide)
      | exact hK _ (HB.out.quiet hu _ (by decide))
      | exact HB.out.quiet hu _ (by decide)
    · exact ⟨_, rfl⟩
  iterate 1
    apply headD_val rfl rfl
    · intro d K hd hK w5 hB1
      have HB := Lib.hid hB1
      have c1 := cells_of HB.out.t
      have c2 := cells_of HB.out.ask.h
      clear hB1
      go_wp2_with (go_at_call 110; refine (arg_any H ab hb a 0 (by decide) _ HB.out.h HB.out.ask).mono ?_; rintro e w' ⟨rfl, rfl⟩)
      first
      | exact hK _ (HB.out.same _ (by decide))
      | exact HB.out.same _ (by decide)
      | exact hK _ (HB.out.quiet hu _ (by decide))
      | exact HB.out.quiet hu _ (by decide)
    · exact ⟨_, rfl⟩
  iterate 1
    apply headD_val rfl rfl
    · intro d K hd hK w5 hB1
      have HB := Lib.hid hB1
      have c1 := cells_of HB.out.t
      have c2 := cells_of HB.out.ask.h
      clear hB1
      go_wp2_with fail
      first
      | exact hK _ (HB.out.same _ (by decide))
      | exact HB.out.same _ (by decide)
      | exact hK _ (HB.out.quiet hu _ (by decide))
      | exact HB.out.quiet hu _ (by decide)
    · exact ⟨_, rfl⟩
  iterate 1
    apply headD_val rfl rfl
    · intro d K hd hK w5 hB1
      have HB := Lib.hid hB1
      have c1 := cells_of HB.out.t
      have c2 := cells_of HB.out.ask.h
      clear hB1
      go_wp2_with (go_at_call 110; refine (arg_any H ab hb a 1 (by decide) _ HB.out.h HB.out.ask).mono ?_; rintro e w' ⟨rfl, rfl⟩)
      first
      | exact hK _ (HB.out.same _ (by decide))
      | exact HB.out.same _ (by decide)
      | exact hK _ (HB.out.quiet hu _ (by decide))
      | exact HB.out.quiet hu _ (by decide)
    · exact ⟨_, rfl⟩
  apply headD_val rfl rfl
  · intro d K hd hK w5 hB1
    have HB := Lib.hid hB1
    have hm : IsMem w5 a pb M := by have := hB1.m; rw [hd] at this; exact this
    have HM := Lib.hid hm
    clear hB1 hm
    go_wp2_with (go_at_call 18; refine (Write_any M a pb (H.get 10) 1 (H.get 11) _ HM.out G0.out.1 G0.out.2 G1.out.1 G1.out.2).mono ?_; rintro e w6 ⟨rfl, hm6, hu⟩; rw [Mem.writeF_val, HK.out])
    first
    | exact hK _ (HB.out.mem hu hm6 NW.out)
    | exact HB.out.mem hu hm6 NW.out
  · exact ⟨_, rfl⟩
  iterate 2
    apply headD_val rfl rfl
    · intro d K hd hK w5 hB1
      have HB := Lib.hid hB1
      have c1 := cells_of HB.out.t
      have c2 := cells_of HB.out.ask.h
      clear hB1
      go_wp2_with fail
      first
      | exact hK _ (HB.out.same _ (by decide))
      | exact HB.out.same _ (by decide)
      | exact hK _ (HB.out.quiet hu _ (by decide))
      | exact HB.out.quiet hu _ (by decide)
    · exact ⟨_, rfl⟩
  refine headD_dies rfl rfl ?_ ?_
  · intro d w5 hd hB1
    have HB := Lib.hid hB1
    clear hB1
    go_wp2_with (go_at_call 111; refine (hmust_bad (M.wrF (H.get 10) 1) _).mono ?_; rintro e w6 ⟨rfl, hu⟩)
    exact ⟨rfl, HB.out.h.keep hu (by simp), HB.out.u.also hu (by simp)⟩
  refine headD_nil (fun hdead => by cases hdead)

set_option maxRecDepth 100000 in
set_option maxHeartbeats 4000000 in
theorem touch_lay_ok (H : Hs) (M : Mem) (ab hb a pb : Nat) (w : World) (h : As w ab hb a pb H M) (hk : M.canK (H.get 10) 8 2 = true) :
    Calls Try.prog 85 #[.pointer (some ⟨ab, 0, none⟩), .int .u32 8] w fun e w' => e = .returned (.tuple #[]) ∧ IsHost w' hb (H) ∧ IsMem w' a pb (M.wr8M (H.get 10) (H.two 1)) ∧ Upd [hb, pb] w w' := by
  have hmo : Try.prog.follows .mixedOrders = true := by kernel_rfl
  have u0 : Upd [] w (w.alloc (.cells #[.pointer (some ⟨ab, 0, none⟩)] 137)) := (Upd.refl [] w).alloc _
  have S0 := Lib.hid h.start
  have U0 := Lib.hid u0
  have G0 := Lib.hid (Hs.get_range h.h 10)
  have HN := Lib.hid h.n
  have NW := Lib.hid (show w.heap.size ≠ pb ∧ ab ≠ pb ∧ hb ≠ pb from ⟨by have := h.m.pl; omega, h.n.2.2.2, h.n.2.2.1⟩)
  have G1 := Lib.hid (Hs.get_range h.h 11)
  have G2 := Lib.hid (show 0 ≤ H.two 1 ∧ H.two 1 < 18446744073709551616 by
    have g1 := Hs.get_range h.h (10 + 1)
    have g2 := Hs.get_range h.h (11 + 1)
    unfold Hs.two
    omega)
  have HK := Lib.hid hk
  clear h hk u0
  go_enter Try.func85, Try.ntmps85
  go_wp2_with fail
  refine wp_drawD 12 (HpW (w.alloc (.cells #[.pointer (some ⟨ab, 0, none⟩)] 137)) w.heap.size ab hb a pb H M (M.wr8M (H.get 10) (H.two 1)) 8) (fun _ _ => False) (by kernel_rfl) (by decide +kernel) (HpW.start (S0.out.step (Upd.refl [] _).drew)) (fun _ _ _ h => h.elim) ?_
  simp only [List.take_succ_cons, List.take_zero, List.drop_succ_cons, List.drop_zero]
  iterate 5
    apply headD_val rfl rfl
    · intro d K hd hK w5 hB1
      have HB := Lib.hid hB1
      have c1 := cells_of HB.out.t
      have c2 := cells_of HB.out.ask.h
      clear hB1
      go_wp2_with fail
      first
      | exact hK _ (HB.out.same _ (by decide))
      | exact HB.out.same _ (by decide)
      | exact hK _ (HB.out.quiet hu _ (by decide))
      | exact HB.out.quiet hu _ (by decide)
    · exact ⟨_, rfl⟩
  iterate 1
    apply headD_val rfl rfl
    · intro d K hd hK w5 hB1
      have HB := Lib.hid hB1
      have c1 := cells_of HB.out.t
      have c2 := cells_of HB.out.ask.h
      clear hB1
      go_wp2_with (go_at_call 110; refine (arg_any H ab hb a 0 (by decide) _ HB.out.h HB.out.ask).mono ?_; rintro e w' ⟨rfl, rfl⟩)
      first
      | exact hK _ (HB.out.same _ (by decide))
      | exact HB.out.same _ (by decide)
      | exact hK _ (HB.out.quiet hu _ (by decide))
      | exact HB.out.quiet hu _ (by decide)
    · exact ⟨_, rfl⟩
  iterate 1
    apply headD_val rfl rfl
    · intro d K hd hK w5 hB1
      have HB := Lib.hid hB1
      have c1 := cells_of HB.out.t
      have c2 := cells_of HB.out.ask.h
      clear hB1
      go_wp2_with fail
      first
      | exact hK _ (HB.out.same _ (by decide))
      | exact HB.out.same _ (by decide)
      | exact hK _ (HB.out.quiet hu _ (by decide))
      | exact HB.out.quiet hu _ (by decide)
    · exact ⟨_, rfl⟩
  iterate 1
    apply headD_val rfl rfl
    · intro d K hd hK w5 hB1
      have HB := Lib.hid hB1
      have c1 := cells_of HB.out.t
      have c2 := cells_of HB.out.ask.h
      clear hB1
      go_wp2_with (go_at_call 100; refine (two_any H ab hb a 1 (by decide) _ HB.out.h HB.out.ask).mono ?_; rintro e w' ⟨rfl, rfl⟩)
      first
      | exact hK _ (HB.out.same _ (by decide))
      | exact HB.out.same _ (by decide)
      | exact hK _ (HB.out.quiet hu _ (by decide))
      | exact HB.out.quiet hu _ (by decide)
    · exact ⟨_, rfl⟩
  apply headD_val rfl rfl
  · intro d K hd hK w5 hB1
    have HB := Lib.hid hB1
    have hm : IsMem w5 a pb M := by have := hB1.m; rw [hd] at this; exact this
    have HM := Lib.hid hm
    clear hB1 hm
    go_wp2_with (go_at_call 38; refine (Write8_any M a pb (H.get 10) (H.two 1) _ HM.out G0.out.1 G0.out.2 G2.out.1 G2.out.2).mono ?_; rintro e w6 ⟨rfl, hm6, hu⟩; rw [HK.out])
    first
    | exact hK _ (HB.out.mem hu hm6 NW.out)
    | exact HB.out.mem hu hm6 NW.out
  · exact ⟨_, rfl⟩
  iterate 2
    apply headD_val rfl rfl
    · intro d K hd hK w5 hB1
      have HB := Lib.hid hB1
      have c1 := cells_of HB.out.t
      have c2 := cells_of HB.out.ask.h
      clear hB1
      go_wp2_with fail
      first
      | exact hK _ (HB.out.same _ (by decide))
      | exact HB.out.same _ (by decide)
      | exact hK _ (HB.out.quiet hu _ (by decide))
      | exact HB.out.quiet hu _ (by decide)
    · exact ⟨_, rfl⟩
  iterate 1
    apply headD_val rfl rfl
    · intro d K hd hK w5 hB1
      have HB := Lib.hid hB1
      have c1 := cells_of HB.out.t
      have c2 := cells_of HB.out.ask.h
      clear hB1
      go_wp2_with (go_at_call 111; refine (hmust_ok (M.canF (H.get 10) 8 2) _).mono ?_; rintro e w6 ⟨rfl, hu⟩)
      first
      | exact hK _ (HB.out.same _ (by decide))
      | exact HB.out.same _ (by decide)
      | exact hK _ (HB.out.quiet hu _ (by decide))
      | exact HB.out.quiet hu _ (by decide)
    · exact ⟨_, rfl⟩
  refine headD_nil (fun _ w7 d hall hB1 => ?_)
  have h8 := hall 8 (by decide)
  have hm := hB1.m
  rw [h8] at hm
  have G7 := Lib.hid (And.intro hB1.h (And.intro hm ((U0.out.mono (T := [pb]) (by simp)).also hB1.u (by simp))))
  clear hB1 hm hall h8
  go_wp2_with fail
  go_end0
  exact ⟨rfl, G7.out.1, G7.out.2.1, G7.out.2.2.mono (by simp)⟩
end Go.Proofs.Ytncafchgdgmeaaa
