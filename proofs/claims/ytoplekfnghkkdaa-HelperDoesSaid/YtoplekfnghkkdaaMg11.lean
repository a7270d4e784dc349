/-
  Package helper: touches: the closure that loads, by its contract. No condition.
-/
import Derived.Test.YtoplekfnghkkdaaMg07
import Derived.Test.YtoplekfnghkkdaaMg10
namespace Go.Proofs.Ytoplekfnghkkdaa
open Go Go.RowKit
set_option linter.unusedVariables false
set_option linter.unusedSimpArgs false

/-- Where touches stands: the variable of the one that asks, that one, its host, its memory. -/
structure HpS (w : World) (tb ab hb a pb : Nat) (H : Hs) (M : Mem) (w1 : World) : Prop where
  t : w1.heap[tb]? = some (.cells #[.pointer (some ⟨ab, 0, none⟩)] 127 (0, 0))
  k : IsAsk w1 ab hb a
  h : IsHost w1 hb H
  m : IsMem w1 a pb M
  n : tb < w.heap.size ∧ ab < w.heap.size ∧ hb < w.heap.size ∧ a < w.heap.size ∧ pb < w.heap.size
  u : Upd [] w w1

section
variable {w w1 w2 : World} {tb ab hb a pb g : Nat} {H : Hs} {M : Mem}
theorem HpS.step (h : HpS w tb ab hb a pb H M w1) (u : Upd [] w1 w2) : HpS w tb ab hb a pb H M w2 :=
  ⟨u.get h.t (by simp), h.k.keep u (by simp), h.h.keep u (by simp), h.m.keep u (by simp) (by simp), h.n, h.u.also u (by simp)⟩
theorem HpS.far (h : HpS w tb ab hb a pb H M w1) (u : Upd [g] w1 w2) (hg : w.heap.size ≤ g) : HpS w tb ab hb a pb H M w2 := by
  obtain ⟨n1, n2, n3, n4, n5⟩ := h.n
  exact ⟨u.get h.t (by simp; omega), h.k.keep u (by simp; omega), h.h.keep u (by simp; omega), h.m.keep u (by simp; omega) (by simp; omega), h.n, h.u.also u (by simp; omega)⟩
end

def fltC (F : Flt) : Array Value := #[.int .i64 F.k, .int .u32 F.pc, .int .u32 F.a, .int .i64 F.wt]

/-- Along a drawn region that lays a fault (operation i) and stores into it (operation k). -/
structure HpD (w : World) (tb ab hb a pb : Nat) (H : Hs) (M : Mem) (F : Flt) (i k : Nat) (d : Nat → Bool) (r : Nat → Value) (w1 : World) : Prop where
  b : HpS w tb ab hb a pb H M w1
  x : d i = true → ∃ g Z, r i = .pointer (some ⟨g, 0, none⟩) ∧ w.heap.size ≤ g ∧ w1.heap[g]? = some (.cells (fltC Z) 49 (0, 0)) ∧ (d k = true → Z = F)
  o : d k = true → d i = true
  ne : i ≠ k

section
variable {w w1 w2 : World} {tb ab hb a pb g : Nat} {H : Hs} {M : Mem} {F : Flt} {i k : Nat} {d : Nat → Bool} {r : Nat → Value}
theorem HpD.start (h : HpS w tb ab hb a pb H M w1) (ne : i ≠ k) (r : Nat → Value) : HpD w tb ab hb a pb H M F i k (fun _ => false) r w1 :=
  ⟨h, fun h => (by cases h), fun h => (by cases h), ne⟩
theorem HpD.quiet (h : HpD w tb ab hb a pb H M F i k d r w1) (hu : Upd [] w1 w2) (m : Nat) (h1 : i ≠ m) (h2 : k ≠ m) : HpD w tb ab hb a pb H M F i k (updD d m) r w2 := by
  refine ⟨h.b.step hu, fun hx => ?_, fun ho => ?_, h.ne⟩
  · rw [updD_ne h1] at hx
    obtain ⟨g, Z, e1, e2, e3, e4⟩ := h.x hx
    exact ⟨g, Z, e1, e2, hu.get e3 (by simp), fun hk => e4 (by rwa [updD_ne h2] at hk)⟩
  · rw [updD_ne h2] at ho; rw [updD_ne h1]; exact h.o ho
theorem HpD.same (h : HpD w tb ab hb a pb H M F i k d r w1) (m : Nat) (h1 : i ≠ m) (h2 : k ≠ m) : HpD w tb ab hb a pb H M F i k (updD d m) r w1 := h.quiet (Upd.refl [] w1) m h1 h2
theorem HpD.lay (h : HpD w tb ab hb a pb H M F i k d r w1) (hd : d i = false) : HpD w tb ab hb a pb H M F i k (updD d i) (updV r i (.pointer (some ⟨w1.heap.size, 0, none⟩))) (w1.alloc (.cells #[.int .i64 0, .int .u32 0, .int .u32 0, .int .i64 0] 49)) := by
  refine ⟨h.b.step ((Upd.refl [] w1).alloc _), fun _ => ⟨_, Flt.zero, updV_eq, h.b.u.size, heap_alloc_new _ _, fun hk => ?_⟩, fun _ => updD_eq, h.ne⟩
  rw [updD_ne h.ne.symm] at hk
  rw [h.o hk] at hd; cases hd
theorem HpD.store (h : HpD w tb ab hb a pb H M F i k d r w1) (hd : d i = true) {Z : Flt} (hg : r i = .pointer (some ⟨g, 0, none⟩)) (hn : w.heap.size ≤ g) (hb' : w1.heap[g]? = some (.cells (fltC Z) 49 (0, 0))) :
    HpD w tb ab hb a pb H M F i k (updD d k) r (w1.setCells g 0 (fltC F).toList) := by
  have hu : Upd [g] w1 (w1.setCells g 0 (fltC F).toList) := (Upd.refl [g] w1).setCells (.inl (by simp)) _ _
  refine ⟨h.b.far hu hn, fun _ => ⟨g, F, hg, hn, ?_, fun _ => rfl⟩, fun _ => by rw [updD_ne h.ne]; exact hd, h.ne⟩
  rw [heap_setCells_same _ _ _ _ hb']
  rfl
theorem HpD.fin (h : HpD w tb ab hb a pb H M F i k d r w1) (hi : d i = true) (hk : d k = true) : ∃ g, r i = .pointer (some ⟨g, 0, none⟩) ∧ w1.heap[g]? = some (.cells (fltC F) 49 (0, 0)) := by
  obtain ⟨g, Z, e1, e2, e3, e4⟩ := h.x hi
  rw [e4 hk] at e3
  exact ⟨g, e1, e3⟩

theorem wp_store_flt {op : Oper} {A : Act} {w : World} {K : Act → World → Prop} {Q : Exit → Act → World → Prop} (F Z : Flt) (g : Nat) (x y : Operand) (ho : op.op = .store 49 x y) (hx : A.eval x = .pointer (some ⟨g, 0, none⟩)) (hy : A.eval y = F.val)
    (hb : w.heap[g]? = some (.cells (fltC Z) 49 (0, 0))) (hK : K (A.put op.dst undef) (w.setCells g 0 (fltC F).toList)) : op.wp Try.prog A w K Q :=
  wp_store_mid 49 x y ho g 0 (fltC F) hx hy (there_of hb 0 4 (by simp [fltC])) fault_info (by simp [fltC, Value.oneCell']) hK
end

set_option maxRecDepth 100000 in
set_option maxHeartbeats 2000000 in
theorem loads_ok (H : Hs) (M : Mem) (n : Int) (tb ab hb a pb : Nat) (w : World) (h : HpS w tb ab hb a pb H M w) (hne : hb ≠ a ∧ hb ≠ pb) (hk : M.readK (H.get 10) n 1 = true) :
    Calls Try.prog 129 #[.int .i64 n, .pointer (some ⟨tb, 0, none⟩)] w fun e w' => e = .returned (.tuple #[]) ∧ IsHost w' hb (H.put 10 (M.readV (H.get 10) n 1)) ∧ IsMem w' a pb M ∧ Upd [hb] w w' := by
  have hmo : Try.prog.follows .mixedOrders = true := by kernel_rfl
  have gx := Hs.get_range h.h 10
  have G0 := Lib.hid gx
  have GV := Lib.hid (readV_range h.m (H.get 10) n 1)
  have S0 := Lib.hid h
  have HK := Lib.hid hk
  have HN := Lib.hid hne
  clear h hk gx hne
  go_enter Try.func129, Try.ntmps129
  go_wp2_with fail
  refine wp_drawE 16 (HpD w tb ab hb a pb H M (M.rdF (H.get 10) n 1) 12 14) (fun _ _ => False) (by kernel_rfl) (by decide +kernel) (fun r0 => HpD.start (S0.out.step (Upd.refl [] _).drew) (by decide) r0) (fun _ _ _ h => h.elim) ?_
  simp only [List.take_succ_cons, List.take_zero, List.drop_succ_cons, List.drop_zero]
  iterate 5
    apply headE_val0 rfl rfl
    · intro d r0 K hd hdep hK w5 hB1
      have HB := Lib.hid hB1
      have c1 := cells_of HB.out.b.t
      have c2 := cells_of HB.out.b.k.h
      clear hB1 hdep
      go_wp2_with fail
      first
      | exact hK _ (HB.out.same _ (by decide) (by decide))
      | exact HB.out.same _ (by decide) (by decide)
      | exact hK _ (HB.out.quiet hu _ (by decide) (by decide))
      | exact HB.out.quiet hu _ (by decide) (by decide)
    · exact ⟨_, rfl⟩
  iterate 1
    apply headE_val0 rfl rfl
    · intro d r0 K hd hdep hK w5 hB1
      have HB := Lib.hid hB1
      have c1 := cells_of HB.out.b.t
      have c2 := cells_of HB.out.b.k.h
      clear hB1 hdep
      go_wp2_with (go_at_call 127; refine (arg_any H ab hb a 0 (by decide) _ HB.out.b.h HB.out.b.k).mono ?_; rintro e w' ⟨rfl, rfl⟩)
      first
      | exact hK _ (HB.out.same _ (by decide) (by decide))
      | exact HB.out.same _ (by decide) (by decide)
      | exact hK _ (HB.out.quiet hu _ (by decide) (by decide))
      | exact HB.out.quiet hu _ (by decide) (by decide)
    · exact ⟨_, rfl⟩
  iterate 1
    apply headE_val0 rfl rfl
    · intro d r0 K hd hdep hK w5 hB1
      have HB := Lib.hid hB1
      have c1 := cells_of HB.out.b.t
      have c2 := cells_of HB.out.b.k.h
      clear hB1 hdep
      go_wp2_with fail
      first
      | exact hK _ (HB.out.same _ (by decide) (by decide))
      | exact HB.out.same _ (by decide) (by decide)
      | exact hK _ (HB.out.quiet hu _ (by decide) (by decide))
      | exact HB.out.quiet hu _ (by decide) (by decide)
    · exact ⟨_, rfl⟩
  iterate 1
    apply headE_val0 rfl rfl
    · intro d r0 K hd hdep hK w5 hB1
      have HB := Lib.hid hB1
      have c1 := cells_of HB.out.b.t
      have c2 := cells_of HB.out.b.k.h
      clear hB1 hdep
      go_wp2_with (go_at_call 130; refine (Read_any M a pb (H.get 10) n 1 _ HB.out.b.m G0.out.1 G0.out.2).mono ?_; rintro e w6 ⟨rfl, hu⟩; rw [Mem.readF_val, HK.out])
      first
      | exact hK _ (HB.out.same _ (by decide) (by decide))
      | exact HB.out.same _ (by decide) (by decide)
      | exact hK _ (HB.out.quiet hu _ (by decide) (by decide))
      | exact HB.out.quiet hu _ (by decide) (by decide)
    · exact ⟨_, rfl⟩
  iterate 4
    apply headE_val0 rfl rfl
    · intro d r0 K hd hdep hK w5 hB1
      have HB := Lib.hid hB1
      have c1 := cells_of HB.out.b.t
      have c2 := cells_of HB.out.b.k.h
      clear hB1 hdep
      go_wp2_with fail
      first
      | exact hK _ (HB.out.same _ (by decide) (by decide))
      | exact HB.out.same _ (by decide) (by decide)
      | exact hK _ (HB.out.quiet hu _ (by decide) (by decide))
      | exact HB.out.quiet hu _ (by decide) (by decide)
    · exact ⟨_, rfl⟩
  refine headE_free rfl (fun _ => rfl) 4 rfl (by simp [Act.put]) ?_ ?_
  · intro d r0 K hd w5 hB1 hK
    have HB := Lib.hid hB1
    clear hB1
    simp only [fillE]
    go_wp2_with fail
    first
    | exact hK (.pointer (some ⟨w5.heap.size, 0, none⟩)) _ (HB.out.lay hd)
    | exact HB.out.lay hd
  iterate 1
    apply headE_val rfl (fun _ => rfl)
    · intro d r0 K hd hdep hK w5 hB1
      have HB := Lib.hid hB1
      have c1 := cells_of HB.out.b.t
      have c2 := cells_of HB.out.b.k.h
      clear hB1 hdep
      simp only [fillE]
      go_wp2_with fail
      first
      | exact hK _ (HB.out.same _ (by decide) (by decide))
      | exact HB.out.same _ (by decide) (by decide)
      | exact hK _ (HB.out.quiet hu _ (by decide) (by decide))
      | exact HB.out.quiet hu _ (by decide) (by decide)
    · exact ⟨_, fun _ => rfl, rfl⟩
  apply headE_val rfl (fun _ => rfl)
  · intro d r0 K hd hdep hK w5 hB1
    have h8 : d 12 = true := hdep ⟨12, .data⟩ (by simp) rfl
    obtain ⟨g, Z, e1, e2, e3, e4⟩ := hB1.x h8
    refine wp_store_flt (M.rdF (H.get 10) n 1) Z g _ _ rfl (by show r0 12 = _; exact e1) rfl e3 ?_
    exact hK _ (hB1.store h8 e1 e2 e3)
  · exact ⟨_, fun _ => rfl, rfl⟩
  iterate 1
    apply headE_val rfl (fun _ => rfl)
    · intro d r0 K hd hdep hK w5 hB1
      have HB := Lib.hid hB1
      have c1 := cells_of HB.out.b.t
      have c2 := cells_of HB.out.b.k.h
      clear hB1 hdep
      simp only [fillE]
      go_wp2_with fail
      first
      | exact hK _ (HB.out.same _ (by decide) (by decide))
      | exact HB.out.same _ (by decide) (by decide)
      | exact hK _ (HB.out.quiet hu _ (by decide) (by decide))
      | exact HB.out.quiet hu _ (by decide) (by decide)
    · exact ⟨_, fun _ => rfl, rfl⟩
  refine headE_nil (fun _ r0 w5 d hall hB1 => ?_)
  obtain ⟨g5, e1, hG⟩ := hB1.fin (hall 12 (by decide)) (hall 14 (by decide))
  have G5 := Lib.hid (And.intro hB1.b hG)
  show wpList _ _ _ _ (Act.put (fillE _ _ [] _) (some 4) (r0 12)) _
  rw [e1]
  simp only [fillE]
  clear hG e1 hall hB1
  have cf := cells_of G5.out.2
  unfold fltC at cf
  have ct := cells_of G5.out.1.t
  go_wp2_with (first | (have _t := G5; clear _t; go_at_call 128; refine (hmust_ok (M.rdF (H.get 10) n 1) _).mono ?_; rintro e w6 ⟨rfl, hu⟩; have G6 := Lib.hid (G5.out.1.step hu); clear hu G5 cf ct; have ct := cells_of G6.out.t) | (have _t := G6; clear _t; go_at_call 123; refine (answers_any H ab hb a _ GV.out _ G6.out.h G6.out.k).mono ?_; rintro e w7 ⟨rfl, h7, hu⟩; have G7 := Lib.hid (And.intro h7 (And.intro (G6.out.m.keep hu (by simpa using fun e => HN.out.1 e.symm) (by simpa using fun e => HN.out.2 e.symm)) ((G6.out.u.mono (T := [hb]) (by simp)).also hu (by simp)))); clear h7 hu G6))
  go_end0
  exact ⟨rfl, G7.out.1, G7.out.2.1, G7.out.2.2⟩
set_option maxRecDepth 100000 in
set_option maxHeartbeats 2000000 in
theorem loads_bad (H : Hs) (M : Mem) (n : Int) (tb ab hb a pb : Nat) (w : World) (h : HpS w tb ab hb a pb H M w) (hk : M.readK (H.get 10) n 1 = false) :
    Calls Try.prog 129 #[.int .i64 n, .pointer (some ⟨tb, 0, none⟩)] w fun e w' => e = .panicked [{ v := .iface 49 (M.rdF (H.get 10) n 1).val, recovered := false }] ∧ Upd [] w w' := by
  have hmo : Try.prog.follows .mixedOrders = true := by kernel_rfl
  have gx := Hs.get_range h.h 10
  have G0 := Lib.hid gx
  have GV := Lib.hid (readV_range h.m (H.get 10) n 1)
  have S0 := Lib.hid h
  have HK := Lib.hid hk
  clear h hk gx
  go_enter Try.func129, Try.ntmps129
  go_wp2_with fail
  refine wp_drawE 16 (HpD w tb ab hb a pb H M (M.rdF (H.get 10) n 1) 12 14) (fun _ _ => False) (by kernel_rfl) (by decide +kernel) (fun r0 => HpD.start (S0.out.step (Upd.refl [] _).drew) (by decide) r0) (fun _ _ _ h => h.elim) ?_
  simp only [List.take_succ_cons, List.take_zero, List.drop_succ_cons, List.drop_zero]
  iterate 5
    apply headE_val0 rfl rfl
    · intro d r0 K hd hdep hK w5 hB1
      have HB := Lib.hid hB1
      have c1 := cells_of HB.out.b.t
      have c2 := cells_of HB.out.b.k.h
      clear hB1 hdep
      go_wp2_with fail
      first
      | exact hK _ (HB.out.same _ (by decide) (by decide))
      | exact HB.out.same _ (by decide) (by decide)
      | exact hK _ (HB.out.quiet hu _ (by decide) (by decide))
      | exact HB.out.quiet hu _ (by decide) (by decide)
    · exact ⟨_, rfl⟩
  iterate 1
    apply headE_val0 rfl rfl
    · intro d r0 K hd hdep hK w5 hB1
      have HB := Lib.hid hB1
      have c1 := cells_of HB.out.b.t
      have c2 := cells_of HB.out.b.k.h
      clear hB1 hdep
      go_wp2_with (go_at_call 127; refine (arg_any H ab hb a 0 (by decide) _ HB.out.b.h HB.out.b.k).mono ?_; rintro e w' ⟨rfl, rfl⟩)
      first
      | exact hK _ (HB.out.same _ (by decide) (by decide))
      | exact HB.out.same _ (by decide) (by decide)
      | exact hK _ (HB.out.quiet hu _ (by decide) (by decide))
      | exact HB.out.quiet hu _ (by decide) (by decide)
    · exact ⟨_, rfl⟩
  iterate 1
    apply headE_val0 rfl rfl
    · intro d r0 K hd hdep hK w5 hB1
      have HB := Lib.hid hB1
      have c1 := cells_of HB.out.b.t
      have c2 := cells_of HB.out.b.k.h
      clear hB1 hdep
      go_wp2_with fail
      first
      | exact hK _ (HB.out.same _ (by decide) (by decide))
      | exact HB.out.same _ (by decide) (by decide)
      | exact hK _ (HB.out.quiet hu _ (by decide) (by decide))
      | exact HB.out.quiet hu _ (by decide) (by decide)
    · exact ⟨_, rfl⟩
  iterate 1
    apply headE_val0 rfl rfl
    · intro d r0 K hd hdep hK w5 hB1
      have HB := Lib.hid hB1
      have c1 := cells_of HB.out.b.t
      have c2 := cells_of HB.out.b.k.h
      clear hB1 hdep
      go_wp2_with (go_at_call 130; refine (Read_any M a pb (H.get 10) n 1 _ HB.out.b.m G0.out.1 G0.out.2).mono ?_; rintro e w6 ⟨rfl, hu⟩; rw [Mem.readF_val, HK.out])
      first
      | exact hK _ (HB.out.same _ (by decide) (by decide))
      | exact HB.out.same _ (by decide) (by decide)
      | exact hK _ (HB.out.quiet hu _ (by decide) (by decide))
      | exact HB.out.quiet hu _ (by decide) (by decide)
    · exact ⟨_, rfl⟩
  iterate 4
    apply headE_val0 rfl rfl
    · intro d r0 K hd hdep hK w5 hB1
      have HB := Lib.hid hB1
      have c1 := cells_of HB.out.b.t
      have c2 := cells_of HB.out.b.k.h
      clear hB1 hdep
      go_wp2_with fail
      first
      | exact hK _ (HB.out.same _ (by decide) (by decide))
      | exact HB.out.same _ (by decide) (by decide)
      | exact hK _ (HB.out.quiet hu _ (by decide) (by decide))
      | exact HB.out.quiet hu _ (by decide) (by decide)
    · exact ⟨_, rfl⟩
  refine headE_free rfl (fun _ => rfl) 4 rfl (by simp [Act.put]) ?_ ?_
  · intro d r0 K hd w5 hB1 hK
    have HB := Lib.hid hB1
    clear hB1
    simp only [fillE]
    go_wp2_with fail
    first
    | exact hK (.pointer (some ⟨w5.heap.size, 0, none⟩)) _ (HB.out.lay hd)
    | exact HB.out.lay hd
  iterate 1
    apply headE_val rfl (fun _ => rfl)
    · intro d r0 K hd hdep hK w5 hB1
      have HB := Lib.hid hB1
      have c1 := cells_of HB.out.b.t
      have c2 := cells_of HB.out.b.k.h
      clear hB1 hdep
      simp only [fillE]
      go_wp2_with fail
      first
      | exact hK _ (HB.out.same _ (by decide) (by decide))
      | exact HB.out.same _ (by decide) (by decide)
      | exact hK _ (HB.out.quiet hu _ (by decide) (by decide))
      | exact HB.out.quiet hu _ (by decide) (by decide)
    · exact ⟨_, fun _ => rfl, rfl⟩
  apply headE_val rfl (fun _ => rfl)
  · intro d r0 K hd hdep hK w5 hB1
    have h8 : d 12 = true := hdep ⟨12, .data⟩ (by simp) rfl
    obtain ⟨g, Z, e1, e2, e3, e4⟩ := hB1.x h8
    refine wp_store_flt (M.rdF (H.get 10) n 1) Z g _ _ rfl (by show r0 12 = _; exact e1) rfl e3 ?_
    exact hK _ (hB1.store h8 e1 e2 e3)
  · exact ⟨_, fun _ => rfl, rfl⟩
  iterate 1
    apply headE_val rfl (fun _ => rfl)
    · intro d r0 K hd hdep hK w5 hB1
      have HB := Lib.hid hB1
      have c1 := cells_of HB.out.b.t
      have c2 := cells_of HB.out.b.k.h
      clear hB1 hdep
      simp only [fillE]
      go_wp2_with fail
      first
      | exact hK _ (HB.out.same _ (by decide) (by decide))
      | exact HB.out.same _ (by decide) (by decide)
      | exact hK _ (HB.out.quiet hu _ (by decide) (by decide))
      | exact HB.out.quiet hu _ (by decide) (by decide)
    · exact ⟨_, fun _ => rfl, rfl⟩
  refine headE_nil (fun _ r0 w5 d hall hB1 => ?_)
  obtain ⟨g5, e1, hG⟩ := hB1.fin (hall 12 (by decide)) (hall 14 (by decide))
  have G5 := Lib.hid (And.intro hB1.b hG)
  show wpList _ _ _ _ (Act.put (fillE _ _ [] _) (some 4) (r0 12)) _
  rw [e1]
  simp only [fillE]
  clear hG e1 hall hB1
  have cf := cells_of G5.out.2
  unfold fltC at cf
  have ct := cells_of G5.out.1.t
  go_wp2_with (have _t := G5; clear _t; go_at_call 128; refine (hmust_bad (M.rdF (H.get 10) n 1) _).mono ?_; rintro e w6 ⟨rfl, hu⟩; have G6 := Lib.hid (G5.out.1.step hu); clear hu G5 cf ct)
  exact ⟨rfl, rfl, G6.out.u⟩

end Go.Proofs.Ytoplekfnghkkdaa

/-
  Package helper: touches, each arm by its contract. No condition.
-/
namespace Go.Proofs.Ytoplekfnghkkdaa
open Go Go.RowKit
set_option linter.unusedVariables false
set_option linter.unusedSimpArgs false

/-- One that asks, its host, its memory, each by itself. -/
structure As (w : World) (ab hb a pb : Nat) (H : Hs) (M : Mem) : Prop where
  k : IsAsk w ab hb a
  h : IsHost w hb H
  m : IsMem w a pb M
  n : ab ≠ hb ∧ hb ≠ a ∧ hb ≠ pb ∧ ab ≠ pb

theorem As.start {w : World} {ab hb a pb : Nat} {H : Hs} {M : Mem} (h : As w ab hb a pb H M) :
    HpS (w.alloc (.cells #[.pointer (some ⟨ab, 0, none⟩)] 127)) w.heap.size ab hb a pb H M (w.alloc (.cells #[.pointer (some ⟨ab, 0, none⟩)] 127)) := by
  have u : Upd [] w (w.alloc (.cells #[.pointer (some ⟨ab, 0, none⟩)] 127)) := (Upd.refl [] w).alloc _
  have l1 := lt_of_heap h.k.h
  have l2 := h.h.lt
  have l3 := h.m.al
  have l4 := h.m.pl
  exact ⟨heap_alloc_new _ _, h.k.keep u (by simp), h.h.keep u (by simp), h.m.keep u (by simp) (by simp), by simp; omega, Upd.refl _ _⟩

/-- Along a drawn region that writes memory (operation k). -/
structure HpW (w : World) (tb ab hb a pb : Nat) (H : Hs) (M M' : Mem) (k : Nat) (d : Nat → Bool) (w1 : World) : Prop where
  t : w1.heap[tb]? = some (.cells #[.pointer (some ⟨ab, 0, none⟩)] 127 (0, 0))
  ask : IsAsk w1 ab hb a
  h : IsHost w1 hb H
  m : IsMem w1 a pb (if d k then M' else M)
  u : Upd [pb] w w1

section
variable {w w1 w2 : World} {tb ab hb a pb g : Nat} {H : Hs} {M M' : Mem} {k : Nat} {d : Nat → Bool}
theorem HpW.start (h : HpS w tb ab hb a pb H M w1) : HpW w tb ab hb a pb H M M' k (fun _ => false) w1 := ⟨h.t, h.k, h.h, h.m, h.u.mono (by simp)⟩
theorem HpW.quiet (h : HpW w tb ab hb a pb H M M' k d w1) (hu : Upd [] w1 w2) (m : Nat) (h1 : k ≠ m) : HpW w tb ab hb a pb H M M' k (updD d m) w2 :=
  ⟨hu.get h.t (by simp), h.ask.keep hu (by simp), h.h.keep hu (by simp), by rw [updD_ne h1]; exact h.m.keep hu (by simp) (by simp), h.u.also hu (by simp)⟩
theorem HpW.same (h : HpW w tb ab hb a pb H M M' k d w1) (m : Nat) (h1 : k ≠ m) : HpW w tb ab hb a pb H M M' k (updD d m) w1 := h.quiet (Upd.refl [] w1) m h1
theorem HpW.mem (h : HpW w tb ab hb a pb H M M' k d w1) (hu : Upd [pb] w1 w2) (hm : IsMem w2 a pb M') (n : tb ≠ pb ∧ ab ≠ pb ∧ hb ≠ pb) : HpW w tb ab hb a pb H M M' k (updD d k) w2 :=
  ⟨hu.get h.t (by simp; exact n.1), h.ask.keep hu (by simp; exact n.2.1), h.h.keep hu (by simp; exact n.2.2), by rw [updD_eq]; exact hm, h.u.also hu (by simp)⟩
end

set_option maxRecDepth 100000 in
set_option maxHeartbeats 4000000 in
theorem touch_load4_ok (H : Hs) (M : Mem) (ab hb a pb : Nat) (w : World) (h : As w ab hb a pb H M) (hk : M.readK (H.get 10) 4 1 = true) :
    Calls Try.prog 61 #[.pointer (some ⟨ab, 0, none⟩), .int .u32 1] w fun e w' => e = .returned (.tuple #[]) ∧ IsHost w' hb (H.put 10 (M.readV (H.get 10) 4 1)) ∧ IsMem w' a pb (M) ∧ Upd [hb, pb] w w' := by
  have hmo : Try.prog.follows .mixedOrders = true := by kernel_rfl
  have u0 : Upd [] w (w.alloc (.cells #[.pointer (some ⟨ab, 0, none⟩)] 127)) := (Upd.refl [] w).alloc _
  have S0 := Lib.hid h.start
  have U0 := Lib.hid u0
  have G0 := Lib.hid (Hs.get_range h.h 10)
  have HN := Lib.hid h.n
  have HK := Lib.hid hk
  clear h hk u0
  go_enter Try.func61, Try.ntmps61
  go_wp2_with (have _t := S0; clear _t; go_at_call 129; refine (loads_ok H M 4 _ ab hb a pb _ S0.out ⟨HN.out.2.1, HN.out.2.2.1⟩ HK.out).mono ?_; rintro e w7 ⟨rfl, h1, h2, h3⟩; have G7 := Lib.hid (And.intro h1 (And.intro h2 ((U0.out.mono (T := [hb]) (by simp)).also h3 (by simp)))); clear h1 h2 h3 S0)
  go_end0
  exact ⟨rfl, G7.out.1, G7.out.2.1, G7.out.2.2.mono (by simp)⟩

set_option maxRecDepth 100000 in
set_option maxHeartbeats 4000000 in
theorem touch_load1_ok (H : Hs) (M : Mem) (ab hb a pb : Nat) (w : World) (h : As w ab hb a pb H M) (hk : M.readK (H.get 10) 1 1 = true) :
    Calls Try.prog 61 #[.pointer (some ⟨ab, 0, none⟩), .int .u32 2] w fun e w' => e = .returned (.tuple #[]) ∧ IsHost w' hb (H.put 10 (M.readV (H.get 10) 1 1)) ∧ IsMem w' a pb (M) ∧ Upd [hb, pb] w w' := by
  have hmo : Try.prog.follows .mixedOrders = true := by kernel_rfl
  have u0 : Upd [] w (w.alloc (.cells #[.pointer (some ⟨ab, 0, none⟩)] 127)) := (Upd.refl [] w).alloc _
  have S0 := Lib.hid h.start
  have U0 := Lib.hid u0
  have G0 := Lib.hid (Hs.get_range h.h 10)
  have HN := Lib.hid h.n
  have HK := Lib.hid hk
  clear h hk u0
  go_enter Try.func61, Try.ntmps61
  go_wp2_with (have _t := S0; clear _t; go_at_call 129; refine (loads_ok H M 1 _ ab hb a pb _ S0.out ⟨HN.out.2.1, HN.out.2.2.1⟩ HK.out).mono ?_; rintro e w7 ⟨rfl, h1, h2, h3⟩; have G7 := Lib.hid (And.intro h1 (And.intro h2 ((U0.out.mono (T := [hb]) (by simp)).also h3 (by simp)))); clear h1 h2 h3 S0)
  go_end0
  exact ⟨rfl, G7.out.1, G7.out.2.1, G7.out.2.2.mono (by simp)⟩

set_option maxRecDepth 100000 in
set_option maxHeartbeats 4000000 in
theorem touch_load4_bad (H : Hs) (M : Mem) (ab hb a pb : Nat) (w : World) (h : As w ab hb a pb H M) (hk : M.readK (H.get 10) 4 1 = false) :
    Calls Try.prog 61 #[.pointer (some ⟨ab, 0, none⟩), .int .u32 1] w fun e w' => e = .panicked [{ v := .iface 49 (M.rdF (H.get 10) 4 1).val, recovered := false }] ∧ Upd [] w w' := by
  have hmo : Try.prog.follows .mixedOrders = true := by kernel_rfl
  have u0 : Upd [] w (w.alloc (.cells #[.pointer (some ⟨ab, 0, none⟩)] 127)) := (Upd.refl [] w).alloc _
  have S0 := Lib.hid h.start
  have U0 := Lib.hid u0
  have G0 := Lib.hid (Hs.get_range h.h 10)
  have HN := Lib.hid h.n
  have HK := Lib.hid hk
  clear h hk u0
  go_enter Try.func61, Try.ntmps61
  go_wp2_with (have _t := S0; clear _t; go_at_call 129; refine (loads_bad H M 4 _ ab hb a pb _ S0.out HK.out).mono ?_; rintro e w7 ⟨rfl, h3⟩; have G7 := Lib.hid (U0.out.also h3 (by simp)); clear h3 S0)
  exact ⟨rfl, rfl, G7.out⟩

set_option maxRecDepth 100000 in
set_option maxHeartbeats 4000000 in
theorem touch_store4_ok (H : Hs) (M : Mem) (ab hb a pb : Nat) (w : World) (h : As w ab hb a pb H M) (hk : M.writeK (H.get 10) 4 = true) :
    Calls Try.prog 61 #[.pointer (some ⟨ab, 0, none⟩), .int .u32 3] w fun e w' => e = .returned (.tuple #[]) ∧ IsHost w' hb (H) ∧ IsMem w' a pb (M.writeM (H.get 10) 4 (H.get 11)) ∧ Upd [hb, pb] w w' := by
  have hmo : Try.prog.follows .mixedOrders = true := by kernel_rfl
  have u0 : Upd [] w (w.alloc (.cells #[.pointer (some ⟨ab, 0, none⟩)] 127)) := (Upd.refl [] w).alloc _
  have S0 := Lib.hid h.start
  have U0 := Lib.hid u0
  have G0 := Lib.hid (Hs.get_range h.h 10)
  have HN := Lib.hid h.n
  have NW := Lib.hid (show w.heap.size ≠ pb ∧ ab ≠ pb ∧ hb ≠ pb from ⟨by have := h.m.pl; omega, h.n.2.2.2, h.n.2.2.1⟩)
  have G1 := Lib.hid (Hs.get_range h.h 11)
  have HK := Lib.hid hk
  clear h hk u0
  go_enter Try.func61, Try.ntmps61
  go_wp2_with fail
  refine wp_drawD 12 (HpW (w.alloc (.cells #[.pointer (some ⟨ab, 0, none⟩)] 127)) w.heap.size ab hb a pb H M (M.writeM (H.get 10) 4 (H.get 11)) 8) (fun _ _ => False) (by kernel_rfl) (by decide +kernel) (HpW.start (S0.out.step (Upd.refl [] _).drew)) (fun _ _ _ h => h.elim) ?_
  simp only [List.take_succ_cons, List.take_zero, List.drop_succ_cons, List.drop_zero]
  iterate 5
    apply headD_val rfl rfl
    · intro d K hd hK w5 hB1
      have HB := Lib.hid hB1
      have c1 := cells_of HB.out.t
      have c2 := cells_of HB.out.ask.h
      clear hB1
      go_wp2_with fail
      first
      | exact hK _ (HB.out.same _ (by decide))
      | exact HB.out.same _ (by decide)
      | exact hK _ (HB.out.quiet hu _ (by decide))
      | exact HB.out.quiet hu _ (by decide)
    · exact ⟨_, rfl⟩
  iterate 1
    apply headD_val rfl rfl
    · intro d K hd hK w5 hB1
      have HB := Lib.hid hB1
      have c1 := cells_of HB.out.t
      have c2 := cells_of HB.out.ask.h
      clear hB1
      go_wp2_with (go_at_call 127; refine (arg_any H ab hb a 0 (by decide) _ HB.out.h HB.out.ask).mono ?_; rintro e w' ⟨rfl, rfl⟩)
      first
      | exact hK _ (HB.out.same _ (by decide))
      | exact HB.out.same _ (by decide)
      | exact hK _ (HB.out.quiet hu _ (by decide))
      | exact HB.out.quiet hu _ (by decide)
    · exact ⟨_, rfl⟩
  iterate 1
    apply headD_val rfl rfl
    · intro d K hd hK w5 hB1
      have HB := Lib.hid hB1
      have c1 := cells_of HB.out.t
      have c2 := cells_of HB.out.ask.h
      clear hB1
      go_wp2_with fail
      first
      | exact hK _ (HB.out.same _ (by decide))
      | exact HB.out.same _ (by decide)
      | exact hK _ (HB.out.quiet hu _ (by decide))
      | exact HB.out.quiet hu _ (by decide)
    · exact ⟨_, rfl⟩
  iterate 1
    apply headD_val rfl rfl
    · intro d K hd hK w5 hB1
      have HB := Lib.hid hB1
      have c1 := cells_of HB.out.t
      have c2 := cells_of HB.out.ask.h
      clear hB1
      go_wp2_with (go_at_call 127; refine (arg_any H ab hb a 1 (by decide) _ HB.out.h HB.out.ask).mono ?_; rintro e w' ⟨rfl, rfl⟩)
      first
      | exact hK _ (HB.out.same _ (by decide))
      | exact HB.out.same _ (by decide)
      | exact hK _ (HB.out.quiet hu _ (by decide))
      | exact HB.out.quiet hu _ (by decide)
    · exact ⟨_, rfl⟩
  apply headD_val rfl rfl
  · intro d K hd hK w5 hB1
    have HB := Lib.hid hB1
    have hm : IsMem w5 a pb M := by have := hB1.m; rw [hd] at this; exact this
    have HM := Lib.hid hm
    clear hB1 hm
    go_wp2_with (go_at_call 131; refine (Write_any M a pb (H.get 10) 4 (H.get 11) _ HM.out G0.out.1 G0.out.2 G1.out.1 G1.out.2).mono ?_; rintro e w6 ⟨rfl, hm6, hu⟩; rw [Mem.writeF_val, HK.out])
    first
    | exact hK _ (HB.out.mem hu hm6 NW.out)
    | exact HB.out.mem hu hm6 NW.out
  · exact ⟨_, rfl⟩
  iterate 2
    apply headD_val rfl rfl
    · intro d K hd hK w5 hB1
      have HB := Lib.hid hB1
      have c1 := cells_of HB.out.t
      have c2 := cells_of HB.out.ask.h
      clear hB1
      go_wp2_with fail
      first
      | exact hK _ (HB.out.same _ (by decide))
      | exact HB.out.same _ (by decide)
      | exact hK _ (HB.out.quiet hu _ (by decide))
      | exact HB.out.quiet hu _ (by decide)
    · exact ⟨_, rfl⟩
  iterate 1
    apply headD_val rfl rfl
    · intro d K hd hK w5 hB1
      have HB := Lib.hid hB1
      have c1 := cells_of HB.out.t
      have c2 := cells_of HB.out.ask.h
      clear hB1
      go_wp2_with (go_at_call 128; refine (hmust_ok (M.wrF (H.get 10) 4) _).mono ?_; rintro e w6 ⟨rfl, hu⟩)
      first
      | exact hK _ (HB.out.same _ (by decide))
      | exact HB.out.same _ (by decide)
      | exact hK _ (HB.out.quiet hu _ (by decide))
      | exact HB.out.quiet hu _ (by decide)
    · exact ⟨_, rfl⟩
  refine headD_nil (fun _ w7 d hall hB1 => ?_)
  have h8 := hall 8 (by decide)
  have hm := hB1.m
  rw [h8] at hm
  have G7 := Lib.hid (And.intro hB1.h (And.intro hm ((U0.out.mono (T := [pb]) (by simp)).also hB1.u (by simp))))
  clear hB1 hm hall h8
  go_wp2_with fail
  go_end0
  exact ⟨rfl, G7.out.1, G7.out.2.1, G7.out.2.2.mono (by simp)⟩

set_option maxRecDepth 100000 in
set_option maxHeartbeats 4000000 in
theorem touch_store1_bad (H : Hs) (M : Mem) (ab hb a pb : Nat) (w : World) (h : As w ab hb a pb H M) (hk : M.writeK (H.get 10) 1 = false) :
    Calls Try.prog 61 #[.pointer (some ⟨ab, 0, none⟩), .int .u32 4] w fun e w' => e = .panicked [{ v := .iface 49 (M.wrF (H.get 10) 1).val, recovered := false }] ∧ IsHost w' hb H ∧ Upd [pb] w w' := by
  have hmo : Try.prog.follows .mixedOrders = true := by kernel_rfl
  have u0 : Upd [] w (w.alloc (.cells #[.pointer (some ⟨ab, 0, none⟩)] 127)) := (Upd.refl [] w).alloc _
  have S0 := Lib.hid h.start
  have U0 := Lib.hid u0
  have G0 := Lib.hid (Hs.get_range h.h 10)
  have HN := Lib.hid h.n
  have NW := Lib.hid (show w.heap.size ≠ pb ∧ ab ≠ pb ∧ hb ≠ pb from ⟨by have := h.m.pl; omega, h.n.2.2.2, h.n.2.2.1⟩)
  have G1 := Lib.hid (Hs.get_range h.h 11)
  have HK := Lib.hid hk
  clear h hk u0
  go_enter Try.func61, Try.ntmps61
  go_wp2_with fail
  refine wp_drawD 12 (HpW (w.alloc (.cells #[.pointer (some ⟨ab, 0, none⟩)] 127)) w.heap.size ab hb a pb H M (M.writeM (H.get 10) 1 (H.get 11)) 8) (fun c w1 => c = [{ v := .iface 49 (M.wrF (H.get 10) 1).val, recovered := false }] ∧ IsHost w1 hb H ∧ Upd [pb] (w.alloc (.cells #[.pointer (some ⟨ab, 0, none⟩)] 127)) w1) (by kernel_rfl) (by decide +kernel) (HpW.start (S0.out.step (Upd.refl [] _).drew)) ?_ ?_
  simp only [List.take_succ_cons, List.take_zero, List.drop_succ_cons, List.drop_zero]
  · rintro c a' w' ⟨rfl, h1, h2⟩ hd _ _
    exact ⟨hd, rfl, h1, (U0.out.mono (T := [pb]) (by simp)).also h2 (by simp)⟩
  iterate 5
    apply headD_val rfl rfl
    · intro d K hd hK w5 hB1
      have HB := Lib.hid hB1
      have c1 := cells_of HB.out.t
      have c2 := cells_of HB.out.ask.h
      clear hB1
      go_wp2_with fail
      first
      | exact hK _ (HB.out.same _ (by decide))
      | exact HB.out.same _ (by decide)
      | exact hK _ (HB.out.quiet hu _ (by decide))
      | exact HB.out.quiet hu _ (by decide)
    · exact ⟨_, rfl⟩
  iterate 1
    apply headD_val rfl rfl
    · intro d K hd hK w5 hB1
      have HB := Lib.hid hB1
      have c1 := cells_of HB.out.t
      have c2 := cells_of HB.out.ask.h
      clear hB1
      go_wp2_with (go_at_call 127; refine (arg_any H ab hb a 0 (by decide) _ HB.out.h HB.out.ask).mono ?_; rintro e w' ⟨rfl, rfl⟩)
      first
      | exact hK _ (HB.out.same _ (by decide))
      | exact HB.out.same _ (by decide)
      | exact hK _ (HB.out.quiet hu _ (by decide))
      | exact HB.out.quiet hu _ (by decide)
    · exact ⟨_, rfl⟩
  iterate 1
    apply headD_val rfl rfl
    · intro d K hd hK w5 hB1
      have HB := Lib.hid hB1
      have c1 := cells_of HB.out.t
      have c2 := cells_of HB.out.ask.h
      clear hB1
      go_wp2_with fail
      first
      | exact hK _ (HB.out.same _ (by decide))
      | exact HB.out.same _ (by decide)
      | exact hK _ (HB.out.quiet hu _ (by decide))
      | exact HB.out.quiet hu _ (by decide)
    · exact ⟨_, rfl⟩
  iterate 1
    apply headD_val rfl rfl
    · intro d K hd hK w5 hB1
      have HB := Lib.hid hB1
      have c1 := cells_of HB.out.t
      have c2 := cells_of HB.out.ask.h
      clear hB1
      go_wp2_with (go_at_call 127; refine (arg_any H ab hb a 1 (by decide) _ HB.out.h HB.out.ask).mono ?_; rintro e w' ⟨rfl, rfl⟩)
      first
      | exact hK _ (HB.out.same _ (by decide))
      | exact HB.out.same _ (by decide)
      | exact hK _ (HB.out.quiet hu _ (by decide))
      | exact HB.out.quiet hu _ (by decide)
    · exact ⟨_, rfl⟩
  apply headD_val rfl rfl
  · intro d K hd hK w5 hB1
    have HB := Lib.hid hB1
    have hm : IsMem w5 a pb M := by have := hB1.m; rw [hd] at this; exact this
    have HM := Lib.hid hm
    clear hB1 hm
    go_wp2_with (go_at_call 131; refine (Write_any M a pb (H.get 10) 1 (H.get 11) _ HM.out G0.out.1 G0.out.2 G1.out.1 G1.out.2).mono ?_; rintro e w6 ⟨rfl, hm6, hu⟩; rw [Mem.writeF_val, HK.out])
    first
    | exact hK _ (HB.out.mem hu hm6 NW.out)
    | exact HB.out.mem hu hm6 NW.out
  · exact ⟨_, rfl⟩
  iterate 2
    apply headD_val rfl rfl
    · intro d K hd hK w5 hB1
      have HB := Lib.hid hB1
      have c1 := cells_of HB.out.t
      have c2 := cells_of HB.out.ask.h
      clear hB1
      go_wp2_with fail
      first
      | exact hK _ (HB.out.same _ (by decide))
      | exact HB.out.same _ (by decide)
      | exact hK _ (HB.out.quiet hu _ (by decide))
      | exact HB.out.quiet hu _ (by decide)
    · exact ⟨_, rfl⟩
  refine headD_dies rfl rfl ?_ ?_
  · intro d w5 hd hB1
    have HB := Lib.hid hB1
    clear hB1
    go_wp2_with (go_at_call 128; refine (hmust_bad (M.wrF (H.get 10) 1) _).mono ?_; rintro e w6 ⟨rfl, hu⟩)
    exact ⟨rfl, HB.out.h.keep hu (by simp), HB.out.u.also hu (by simp)⟩
  refine headD_nil (fun hdead => by cases hdead)

set_option maxRecDepth 100000 in
set_option maxHeartbeats 4000000 in
theorem touch_lay_ok (H : Hs) (M : Mem) (ab hb a pb : Nat) (w : World) (h : As w ab hb a pb H M) (hk : M.canK (H.get 10) 8 2 = true) :
    Calls Try.prog 61 #[.pointer (some ⟨ab, 0, none⟩), .int .u32 8] w fun e w' => e = .returned (.tuple #[]) ∧ IsHost w' hb (H) ∧ IsMem w' a pb (M.wr8M (H.get 10) (H.two 1)) ∧ Upd [hb, pb] w w' := by
  have hmo : Try.prog.follows .mixedOrders = true := by kernel_rfl
  have u0 : Upd [] w (w.alloc (.cells #[.pointer (some ⟨ab, 0, none⟩)] 127)) := (Upd.refl [] w).alloc _
  have S0 := Lib.hid h.start
  have U0 := Lib.hid u0
  have G0 := Lib.hid (Hs.get_range h.h 10)
  have HN := Lib.hid h.n
  have NW := Lib.hid (show w.heap.size ≠ pb ∧ ab ≠ pb ∧ hb ≠ pb from ⟨by have := h.m.pl; omega, h.n.2.2.2, h.n.2.2.1⟩)
  have G1 := Lib.hid (Hs.get_range h.h 11)
  have G2 := Lib.hid (show 0 ≤ H.two 1 ∧ H.two 1 < 18446744073709551616 by
    have g1 := Hs.get_range h.h (10 + 1)
    have g2 := Hs.get_range h.h (11 + 1)
    unfold Hs.two
    omega)
  have HK := Lib.hid hk
  clear h hk u0
  go_enter Try.func61, Try.ntmps61
  go_wp2_with fail
  refine wp_drawD 12 (HpW (w.alloc (.cells #[.pointer (some ⟨ab, 0, none⟩)] 127)) w.heap.size ab hb a pb H M (M.wr8M (H.get 10) (H.two 1)) 8) (fun _ _ => False) (by kernel_rfl) (by decide +kernel) (HpW.start (S0.out.step (Upd.refl [] _).drew)) (fun _ _ _ h => h.elim) ?_
  simp only [List.take_succ_cons, List.take_zero, List.drop_succ_cons, List.drop_zero]
  iterate 5
    apply headD_val rfl rfl
    · intro d K hd hK w5 hB1
      have HB := Lib.hid hB1
      have c1 := cells_of HB.out.t
      have c2 := cells_of HB.out.ask.h
      clear hB1
      go_wp2_with fail
      first
      | exact hK _ (HB.out.same _ (by decide))
      | exact HB.out.same _ (by decide)
      | exact hK _ (HB.out.quiet hu _ (by decide))
      | exact HB.out.quiet hu _ (by decide)
    · exact ⟨_, rfl⟩
  iterate 1
    apply headD_val rfl rfl
    · intro d K hd hK w5 hB1
      have HB := Lib.hid hB1
      have c1 := cells_of HB.out.t
      have c2 := cells_of HB.out.ask.h
      clear hB1
      go_wp2_with (go_at_call 127; refine (arg_any H ab hb a 0 (by decide) _ HB.out.h HB.out.ask).mono ?_; rintro e w' ⟨rfl, rfl⟩)
      first
      | exact hK _ (HB.out.same _ (by decide))
      | exact HB.out.same _ (by decide)
      | exact hK _ (HB.out.quiet hu _ (by decide))
      | exact HB.out.quiet hu _ (by decide)
    · exact ⟨_, rfl⟩
  iterate 1
    apply headD_val rfl rfl
    · intro d K hd hK w5 hB1
      have HB := Lib.hid hB1
      have c1 := cells_of HB.out.t
      have c2 := cells_of HB.out.ask.h
      clear hB1
      go_wp2_with fail
      first
      | exact hK _ (HB.out.same _ (by decide))
      | exact HB.out.same _ (by decide)
      | exact hK _ (HB.out.quiet hu _ (by decide))
      | exact HB.out.quiet hu _ (by decide)
    · exact ⟨_, rfl⟩
  iterate 1
    apply headD_val rfl rfl
    · intro d K hd hK w5 hB1
      have HB := Lib.hid hB1
      have c1 := cells_of HB.out.t
      have c2 := cells_of HB.out.ask.h
      clear hB1
      go_wp2_with (go_at_call 117; refine (two_any H ab hb a 1 (by decide) _ HB.out.h HB.out.ask).mono ?_; rintro e w' ⟨rfl, rfl⟩)
      first
      | exact hK _ (HB.out.same _ (by decide))
      | exact HB.out.same _ (by decide)
      | exact hK _ (HB.out.quiet hu _ (by decide))
      | exact HB.out.quiet hu _ (by decide)
    · exact ⟨_, rfl⟩
  apply headD_val rfl rfl
  · intro d K hd hK w5 hB1
    have HB := Lib.hid hB1
    have hm : IsMem w5 a pb M := by have := hB1.m; rw [hd] at this; exact this
    have HM := Lib.hid hm
    clear hB1 hm
    go_wp2_with (go_at_call 133; refine (Write8_any M a pb (H.get 10) (H.two 1) _ HM.out G0.out.1 G0.out.2 G2.out.1 G2.out.2).mono ?_; rintro e w6 ⟨rfl, hm6, hu⟩; rw [HK.out])
    first
    | exact hK _ (HB.out.mem hu hm6 NW.out)
    | exact HB.out.mem hu hm6 NW.out
  · exact ⟨_, rfl⟩
  iterate 2
    apply headD_val rfl rfl
    · intro d K hd hK w5 hB1
      have HB := Lib.hid hB1
      have c1 := cells_of HB.out.t
      have c2 := cells_of HB.out.ask.h
      clear hB1
      go_wp2_with fail
      first
      | exact hK _ (HB.out.same _ (by decide))
      | exact HB.out.same _ (by decide)
      | exact hK _ (HB.out.quiet hu _ (by decide))
      | exact HB.out.quiet hu _ (by decide)
    · exact ⟨_, rfl⟩
  iterate 1
    apply headD_val rfl rfl
    · intro d K hd hK w5 hB1
      have HB := Lib.hid hB1
      have c1 := cells_of HB.out.t
      have c2 := cells_of HB.out.ask.h
      clear hB1
      go_wp2_with (go_at_call 128; refine (hmust_ok (M.canF (H.get 10) 8 2) _).mono ?_; rintro e w6 ⟨rfl, hu⟩)
      first
      | exact hK _ (HB.out.same _ (by decide))
      | exact HB.out.same _ (by decide)
      | exact hK _ (HB.out.quiet hu _ (by decide))
      | exact HB.out.quiet hu _ (by decide)
    · exact ⟨_, rfl⟩
  refine headD_nil (fun _ w7 d hall hB1 => ?_)
  have h8 := hall 8 (by decide)
  have hm := hB1.m
  rw [h8] at hm
  have G7 := Lib.hid (And.intro hB1.h (And.intro hm ((U0.out.mono (T := [pb]) (by simp)).also hB1.u (by simp))))
  clear hB1 hm hall h8
  go_wp2_with fail
  go_end0
  exact ⟨rfl, G7.out.1, G7.out.2.1, G7.out.2.2.mono (by simp)⟩
end Go.Proofs.Ytoplekfnghkkdaa
