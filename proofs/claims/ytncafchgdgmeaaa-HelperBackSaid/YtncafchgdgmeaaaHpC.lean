/-
  Package helper: touches: the closure that loads, by its contract. No condition.
-/
import Derived.Test.YtncafchgdgmeaaaHpB
import Derived.Test.YtncafchgdgmeaaaStO
namespace Go.Proofs.Ytncafchgdgmeaaa
open Go Go.RowKit
set_option linter.unusedVariables false
set_option linter.unusedSimpArgs false

/-- Where touches stands: the variable of the one that asks, that one, its host, its memory. -/
structure HpS (w : World) (tb ab hb a pb : Nat) (H : Hs) (M : Mem) (w1 : World) : Prop where
  t : w1.heap[tb]? = some (.cells #[.pointer (some ⟨ab, 0, none⟩)] 137 (0, 0))
  k : IsAsk w1 ab hb a
  h : IsHost w1 hb H
  m : IsMem w1 a pb M
  n : tb < w.heap.size ∧ ab < w.heap.size ∧ hb < w.heap.size ∧ a < w.heap.size ∧ pb < w.heap.size
  u : Upd [] w w1

section
variable {w w1 w2 : World} {tb ab hb a pb g : Nat} {H : Hs} {M : Mem}
theorem HpS.step (h : HpS w tb ab hb a pb H M w1) (u : Upd [] w1 w2) : HpS w tb ab hb a pb H M w2 :=
  ⟨u.get h.t (by simp), h.k.keep u (by simp), h.h.keep u (by simp), h.m.keep u (by simp) (by simp), h.n, h.u.also u (by simp)⟩
theorem HpS.far (h : HpS w tb ab hb a pb H M w1) (u : Upd [g] w1 w2) (hg : w.heap.size ≤ g) : HpS w tb ab hb a pb H M w2 := by
  obtain ⟨n1, n2, n3, n4, n5⟩ := h.n
  exact ⟨u.get h.t (by simp; omega), h.k.keep u (by simp; omega), h.h.keep u (by simp; omega), h.m.keep u (by simp; omega) (by simp; omega), h.n, h.u.also u (by simp; omega)⟩
end

def fltC (F : Flt) : Array Value := #[.int .i64 F.k, .int .u32 F.pc, .int .u32 F.a, .int .i64 F.wt]

/-- Along a drawn region that lays a fault (operation i) and stores into it (operation k). -/
structure HpD (w : World) (tb ab hb a pb : Nat) (H : Hs) (M : Mem) (F : Flt) (i k : Nat) (d : Nat → Bool) (r : Nat → Value) (w1 : World) : Prop where
  b : HpS w tb ab hb a pb H M w1
  x : d i = true → ∃ g Z, r i = .pointer (some ⟨g, 0, none⟩) ∧ w.heap.size ≤ g ∧ w1.heap[g]? = some (.cells (fltC Z) 32 (0, 0)) ∧ (d k = true → Z = F)
  o : d k = true → d i = true
  ne : i ≠ k

section
variable {w w1 w2 : World} {tb ab hb a pb g : Nat} {H : Hs} {M : Mem} {F : Flt} {i k : Nat} {d : Nat → Bool} {r : Nat → Value}
theorem HpD.start (h : HpS w tb ab hb a pb H M w1) (ne : i ≠ k) (r : Nat → Value) : HpD w tb ab hb a pb H M F i k (fun _ => false) r w1 :=
  ⟨h, fun h => (by cases h), fun h => (by cases h), ne⟩
theorem HpD.quiet (h : HpD w tb ab hb a pb H M F i k d r w1) (hu : Upd [] w1 w2) (m : Nat) (h1 : i ≠ m) (h2 : k ≠ m) : HpD w tb ab hb a pb H M F i k (updD d m) r w2 := by
  refine ⟨h.b.step hu, fun hx => ?_, fun ho => ?_, h.ne⟩
  · rw [updD_ne h1] at hx
    obtain ⟨g, Z, e1, e2, e3, e4⟩ := h.x hx
    exact ⟨g, Z, e1, e2, hu.get e3 (by simp), fun hk => e4 (by rwa [updD_ne h2] at hk)⟩
  · rw [updD_ne h2] at ho; rw [updD_ne h1]; exact h.o ho
theorem HpD.same (h : HpD w tb ab hb a pb H M F i k d r w1) (m : Nat) (h1 : i ≠ m) (h2 : k ≠ m) : HpD w tb ab hb a pb H M F i k (updD d m) r w1 := h.quiet (Upd.refl [] w1) m h1 h2
theorem HpD.lay (h : HpD w tb ab hb a pb H M F i k d r w1) (hd : d i = false) : HpD w tb ab hb a pb H M F i k (updD d i) (updV r i (.pointer (some ⟨w1.heap.size, 0, none⟩))) (w1.alloc (.cells #[.int .i64 0, .int .u32 0, .int .u32 0, .int .i64 0] 32)) := by
  refine ⟨h.b.step ((Upd.refl [] w1).alloc _), fun _ => ⟨_, Flt.zero, updV_eq, h.b.u.size, heap_alloc_new _ _, fun hk => ?_⟩, fun _ => updD_eq, h.ne⟩
  rw [updD_ne h.ne.symm] at hk
  rw [h.o hk] at hd; cases hd
theorem HpD.store (h : HpD w tb ab hb a pb H M F i k d r w1) (hd : d i = true) {Z : Flt} (hg : r i = .pointer (some ⟨g, 0, none⟩)) (hn : w.heap.size ≤ g) (hb' : w1.heap[g]? = some (.cells (fltC Z) 32 (0, 0))) :
    HpD w tb ab hb a pb H M F i k (updD d k) r (w1.setCells g 0 (fltC F).toList) := by
  have hu : Upd [g] w1 (w1.setCells g 0 (fltC F).toList) := (Upd.refl [g] w1).setCells (.inl (by simp)) _ _
  refine ⟨h.b.far hu hn, fun _ => ⟨g, F, hg, hn, ?_, fun _ => rfl⟩, fun _ => by rw [updD_ne h.ne]; exact hd, h.ne⟩
  rw [heap_setCells_same _ _ _ _ hb']
  rfl
theorem HpD.fin (h : HpD w tb ab hb a pb H M F i k d r w1) (hi : d i = true) (hk : d k = true) : ∃ g, r i = .pointer (some ⟨g, 0, none⟩) ∧ w1.heap[g]? = some (.cells (fltC F) 32 (0, 0)) := by
  obtain ⟨g, Z, e1, e2, e3, e4⟩ := h.x hi
  rw [e4 hk] at e3
  exact ⟨g, e1, e3⟩

theorem wp_store_flt {op : Oper} {A : Act} {w : World} {K : Act → World → Prop} {Q : Exit → Act → World → Prop} (F Z : Flt) (g : Nat) (x y : Operand) (ho : op.op = .store 32 x y) (hx : A.eval x = .pointer (some ⟨g, 0, none⟩)) (hy : A.eval y = F.val)
    (hb : w.heap[g]? = some (.cells (fltC Z) 32 (0, 0))) (hK : K (A.put op.dst undef) (w.setCells g 0 (fltC F).toList)) : op.wp Try.prog A w K Q :=
  wp_store_mid 32 x y ho g 0 (fltC F) hx hy (there_of hb 0 4 (by simp [fltC])) fault_info (by simp [fltC, Value.oneCell']) hK
end

set_option maxRecDepth 100000 in
set_option maxHeartbeats 2000000 in
theorem loads_ok (H : Hs) (M : Mem) (n : Int) (tb ab hb a pb : Nat) (w : World) (h : HpS w tb ab hb a pb H M w) (hne : hb ≠ a ∧ hb ≠ pb) (hk : M.readK (H.get 10) n 1 = true) :
    Calls Try.prog 112 #[.int .i64 n, .pointer (some ⟨tb, 0, none⟩)] w fun e w' => e = .returned (.tuple #[]) ∧ IsHost w' hb (H.put 10 (M.readV (H.get 10) n 1)) ∧ IsMem w' a pb M ∧ Upd [hb] w w' := by
  have hmo : Try.prog.follows .mixedOrders = true := by kernel_rfl
  have gx := Hs.get_range h.h 10
  have G0 := Lib.hid gx
  have GV := Lib.hid (readV_range h.m (H.get 10) n 1)
  have S0 := Lib.hid h
  have HK := Lib.hid hk
  have HN := Lib.hid hne
  clear h hk gx hne
  go_enter Try.func112, Try.ntmps112
  go_wp2_with fail
  refine wp_drawE 16 (HpD w tb ab hb a pb H M (M.rdF (H.get 10) n 1) 12 14) (fun _ _ => False) (by kernel_rfl) (by decide +kernel) (fun r0 => HpD.start (S0.out.step (Upd.refl [] _).drew) (by decide) r0) (fun _ _ _ h => h.elim) ?_
  simp only [List.take_succ_cons, List.take_zero, List.drop_succ_cons, List.drop_zero]
  iterate 5
    apply headE_val0 rfl rfl
    · intro d r0 K hd hdep hK w5 hB1
      have HB := Lib.hid hB1
      have c1 := cells_of HB.out.b.t
      have c2 := cells_of HB.out.b.k.h
      clear hB1 hdep
      go_wp2_with fail
      first
      | exact hK _ (HB.out.same _ (by decide) (by decide))
      | exact HB.out.same _ (by decide) (by decide)
      | exact hK _ (HB.out.quiet hu _ (by decide) (by decide))
      | exact HB.out.quiet hu _ (by decide) (by decide)
    · exact ⟨_, rfl⟩
  iterate 1
    apply headE_val0 rfl rfl
    · intro d r0 K hd hdep hK w5 hB1
      have HB := Lib.hid hB1
      have c1 := cells_of HB.out.b.t
      have c2 := cells_of HB.out.b.k.h
      clear hB1 hdep
      go_wp2_with (go_at_call 110; refine (arg_any H ab hb a 0 (by decide) _ HB.out.b.h HB.out.b.k).mono ?_; rintro e w' ⟨rfl, rfl⟩)
      first
      | exact hK _ (HB.out.same _ (by decide) (by decide))
      | exact HB.out.same _ (by decide) (by decide)
      | exact hK _ (HB.out.quiet hu _ (by decide) (by decide))
      | exact HB.out.quiet hu _ (by decide) (by decide)
    · exact ⟨_, rfl⟩
  iterate 1
    apply headE_val0 rfl rfl
    · intro d r0 K hd hdep hK w5 hB1
      have HB := Lib.hid hB1
      have c1 := cells_of HB.out.b.t
      have c2 := cells_of HB.out.b.k.h
      clear hB1 hdep
      go_wp2_with fail
      first
      | exact hK _ (HB.out.same _ (by decide) (by decide))
      | exact HB.out.same _ (by decide) (by decide)
      | exact hK _ (HB.out.quiet hu _ (by decide) (by decide))
      | exact HB.out.quiet hu _ (by decide) (by decide)
    · exact ⟨_, rfl⟩
  iterate 1
    apply headE_val0 rfl rfl
    · intro d r0 K hd hdep hK w5 hB1
      have HB := Lib.hid hB1
      have c1 := cells_of HB.out.b.t
      have c2 := cells_of HB.out.b.k.h
      clear hB1 hdep
      go_wp2_with (go_at_call 20; refine (Read_any M a pb (H.get 10) n 1 _ HB.out.b.m G0.out.1 G0.out.2).mono ?_; rintro e w6 ⟨rfl, hu⟩; rw [Mem.readF_val, HK.out])
      first
      | exact hK _ (HB.out.same _ (by decide) (by decide))
      | exact HB.out.same _ (by decide) (by decide)
      | exact hK _ (HB.out.quiet hu _ (by decide) (by decide))
      | exact HB.out.quiet hu _ (by decide) (by decide)
    · exact ⟨_, rfl⟩
  iterate 4
    apply headE_val0 rfl rfl
    · intro d r0 K hd hdep hK w5 hB1
      have HB := Lib.hid hB1
      have c1 := cells_of HB.out.b.t
      have c2 := cells_of HB.out.b.k.h
      clear hB1 hdep
      go_wp2_with fail
      first
      | exact hK _ (HB.out.same _ (by decide) (by decide))
      | exact HB.out.same _ (by decide) (by decide)
      | exact hK _ (HB.out.quiet hu _ (by decide) (by decide))
      | exact HB.out.quiet hu _ (by decide) (by decide)
    · exact ⟨_, rfl⟩
  refine headE_free rfl (fun _ => rfl) 4 rfl (by simp [Act.put]) ?_ ?_
  · intro d r0 K hd w5 hB1 hK
    have HB := Lib.hid hB1
    clear hB1
    simp only [fillE]
    go_wp2_with fail
    first
    | exact hK (.pointer (some ⟨w5.heap.size, 0, none⟩)) _ (HB.out.lay hd)
    | exact HB.out.lay hd
  iterate 1
    apply headE_val rfl (fun _ => rfl)
    · intro d r0 K hd hdep hK w5 hB1
      have HB := Lib.hid hB1
      have c1 := cells_of HB.out.b.t
      have c2 := cells_of HB.out.b.k.h
      clear hB1 hdep
      simp only [fillE]
      go_wp2_with fail
      first
      | exact hK _ (HB.out.same _ (by decide) (by decide))
      | exact HB.out.same _ (by decide) (by decide)
      | exact hK _ (HB.out.quiet hu _ (by decide) (by decide))
      | exact HB.out.quiet hu _ (by decide) (by decide)
    · exact ⟨_, fun _ => rfl, rfl⟩
  apply headE_val rfl (fun _ => rfl)
  · intro d r0 K hd hdep hK w5 hB1
    have h8 : d 12 = true := hdep ⟨12, .data⟩ (by simp) rfl
    obtain ⟨g, Z, e1, e2, e3, e4⟩ := hB1.x h8
    refine wp_store_flt (M.rdF (H.get 10) n 1) Z g _ _ rfl (by show r0 12 = _; exact e1) rfl e3 ?_
    exact hK _ (hB1.store h8 e1 e2 e3)
  · exact ⟨_, fun _ => rfl, rfl⟩
  iterate 1
    apply headE_val rfl (fun _ => rfl)
    · intro d r0 K hd hdep hK w5 hB1
      have HB := Lib.hid hB1
      have c1 := cells_of HB.out.b.t
      have c2 := cells_of HB.out.b.k.h
      clear hB1 hdep
      simp only [fillE]
      go_wp2_with fail
      first
      | exact hK _ (HB.out.same _ (by decide) (by decide))
      | exact HB.out.same _ (by decide) (by decide)
      | exact hK _ (HB.out.quiet hu _ (by decide) (by decide))
      | exact HB.out.quiet hu _ (by decide) (by decide)
    · exact ⟨_, fun _ => rfl, rfl⟩
  refine headE_nil (fun _ r0 w5 d hall hB1 => ?_)
  obtain ⟨g5, e1, hG⟩ := hB1.fin (hall 12 (by decide)) (hall 14 (by decide))
  have G5 := Lib.hid (And.intro hB1.b hG)
  show wpList _ _ _ _ (Act.put (fillE _ _ [] _) (some 4) (r0 12)) _
  rw [e1]
  simp only [fillE]
  clear hG e1 hall hB1
  have cf := cells_of G5.out.2
  unfold fltC at cf
  have ct := cells_of G5.out.1.t
  go_wp2_with (first | (have _t := G5; clear _t; go_at_call 111; refine (hmust_ok (M.rdF (H.get 10) n 1) _).mono ?_; rintro e w6 ⟨rfl, hu⟩; have G6 := Lib.hid (G5.out.1.step hu); clear hu G5 cf ct; have ct := cells_of G6.out.t) | (have _t := G6; clear _t; go_at_call 106; refine (answers_any H ab hb a _ GV.out _ G6.out.h G6.out.k).mono ?_; rintro e w7 ⟨rfl, h7, hu⟩; have G7 := Lib.hid (And.intro h7 (And.intro (G6.out.m.keep hu (by simpa using fun e => HN.out.1 e.symm) (by simpa using fun e => HN.out.2 e.symm)) ((G6.out.u.mono (T := [hb]) (by simp)).also hu (by simp)))); clear h7 hu G6))
  go_end0
  exact ⟨rfl, G7.out.1, G7.out.2.1, G7.out.2.2⟩
set_option maxRecDepth 100000 in
set_option maxHeartbeats 2000000 in
theorem loads_bad (H : Hs) (M : Mem) (n : Int) (tb ab hb a pb : Nat) (w : World) (h : HpS w tb ab hb a pb H M w) (hk : M.readK (H.get 10) n 1 = false) :
    Calls Try.prog 112 #[.int .i64 n, .pointer (some ⟨tb, 0, none⟩)] w fun e w' => e = .panicked [{ v := .iface 32 (M.rdF (H.get 10) n 1).val, recovered := false }] ∧ Upd [] w w' := by
  have hmo : Try.prog.follows .mixedOrders = true := by kernel_rfl
  have gx := Hs.get_range h.h 10
  have G0 := Lib.hid gx
  have GV := Lib.hid (readV_range h.m (H.get 10) n 1)
  have S0 := Lib.hid h
  have HK := Lib.hid hk
  clear h hk gx
  go_enter Try.func112, Try.ntmps112
  go_wp2_with fail
  refine wp_drawE 16 (HpD w tb ab hb a pb H M (M.rdF (H.get 10) n 1) 12 14) (fun _ _ => False) (by kernel_rfl) (by decide +kernel) (fun r0 => HpD.start (S0.out.step (Upd.refl [] _).drew) (by decide) r0) (fun _ _ _ h => h.elim) ?_
  simp only [List.take_succ_cons, List.take_zero, List.drop_succ_cons, List.drop_zero]
  iterate 5
    apply headE_val0 rfl rfl
    · intro d r0 K hd hdep hK w5 hB1
      have HB := Lib.hid hB1
      have c1 := cells_of HB.out.b.t
      have c2 := cells_of HB.out.b.k.h
      clear hB1 hdep
      go_wp2_with fail
      first
      | exact hK _ (HB.out.same _ (by decide) (by decide))
      | exact HB.out.same _ (by decide) (by decide)
      | exact hK _ (HB.out.quiet hu _ (by decide) (by decide))
      | exact HB.out.quiet hu _ (by decide) (by decide)
    · exact ⟨_, rfl⟩
  iterate 1
    apply headE_val0 rfl rfl
    · intro d r0 K hd hdep hK w5 hB1
      have HB := Lib.hid hB1
      have c1 := cells_of HB.out.b.t
      have c2 := cells_of HB.out.b.k.h
      clear hB1 hdep
      go_wp2_with (go_at_call 110; refine (arg_any H ab hb a 0 (by decide) _ HB.out.b.h HB.out.b.k).mono ?_; rintro e w' ⟨rfl, rfl⟩)
      first
      | exact hK _ (HB.out.same _ (by decide) (by decide))
      | exact HB.out.same _ (by decide) (by decide)
      | exact hK _ (HB.out.quiet hu _ (by decide) (by decide))
      | exact HB.out.quiet hu _ (by decide) (by decide)
    · exact ⟨_, rfl⟩
  iterate 1
    apply headE_val0 rfl rfl
    · intro d r0 K hd hdep hK w5 hB1
      have HB := Lib.hid hB1
      have c1 := cells_of HB.out.b.t
      have c2 := cells_of HB.out.b.k.h
      clear hB1 hdep
      go_wp2_with fail
      first
      | exact hK _ (HB.out.same _ (by decide) (by decide))
      | exact HB.out.same _ (by decide) (by decide)
      | exact hK _ (HB.out.quiet hu _ (by decide) (by decide))
      | exact HB.out.quiet hu _ (by decide) (by decide)
    · exact ⟨_, rfl⟩
  iterate 1
    apply headE_val0 rfl rfl
    · intro d r0 K hd hdep hK w5 hB1
      have HB := Lib.hid hB1
      have c1 := cells_of HB.out.b.t
      have c2 := cells_of HB.out.b.k.h
      clear hB1 hdep
      go_wp2_with (go_at_call 20; refine (Read_any M a pb (H.get 10) n 1 _ HB.out.b.m G0.out.1 G0.out.2).mono ?_; rintro e w6 ⟨rfl, hu⟩; rw [Mem.readF_val, HK.out])
      first
      | exact hK _ (HB.out.same _ (by decide) (by decide))
      | exact HB.out.same _ (by decide) (by decide)
      | exact hK _ (HB.out.quiet hu _ (by decide) (by decide))
      | exact HB.out.quiet hu _ (by decide) (by decide)
    · exact ⟨_, rfl⟩
  iterate 4
    apply headE_val0 rfl rfl
    · intro d r0 K hd hdep hK w5 hB1
      have HB := Lib.hid hB1
      have c1 := cells_of HB.out.b.t
      have c2 := cells_of HB.out.b.k.h
      clear hB1 hdep
      go_wp2_with fail
      first
      | exact hK _ (HB.out.same _ (by decide) (by decide))
      | exact HB.out.same _ (by decide) (by decide)
      | exact hK _ (HB.out.quiet hu _ (by decide) (by decide))
      | exact HB.out.quiet hu _ (by decide) (by decide)
    · exact ⟨_, rfl⟩
  refine headE_free rfl (fun _ => rfl) 4 rfl (by simp [Act.put]) ?_ ?_
  · intro d r0 K hd w5 hB1 hK
    have HB := Lib.hid hB1
    clear hB1
    simp only [fillE]
    go_wp2_with fail
    first
    | exact hK (.pointer (some ⟨w5.heap.size, 0, none⟩)) _ (HB.out.lay hd)
    | exact HB.out.lay hd
  iterate 1
    apply headE_val rfl (fun _ => rfl)
    · intro d r0 K hd hdep hK w5 hB1
      have HB := Lib.hid hB1
      have c1 := cells_of HB.out.b.t
      have c2 := cells_of HB.out.b.k.h
      clear hB1 hdep
      simp only [fillE]
      go_wp2_with fail
      first
      | exact hK _ (HB.out.same _ (by decide) (by decide))
      | exact HB.out.same _ (by decide) (by decide)
      | exact hK _ (HB.out.quiet hu _ (by decide) (by decide))
      | exact HB.out.quiet hu _ (by decide) (by decide)
    · exact ⟨_, fun _ => rfl, rfl⟩
  apply headE_val rfl (fun _ => rfl)
  · intro d r0 K hd hdep hK w5 hB1
    have h8 : d 12 = true := hdep ⟨12, .data⟩ (by simp) rfl
    obtain ⟨g, Z, e1, e2, e3, e4⟩ := hB1.x h8
    refine wp_store_flt (M.rdF (H.get 10) n 1) Z g _ _ rfl (by show r0 12 = _; exact e1) rfl e3 ?_
    exact hK _ (hB1.store h8 e1 e2 e3)
  · exact ⟨_, fun _ => rfl, rfl⟩
  iterate 1
    apply headE_val rfl (fun _ => rfl)
    · intro d r0 K hd hdep hK w5 hB1
      have HB := Lib.hid hB1
      have c1 := cells_of HB.out.b.t
      have c2 := cells_of HB.out.b.k.h
      clear hB1 hdep
      simp only [fillE]
      go_wp2_with fail
      first
      | exact hK _ (HB.out.same _ (by decide) (by decide))
      | exact HB.out.same _ (by decide) (by decide)
      | exact hK _ (HB.out.quiet hu _ (by decide) (by decide))
      | exact HB.out.quiet hu _ (by decide) (by decide)
    · exact ⟨_, fun _ => rfl, rfl⟩
  refine headE_nil (fun _ r0 w5 d hall hB1 => ?_)
  obtain ⟨g5, e1, hG⟩ := hB1.fin (hall 12 (by decide)) (hall 14 (by decide))
  have G5 := Lib.hid (And.intro hB1.b hG)
  show wpList _ _ _ _ (Act.put (fillE _ _ [] _) (some 4) (r0 12)) _
  rw [e1]
  simp only [fillE]
  clear hG e1 hall hB1
  have cf := cells_of G5.out.2
  unfold fltC at cf
  have ct := cells_of G5.out.1.t
  go_wp2_with (have _t := G5; clear _t; go_at_call 111; refine (hmust_bad (M.rdF (H.get 10) n 1) _).mono ?_; rintro e w6 ⟨rfl, hu⟩; have G6 := Lib.hid (G5.out.1.step hu); clear hu G5 cf ct)
  exact ⟨rfl, rfl, G6.out.u⟩

end Go.Proofs.Ytncafchgdgmeaaa
