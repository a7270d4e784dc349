/-
  The law OperandBytes: the walk.
-/
import Derived.Test.YtncafchgdgmeaaaStO
import Derived.Test.YtncafchgdgmeaaaStL
namespace Go.Proofs.Ytncafchgdgmeaaa
open Go Go.RowKit
set_option linter.unusedVariables false
set_option linter.unusedSimpArgs false

/-- A fault, new, ahead of a store into the state's variable. -/
theorem f_new {w5 w6 : World} {bt : Nat} {Z : St} (hlt : bt < w5.heap.size) (hw6 : (w5.alloc (.cells #[.int .i64 0, .int .u32 0, .int .u32 0, .int .i64 0] 32)).setCells bt 0 Z.cells.toList = w6) :
    w6.heap[w5.heap.size]? = some (.cells #[.int .i64 0, .int .u32 0, .int .u32 0, .int .i64 0] 32 (0, 0)) := by
  rw [← hw6, heap_setCells_other (by omega)]
  exact heap_alloc_new _ _

theorem t_put {w5 w6 : World} {bt : Nat} {Z : St} {c : Array Value} (hw6 : w5.setCells bt 0 Z.cells.toList = w6) (hb : w5.heap[bt]? = some (.cells c 65 (0, 0))) (hc : c.size = 17) :
    w6.heap[bt]? = some (.cells Z.cells 65 (0, 0)) ∧ Upd [bt] w5 w6 := by
  subst hw6
  exact ⟨heap_store_state Z hb hc, (Upd.refl [bt] w5).setCells (.inl (by simp)) _ _⟩

set_option maxRecDepth 100000 in
set_option maxHeartbeats 8000000 in
theorem OperandBytes_walk (s : St) (hs : s.Ok) (a1 a2 a3 a4 : Int) (h1 : 0 ≤ a1) (h2 : 0 ≤ a2 ∧ a2 < 256) (h3 : 0 ≤ a3 ∧ a3 < 4294967296) (h4 : 0 ≤ a4 ∧ a4 < 4294967296) (w : World) :
    Calls Try.prog 7 #[.agg s.cells, .int .u8 a1, .int .u8 a2, .int .u32 a3, .int .u32 a4] w fun e w' => e = .returned (.bool true) ∧ Upd [] w w' := by
  have hmo : Try.prog.follows .mixedOrders = true := by kernel_rfl
  obtain ⟨r, hr, hr1⟩ : ∃ r : Nat, a1.tmod 8 = r ∧ r < 8 := ⟨(a1.tmod 8).toNat, by rw [Int.tmod_eq_emod_of_nonneg h1]; omega, by rw [Int.tmod_eq_emod_of_nonneg h1]; omega⟩
  obtain ⟨x, rfl⟩ := Int.eq_ofNat_of_zero_le h2.1
  have hx : x < 256 := by omega
  have q1 : (x : Int) % 4294967296 = x := by omega
  obtain ⟨vl, hvl⟩ : ∃ z : Int, a3 % 256 = z := ⟨_, rfl⟩
  obtain ⟨wl, hwl⟩ : ∃ z : Int, a4 / 256 * 256 = z := ⟨_, rfl⟩
  obtain ⟨xv, hxv⟩ : ∃ z : Int, wl + vl = z := ⟨_, rfl⟩
  have b1 : bits .and .u32 a3 255 = vl := by rw [and_255 a3 h3.1 h3.2, hvl]
  have b2 : bits .andNot .u32 a4 255 = wl := by rw [andNot_low a4 h4.1 h4.2, hwl]
  have b3 : bits .or .u32 wl vl = xv := by rw [← hwl, ← hvl, or_low a4 a3 h4.1 h4.2 h3.1 h3.2, hwl, hvl, hxv]
  have E1 := Lib.hid (ob_w1 s x a4 hx)
  have E2 := Lib.hid (ob_w2 s x a4 a3 hx)
  have E3 := Lib.hid (show opV (obB x a4 a3) s (obO x) 4 = xv ∧ opF (obB x a4 a3) s (obO x) 4 = Flt.zero ∧ opK (obB x a4 a3) s (obO x) 4 = true by
    rw [← hxv, ← hwl, ← hvl]; exact ob_r s x a4 a3 hx h4.1 h4.2)
  have E4 := Lib.hid (ob_wr (obB x a4 a3) s r a3)
  have E5 := Lib.hid (show opV (obB x a4 a3) (s.setReg8 r a3) ⟨1, r, 0, 0, 0, 0⟩ 1 = vl ∧ opF (obB x a4 a3) (s.setReg8 r a3) ⟨1, r, 0, 0, 0, 0⟩ 1 = Flt.zero ∧ opK (obB x a4 a3) (s.setReg8 r a3) ⟨1, r, 0, 0, 0, 0⟩ 1 = true by
    rw [← hvl]; exact ob_rr (obB x a4 a3) s r a3 hr1 hs)
  have E6 := Lib.hid (show opV (obB x a4 a3) (s.setReg8 r a3) ⟨2, 0, a3, 0, 0, 0⟩ 1 = vl ∧ opF (obB x a4 a3) (s.setReg8 r a3) ⟨2, 0, a3, 0, 0, 0⟩ 1 = Flt.zero ∧ opK (obB x a4 a3) (s.setReg8 r a3) ⟨2, 0, a3, 0, 0, 0⟩ 1 = true by
    rw [← hvl]; exact ob_ri (obB x a4 a3) (s.setReg8 r a3) a3)
  have E7 := Lib.hid (ob_rn (obB x a4 a3) (s.setReg8 r a3))
  have HS := Lib.hid hs
  have HT := Lib.hid (St.setReg8_ok hs r a3)
  have HO := Lib.hid (obO_ok x hx)
  have HR := Lib.hid (show (⟨1, r, 0, 0, 0, 0⟩ : Opd).Ok from ⟨by simp, by simp⟩)
  have HI := Lib.hid (show (⟨2, 0, a3, 0, 0, 0⟩ : Opd).Ok from ⟨h3, by simp⟩)
  have HN := Lib.hid (show (⟨0, 0, 0, 0, 0, 0⟩ : Opd).Ok from ⟨by simp, by simp⟩)
  have H3 := Lib.hid h3
  have H4 := Lib.hid h4
  have HX := Lib.hid hx
  clear hs h1 h2 h3 h4 hvl hwl hxv hx
  go_enter Try.func7, Try.ntmps7
  go_upto_region 7 with (first | (go_at_call 29; refine (known12_any _).mono ?_; rintro e w1 ⟨rfl, hu⟩; have K1 := Lib.hid (And.intro (hu.get (heap_alloc_new w (.cells s.cells 65)) (by simp)) (((Upd.refl [] w).alloc (.cells s.cells 65)).also hu (by simp))); clear hu) | (go_at_call 15; refine (New_any _).mono ?_; rintro e w2 ⟨a, pb, rfl, ha, hp, hM, hu⟩; have K2 := Lib.hid (PlB.mk (w := w) (hu.get K1.out.1 (by simp)) hM (K1.out.2.also hu (by simp)) (by have h0 := lt_of_heap K1.out.1; omega)); clear hu hM ha hp K1) | (go_at_call 16; refine (Map_yes Mem.zero a pb 0 2 3 _ K2.out.m (by decide) ob_map).mono ?_; rintro e w3 ⟨rfl, hM, hu⟩; have K3 := Lib.hid (K2.out.mem hu hM); clear hM hu K2))
  have K4 := Lib.hid (K3.out.step ((Upd.refl [] w3).alloc (.cells (obC x) 68)))
  have KO := Lib.hid (heap_alloc_new w3 (.cells (obC x) 68))
  have KL := Lib.hid K3.out.lt
  clear K3
  have co := cells_of KO.out
  unfold obC at co
  go_upto_region 8 with (first | (refine at_load 65 rfl ?_; refine wpList_load_state s w.heap.size rfl _ rfl rfl K4.out.s ?_) | (go_at_call 30; refine (opWrite_any obM a pb s (obO x) 4 a4 _ K4.out.m HS.out HO.out H4.out.1 H4.out.2).mono ?_; rintro e w5 ⟨rfl, hM, hu⟩; rw [E1.out.1, E1.out.2.1, show opS s (obO x) 4 a4 = s from rfl, show Flt.zero.val = .agg #[.int .i64 0, .int .u32 0, .int .u32 0, .int .i64 0] from rfl]; rw [E1.out.2.2] at hM; have K5 := Lib.hid (K4.out.mem hu hM); have KO5 := Lib.hid (hu.get KO.out (by have := KL.out; simp; omega)); clear hu hM K4 KO co) | (have _t := K5; clear _t; refine at_store 65 rfl ?_; refine wpList_store_state' s w5.heap.size rfl _ _ rfl rfl rfl (z_two w5 _) rfl ?_; intro w6 hw6; have h6 := st2_new hw6; clear hw6; have cf := cells_of h6.2.1; have ff := free_of h6.2.1; have K6 := Lib.hid (ObB.start K5.out KO5.out (by have := KL.out; omega) h6 (.int .i64 0) (.int .u32 0) (.int .u32 0) (.int .i64 0)); clear K5 KO5 h6))
  clear cf ff
  have co := cells_of K6.out.o
  unfold obC at co
  go_upto_region 9 with (first | (have _t := K6; clear _t; refine at_load 65 rfl ?_; refine wpList_load_state s w5.heap.size rfl _ rfl rfl K6.out.ht ?_) | (go_at_call 30; refine (opWrite_any (obA x a4) a pb s (obO x) 1 a3 _ K6.out.m HS.out HO.out H3.out.1 H3.out.2).mono ?_; rintro e w7 ⟨rfl, hM, hu⟩; rw [E2.out.1, E2.out.2.1, show opS s (obO x) 1 a3 = s from rfl, show Flt.zero.val = .agg #[.int .i64 0, .int .u32 0, .int .u32 0, .int .i64 0] from rfl]; rw [E2.out.2.2] at hM; have K7 := Lib.hid (K6.out.mem hu hM); clear hu hM K6 co) | (have _t := K7; clear _t; refine at_store 65 rfl ?_; refine wpList_store_state' s w5.heap.size rfl _ _ rfl rfl rfl (K7.out.step ((Upd.refl [] w7).alloc (.cells #[.int .i64 0, .int .u32 0, .int .u32 0, .int .i64 0] 32))).ht rfl ?_; intro w8 hw8; have h8 := t_put hw8 (K7.out.step ((Upd.refl [] w7).alloc (.cells #[.int .i64 0, .int .u32 0, .int .u32 0, .int .i64 0] 32))).ht rfl; have hf8 := f_new K7.out.lt hw8; clear hw8; have cf := cells_of hf8; have ff := free_of hf8; have K8 := Lib.hid (((K7.out.step ((Upd.refl [] w7).alloc (.cells #[.int .i64 0, .int .u32 0, .int .u32 0, .int .i64 0] 32))).sett h8.2 h8.1).far (k12_f (g := w7.heap.size) (.int .i64 0) (.int .u32 0) (.int .u32 0) (.int .i64 0)) K7.out.lt); clear K7 h8 hf8))
  clear cf ff
  have co := cells_of K8.out.o
  unfold obC at co
  go_upto_region 10 with (first | (have _t := K8; clear _t; refine at_load 65 rfl ?_; refine wpList_load_state s w5.heap.size rfl _ rfl rfl K8.out.ht ?_) | (go_at_call 31; refine (opRead_any (obB x a4 a3) a pb s (obO x) 4 _ K8.out.m HS.out HO.out).mono ?_; rintro e w9 ⟨rfl, hu⟩; rw [E3.out.1, E3.out.2.1, E3.out.2.2, show Flt.zero.val = .agg #[.int .i64 0, .int .u32 0, .int .u32 0, .int .i64 0] from rfl]; have K9 := Lib.hid ((K8.out.step hu).step ((Upd.refl [] w9).alloc (.cells #[.int .i64 0, .int .u32 0, .int .u32 0, .int .i64 0] 32))); clear hu K8 co))
  refine wp_drawE 16 (Ob10 w s s w.heap.size w3.heap.size w5.heap.size a pb (obC x) (obB x a4 a3) (s.setReg8 r a3) 12 13 14) (fun _ _ => False) (by kernel_rfl) (by kernel_rfl) (fun r0 => Ob10.start (K9.out.step (Upd.refl [] _).drew) (by decide) r0) (fun _ _ _ h => h.elim) ?_
  simp only [List.take_succ_cons, List.take_zero, List.drop_succ_cons, List.drop_zero]
  iterate 1
    apply headE_val0 rfl rfl
    · intro d r0 K hd hdep hK w10 hB1
      have HB := Lib.hid hB1
      clear hB1 hdep
      go_wp2_with fail
      first
      | exact hK _ (HB.out.same _ (by decide) (by decide) (by decide))
      | exact HB.out.same _ (by decide) (by decide) (by decide)
    · exact ⟨_, rfl⟩
  apply headE_val0 rfl rfl
  · intro d r0 K hd hdep hK w10 hB1
    refine wp_load_state s w5.heap.size _ rfl rfl hB1.b.ht ?_
    go_simp
    exact hK _ (hB1.same _ (by decide) (by decide) (by decide))
  · exact ⟨_, rfl⟩
  iterate 3
    apply headE_val0 rfl rfl
    · intro d r0 K hd hdep hK w10 hB1
      have HB := Lib.hid hB1
      clear hB1 hdep
      go_wp2_with fail
      first
      | exact hK _ (HB.out.same _ (by decide) (by decide) (by decide))
      | exact HB.out.same _ (by decide) (by decide) (by decide)
    · exact ⟨_, rfl⟩
  apply headE_val0 rfl rfl
  · intro d r0 K hd hdep hK w10 hB1
    have HB := Lib.hid hB1
    clear hB1 hdep
    go_wp2_with (go_at_call 33; refine (reg12_any r _).mono ?_; rintro e w11 ⟨rfl, hu⟩)
    first
    | exact hK _ (HB.out.quiet hu _ (by decide) (by decide) (by decide))
    | exact HB.out.quiet hu _ (by decide) (by decide) (by decide)
  · exact ⟨_, rfl⟩
  iterate 1
    apply headE_val0 rfl rfl
    · intro d r0 K hd hdep hK w10 hB1
      have HB := Lib.hid hB1
      clear hB1 hdep
      go_wp2_with fail
      first
      | exact hK _ (HB.out.same _ (by decide) (by decide) (by decide))
      | exact HB.out.same _ (by decide) (by decide) (by decide)
    · exact ⟨_, rfl⟩
  apply headE_val0 rfl rfl
  · intro d r0 K hd hdep hK w10 hB1
    have HB := Lib.hid hB1
    clear hB1 hdep
    go_wp2_with (go_at_call 30; refine (opWrite_any (obB x a4 a3) a pb s ⟨1, r, 0, 0, 0, 0⟩ 1 a3 _ HB.out.b.m HS.out HR.out H3.out.1 H3.out.2).mono ?_; rintro e w11 ⟨rfl, hM, hu⟩; rw [E4.out.1, E4.out.2.1, E4.out.2.2.1, show Flt.zero.val = .agg #[.int .i64 0, .int .u32 0, .int .u32 0, .int .i64 0] from rfl]; rw [E4.out.2.2.2] at hM)
    first
    | exact hK _ (HB.out.over hu (by have := HB.out.b.n; simp; omega) (HB.out.b.mem hu hM) _ (by decide) (by decide) (by decide))
    | exact HB.out.over hu (by have := HB.out.b.n; simp; omega) (HB.out.b.mem hu hM) _ (by decide) (by decide) (by decide)
  · exact ⟨_, rfl⟩
  iterate 4
    apply headE_val0 rfl rfl
    · intro d r0 K hd hdep hK w10 hB1
      have HB := Lib.hid hB1
      clear hB1 hdep
      go_wp2_with fail
      first
      | exact hK _ (HB.out.same _ (by decide) (by decide) (by decide))
      | exact HB.out.same _ (by decide) (by decide) (by decide)
    · exact ⟨_, rfl⟩
  refine headE_free rfl (fun _ => rfl) 21 rfl (by simp [Act.put]) ?_ ?_
  · intro d r0 K hd w10 hB1 hK
    have HB := Lib.hid hB1
    clear hB1
    simp only [fillE]
    go_wp2_with fail
    first
    | exact hK (.pointer (some ⟨w10.heap.size, 0, none⟩)) _ (HB.out.allocS hd _ rfl)
    | exact HB.out.allocS hd _ rfl
  refine headE_free rfl (fun _ => rfl) 22 rfl (by simp [Act.put]) ?_ ?_
  · intro d r0 K hd w10 hB1 hK
    have HB := Lib.hid hB1
    clear hB1
    simp only [fillE]
    go_wp2_with fail
    first
    | exact hK (.pointer (some ⟨w10.heap.size, 0, none⟩)) _ (HB.out.allocF)
    | exact HB.out.allocF
  apply headE_val rfl (fun _ => rfl)
  · intro d r0 K hd hdep hK w10 hB1
    have h12 : d 12 = true := hdep ⟨12, .data⟩ (by simp) rfl
    obtain ⟨g, Z, e1, e2, e3, e4, e5⟩ := hB1.x h12
    refine wp_store_state' (s.setReg8 r a3) g _ _ rfl (by show r0 12 = _; exact e1) rfl e3 e4 ?_
    intro w11 hw11
    rw [← hw11]
    exact hK _ (hB1.storeS e1 e2 e3 e4 h12)
  · exact ⟨_, fun _ => rfl, rfl⟩
  apply headE_val rfl (fun _ => rfl)
  · intro d r0 K hd hdep hK w10 hB1
    have h13 : d 13 = true := hdep ⟨13, .data⟩ (by simp) rfl
    obtain ⟨g, e1, e2, e3⟩ := hB1.f h13
    refine wp_store_flt0 g _ _ rfl (by show r0 13 = _; exact e1) rfl e3 ?_
    exact hK _ (hB1.storeF e1 e2 e3 _ (by decide) (by decide) (by decide))
  · exact ⟨_, fun _ => rfl, rfl⟩
  refine headE_nil (fun _ r0 w10 d hall hB1 => ?_)
  obtain ⟨g, Z, e1, e2, e3, e4, e5⟩ := hB1.x (hall 12 (by decide))
  obtain ⟨f, f1, f2, f3⟩ := hB1.f (hall 13 (by decide))
  rw [e5 (hall 14 (by decide))] at e3
  have K10 := Lib.hid (And.intro hB1.b e3)
  show wpList _ _ _ _ (Act.put (Act.put (fillE _ _ [] _) (some 21) (r0 12)) (some 22) (r0 13)) _
  rw [e1, f1]
  simp only [fillE]
  clear e1 e3 e4 e5 f1 f2 f3 hall K9 Z
  have hn := hB1.b.n
  have K10 := Lib.hid (show ObB w s (s.setReg8 r a3) w.heap.size w3.heap.size g a pb (obC x) (obB x a4 a3) w10 from ⟨hB1.b.s, hB1.b.o, K10.out.2, hB1.b.m, hB1.b.u, by omega⟩)
  clear hB1 hn
  go_upto_region 11 with fail
  refine wp_drawE 14 (Ob10 w s (s.setReg8 r a3) w.heap.size w3.heap.size g a pb (obC x) (obB x a4 a3) (s.setReg8 r a3) 100 11 101) (fun _ _ => False) (by kernel_rfl) (by kernel_rfl) (fun r0 => Ob10.start (K10.out.step (Upd.refl [] _).drew) (by decide) r0) (fun _ _ _ h => h.elim) ?_
  simp only [List.take_succ_cons, List.take_zero, List.drop_succ_cons, List.drop_zero]
  iterate 1
    apply headE_val0 rfl rfl
    · intro d r0 K hd hdep hK w11 hB1
      have HB := Lib.hid hB1
      clear hB1 hdep
      go_wp2_with fail
      first
      | exact hK _ (HB.out.same _ (by decide) (by decide) (by decide))
      | exact HB.out.same _ (by decide) (by decide) (by decide)
    · exact ⟨_, rfl⟩
  apply headE_val0 rfl rfl
  · intro d r0 K hd hdep hK w11 hB1
    refine wp_load_state (s.setReg8 r a3) g _ rfl rfl hB1.b.ht ?_
    go_simp
    exact hK _ (hB1.same _ (by decide) (by decide) (by decide))
  · exact ⟨_, rfl⟩
  iterate 3
    apply headE_val0 rfl rfl
    · intro d r0 K hd hdep hK w11 hB1
      have HB := Lib.hid hB1
      clear hB1 hdep
      go_wp2_with fail
      first
      | exact hK _ (HB.out.same _ (by decide) (by decide) (by decide))
      | exact HB.out.same _ (by decide) (by decide) (by decide)
    · exact ⟨_, rfl⟩
  apply headE_val0 rfl rfl
  · intro d r0 K hd hdep hK w11 hB1
    have HB := Lib.hid hB1
    clear hB1 hdep
    go_wp2_with (go_at_call 33; refine (reg12_any r _).mono ?_; rintro e w12 ⟨rfl, hu⟩)
    first
    | exact hK _ (HB.out.quiet hu _ (by decide) (by decide) (by decide))
    | exact HB.out.quiet hu _ (by decide) (by decide) (by decide)
  · exact ⟨_, rfl⟩
  apply headE_val0 rfl rfl
  · intro d r0 K hd hdep hK w11 hB1
    have HB := Lib.hid hB1
    clear hB1 hdep
    go_wp2_with (go_at_call 31; refine (opRead_any (obB x a4 a3) a pb (s.setReg8 r a3) ⟨1, r, 0, 0, 0, 0⟩ 1 _ HB.out.b.m HT.out HR.out).mono ?_; rintro e w12 ⟨rfl, hu⟩; rw [E5.out.1, E5.out.2.1, E5.out.2.2, show Flt.zero.val = .agg #[.int .i64 0, .int .u32 0, .int .u32 0, .int .i64 0] from rfl])
    first
    | exact hK _ (HB.out.quiet hu _ (by decide) (by decide) (by decide))
    | exact HB.out.quiet hu _ (by decide) (by decide) (by decide)
  · exact ⟨_, rfl⟩
  iterate 4
    apply headE_val0 rfl rfl
    · intro d r0 K hd hdep hK w11 hB1
      have HB := Lib.hid hB1
      clear hB1 hdep
      go_wp2_with fail
      first
      | exact hK _ (HB.out.same _ (by decide) (by decide) (by decide))
      | exact HB.out.same _ (by decide) (by decide) (by decide)
    · exact ⟨_, rfl⟩
  refine headE_free rfl (fun _ => rfl) 25 rfl (by simp [Act.put]) ?_ ?_
  · intro d r0 K hd w11 hB1 hK
    have HB := Lib.hid hB1
    clear hB1
    simp only [fillE]
    go_wp2_with fail
    first
    | exact hK (.pointer (some ⟨w11.heap.size, 0, none⟩)) _ (HB.out.allocF)
    | exact HB.out.allocF
  apply headE_val rfl (fun _ => rfl)
  · intro d r0 K hd hdep hK w11 hB1
    have HB := Lib.hid hB1
    clear hB1 hdep
    show Oper.wp _ _ (Act.put (fillE _ _ [] _) (some 25) (r0 11)) _ _ _
    simp only [fillE]
    go_wp2_with fail
    first
    | exact hK _ (HB.out.same _ (by decide) (by decide) (by decide))
    | exact HB.out.same _ (by decide) (by decide) (by decide)
  · exact ⟨_, fun _ => rfl, rfl⟩
  apply headE_val rfl (fun _ => rfl)
  · intro d r0 K hd hdep hK w11 hB1
    have h13 : d 11 = true := hdep ⟨11, .data⟩ (by simp) rfl
    obtain ⟨g1, e1, e2, e3⟩ := hB1.f h13
    refine wp_store_flt0 g1 _ _ rfl (by show r0 11 = _; exact e1) rfl e3 ?_
    exact hK _ (hB1.storeF e1 e2 e3 _ (by decide) (by decide) (by decide))
  · exact ⟨_, fun _ => rfl, rfl⟩
  refine headE_nil (fun _ r0 w11 d hall hB1 => ?_)
  obtain ⟨f', f1, f2, f3⟩ := hB1.f (hall 11 (by decide))
  show wpList _ _ _ _ (Act.put (fillE _ _ [] _) (some 25) (r0 11)) _
  rw [f1]
  simp only [fillE]
  have K11 := Lib.hid hB1.b
  clear hB1 f1 f2 f3 hall K10
  go_upto_region 13 with (first | (have _t := K11; clear _t; refine at_load 65 rfl ?_; refine wpList_load_state (s.setReg8 r a3) g rfl _ rfl rfl K11.out.ht ?_) | (go_at_call 31; refine (opRead_any (obB x a4 a3) a pb (s.setReg8 r a3) ⟨2, 0, a3, 0, 0, 0⟩ 1 _ K11.out.m HT.out HI.out).mono ?_; rintro e w12 ⟨rfl, hu⟩; rw [E6.out.1, E6.out.2.1, E6.out.2.2, show Flt.zero.val = .agg #[.int .i64 0, .int .u32 0, .int .u32 0, .int .i64 0] from rfl]; have K12 := Lib.hid ((K11.out.step hu).step ((Upd.refl [] w12).alloc (.cells #[.int .i64 0, .int .u32 0, .int .u32 0, .int .i64 0] 32))); clear hu K11))
  go_upto_region 14 with (first | (have _t := K12; clear _t; refine at_load 65 rfl ?_; refine wpList_load_state (s.setReg8 r a3) g rfl _ rfl rfl K12.out.ht ?_) | (go_at_call 31; refine (opRead_any (obB x a4 a3) a pb (s.setReg8 r a3) ⟨0, 0, 0, 0, 0, 0⟩ 4 _ K12.out.m HT.out HN.out).mono ?_; rintro e w13 ⟨rfl, hu⟩; rw [E7.out.1, E7.out.2.1, E7.out.2.2, show Flt.zero.val = .agg #[.int .i64 0, .int .u32 0, .int .u32 0, .int .i64 0] from rfl]; have K13 := Lib.hid ((K12.out.step hu).step ((Upd.refl [] w13).alloc (.cells #[.int .i64 0, .int .u32 0, .int .u32 0, .int .i64 0] 32))); clear hu K12))
  have cs : (w13.alloc (.cells #[.int .i64 0, .int .u32 0, .int .u32 0, .int .i64 0] 32)).cell? ⟨w.heap.size, 8, none⟩ = some (.int .u32 s.pc) := by rw [cells_of K13.out.s]; rfl
  have cu : (w13.alloc (.cells #[.int .i64 0, .int .u32 0, .int .u32 0, .int .i64 0] 32)).cell? ⟨g, 8, none⟩ = some (.int .u32 s.pc) := by rw [cells_of K13.out.ht, ← setReg8_pc s r a3]; rfl
  go_wp2_with fail
  go_ret
  exact ⟨rfl, K13.out.u⟩

end Go.Proofs.Ytncafchgdgmeaaa
