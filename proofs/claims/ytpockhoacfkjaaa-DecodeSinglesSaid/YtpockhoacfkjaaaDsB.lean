/-
  The law DecodeSingles: the walk.
-/
import Derived.Test.YtpockhoacfkjaaaDsA
import Derived.Test.YtpockhoacfkjaaaDraw
namespace Go.Proofs.Ytpockhoacfkjaaa
open Go Go.RowKit
set_option linter.unusedVariables false
set_option linter.unusedSimpArgs false

set_option maxRecDepth 100000 in
set_option maxHeartbeats 4000000 in
theorem DecodeSingles_any (k c v a b : Int) (ha : a.tmod 8 = k) (hb : b.tmod 16 = c) (hk : 0 ≤ k ∧ k < 8) (hc : 0 ≤ c ∧ c < 16) (hv : 0 ≤ v ∧ v < 4294967296) (w : World) :
    Calls Try.prog 7 #[.int .u8 a, .int .u8 b, .int .u32 v] w fun e w' => e = .returned (.bool true) ∧ Upd [] w w' := by
  have hmo : Try.prog.follows .mixedOrders = true := by kernel_rfl
  have qk : wrap64 k = k := by unfold wrap64; omega
  have qc : wrap64 c = c := by unfold wrap64; omega
  have q8 := imm8_v v
  have e0 : v % 256 = by0 v := rfl
  have e1 : v / 256 % 256 = by1 v := rfl
  have e2 : v / 65536 % 256 = by2 v := rfl
  have e3 : v / 16777216 % 256 = by3 v := rfl
  have HK := Lib.hid (show 0 ≤ k ∧ k ≤ 255 by omega)
  have DA := Lib.hid (dec_of (sgA c v hc hv))
  have DB := Lib.hid (dec_of (sgB c v hc))
  have DC := Lib.hid (dec_of (sgD v hv))
  have DD := Lib.hid (dec_of (sgH k v hk hv))
  have RA := Lib.hid (show BOk ([15, 128 + c] ++ wdL v) from BOk.cons (by decide) (BOk.cons (by omega) (wdL_ok v)))
  have RC := Lib.hid (show BOk ([232] ++ wdL v) from BOk.cons (by decide) (wdL_ok v))
  have RE := Lib.hid (show BOk ([184 + k] ++ wdL v) from BOk.cons (by omega) (wdL_ok v))
  have hq2 := fun w : World => show (binOp .eql 26 (.agg (regO k).cells) (.agg #[.int .i64 1, .int .i64 k, .int .u32 0, .int .i64 0, .int .i64 0, .int .u32 0])).run Try.prog w = .ok (.bool true) w from by have := run_eql_opd (regO k) (regO k) w; rw [Opd.eqB_self] at this; exact this
  have U0 := Lib.hid (Upd.refl [] w)
  clear hv
  go_enter Try.func7, Try.ntmps7
  go_upto_region 6 with (go_at_call 11; refine (known10_any _).mono ?_; rintro e w0 ⟨rfl, hu⟩; have U1 := Lib.hid hu; clear hu U0)
  generalize hx0 : (w0.alloc (Obj.cells #[.int .u8 (by0 v), .int .u8 (by1 v), .int .u8 (by2 v), .int .u8 (by3 v)] 5)).alloc (Obj.cells #[.int .i64 12, .int .i64 13, .int .i64 28, .int .i64 29] 42) = x0
  have S0 := Lib.hid (show Si w (w0.heap.size + 1) sgTbl 42 [] (.slice (some ⟨w0.heap.size, 0, none⟩) 4 4) (wdL v) x0 by
    rw [← hx0]
    have h1 := heap_alloc_new (w0.alloc (Obj.cells #[.int .u8 (by0 v), .int .u8 (by1 v), .int .u8 (by2 v), .int .u8 (by3 v)] 5)) (Obj.cells sgTbl 42)
    rw [show (w0.alloc (Obj.cells #[.int .u8 (by0 v), .int .u8 (by1 v), .int .u8 (by2 v), .int .u8 (by3 v)] 5)).heap.size = w0.heap.size + 1 by simp] at h1
    exact ⟨⟨⟨(U1.out.alloc _).alloc _, ((Dn.start U1.out).lit #[.int .u8 (by0 v), .int .u8 (by1 v), .int .u8 (by2 v), .int .u8 (by3 v)] (wdL v) rfl (by simp [maxLen, wdL])).keep ((Upd.refl [] _).alloc _) (by simp)⟩, fun _ h => by cases h⟩, h1⟩)
  clear hx0 U1
  go_wp2_with fail
  go_loopw [11] (fun t wl => ∃ j : Nat, j ≤ 4 ∧ t = .int .u8 j ∧ Si w (w0.heap.size + 1) sgTbl 42 [] (.slice (some ⟨w0.heap.size, 0, none⟩) 4 4) (wdL v) wl) (fun t wl => 4 - (intOf t).toNat)
  case atStart => exact ⟨0, Nat.zero_le _, rfl, S0.out⟩
  case round =>
    obtain ⟨j, hj, rfl, hF⟩ := hrel
    have HF := Lib.hid hF
    clear hF S0
    by_cases hlt : j < 4
    · have D1 := Lib.hid (dec_of (sg1 j k hlt hk))
      have hj4 : (j : Int) < 4 := by omega
      have hjd : decide ((j : Int) < 4) = true := by simp; omega
      have hT := sgTbl_at j hlt
      have HT := Lib.hid hT
      have hq := fun w : World => show (binOp .neq 28 (.agg (Ins.cells ⟨opsI j, 0, regO k, Opd.none, false, 1⟩)) (.agg #[.int .i64 (opsI j), .int .i64 0, .int .i64 1, .int .i64 k, .int .u32 0, .int .i64 0, .int .i64 0, .int .u32 0, .int .i64 0, .int .i64 0, .int .u32 0, .int .i64 0, .int .i64 0, .int .u32 0, .bool false, .int .i64 1])).run Try.prog w = .ok (.bool false) w from by have := run_neq_ins ⟨opsI j, 0, regO k, Opd.none, false, 1⟩ ⟨opsI j, 0, regO k, Opd.none, false, 1⟩ w; rw [Ins.eqB_self] at this; exact this
      clear hT hj
      go_wp2_with (first | (have _t := HF; clear _t; go_at_call 12; have HB5 := Lib.hid (barg1 wr 5 (64 + 8 * (j : Int) + k) (by omega)); refine (Decode_any _ ([64 + 8 * j + k]) _ _ HB5.out).mono ?_; rintro e w5 ⟨rfl, hu⟩; rw [D1.out.1, D1.out.2.1, D1.out.2.2]; have V5 := Lib.hid ((HF.out.step ((Upd.refl [] wr).alloc _)).step hu); clear hu HF) | (have _t := V5; clear _t; refine at_store 28 rfl ?_; refine wpList_store_ins ⟨opsI j, 0, regO k, Opd.none, false, 1⟩ w5.heap.size rfl _ _ rfl rfl rfl (heap_alloc_new w5 (.cells Ins.zero.cells 28)) rfl ?_; intro x5 hw; have G5 := Lib.hid (V5.out.ins (j := ⟨opsI j, 0, regO k, Opd.none, false, 1⟩) hw); clear hw V5))
      refine wp_draw 12 (fun w6 => Si w (w0.heap.size + 1) sgTbl 42 [(w5.heap.size, ⟨opsI j, 0, regO k, Opd.none, false, 1⟩)] (.slice (some ⟨w0.heap.size, 0, none⟩) 4 4) (wdL v) w6) (fun _ _ => False) (by kernel_rfl) (by decide +kernel) (G5.out.step (Upd.refl [] _).drew) (fun _ _ _ h => h.elim) ?_
      simp only [List.take_succ_cons, List.take_zero, List.drop_succ_cons, List.drop_zero]
      iterate 3
        apply headW_val rfl rfl
        · intro K hK w6 hB1
          have HB := Lib.hid hB1
          clear hB1
          go_wp2_with fail
          first
          | exact hK _ HB.out
          | exact HB.out
        · exact ⟨_, rfl⟩
      iterate 1
        apply headW_val rfl rfl
        · intro K hK w6 hB1
          have HB := Lib.hid hB1
          clear hB1
          refine wp_load_ins ⟨opsI j, 0, regO k, Opd.none, false, 1⟩ w5.heap.size _ rfl rfl (HB.out.f.i (w5.heap.size, ⟨opsI j, 0, regO k, Opd.none, false, 1⟩) (by simp)) ?_
          first
          | exact hK _ HB.out
          | exact HB.out
        · exact ⟨_, rfl⟩
      iterate 2
        apply headW_val rfl rfl
        · intro K hK w6 hB1
          have HB := Lib.hid hB1
          clear hB1
          go_wp2_with fail
          first
          | exact hK _ HB.out
          | exact HB.out
        · exact ⟨_, rfl⟩
      iterate 1
        apply headW_val rfl rfl
        · intro K hK w6 hB1
          have HB := Lib.hid hB1
          clear hB1
          have ct := cells_of HB.out.t j
          rw [HT.out] at ct
          go_wp2_with fail
          first
          | exact hK _ HB.out
          | exact HB.out
        · exact ⟨_, rfl⟩
      iterate 1
        apply headW_val rfl rfl
        · intro K hK w6 hB1
          have HB := Lib.hid hB1
          clear hB1
          go_wp2_with fail
          first
          | exact hK _ HB.out
          | exact HB.out
        · exact ⟨_, rfl⟩
      iterate 1
        apply headW_val rfl rfl
        · intro K hK w6 hB1
          have HB := Lib.hid hB1
          clear hB1
          go_wp2_with (go_at_call 15; refine (lreg_any k HK.out _).mono ?_; rintro e w7 ⟨rfl, hu⟩)
          first
          | exact hK _ (HB.out.step hu)
          | exact HB.out.step hu
        · exact ⟨_, rfl⟩
      iterate 3
        apply headW_val rfl rfl
        · intro K hK w6 hB1
          have HB := Lib.hid hB1
          clear hB1
          go_wp2_with fail
          first
          | exact hK _ HB.out
          | exact HB.out
        · exact ⟨_, rfl⟩
      refine headW_nil (fun _ w7 hB1 => ?_)
      have HB := Lib.hid hB1
      clear hB1 hq
      go_wp2_with fail
      go_roundw
      case rel => exact ⟨j + 1, by omega, by go_num, HB.out.less [] (fun _ h => by cases h)⟩
      case measure => simp [intOf]; omega
    · obtain rfl : j = 4 := by omega
      have E0 := Lib.hid (HF.out.less [] (fun _ h => h))
      clear HF
      go_wp2_with (first | (have _t := E0; clear _t; at_builtin; obtain ⟨g0, hb0, _⟩ := E0.out.f.d.o.barg (wdL_ok v) (by simp [maxLen, wdL]); have HB0 := Lib.hid hb0; clear hb0; refine wpList_append_by rfl _ _ rfl w.heap.size _ [15, 128 + c] rfl (E0.out.f.d.lit #[.int .u8 15, .int .u8 (128 + c)] [15, 128 + c] rfl (by simp [maxLen])) (.slice (some ⟨w0.heap.size, 0, none⟩) 4 4) (wdL v) g0 rfl (HB0.out.b.keep ((Upd.refl [] wr).alloc _) (by simp)) (by simp [wdL]) (by have := E0.out.f.d.u.size; simp; omega) ?_; intro v1 y1 hg; have A1 := Lib.hid (E0.out.app hg); have O1 := Lib.hid hg.o; clear hg E0 HB0) | (have _t := A1; clear _t; go_at_call 12; obtain ⟨g1, hb1, _⟩ := O1.out.barg RA.out (by simp [maxLen, wdL]); have HB1 := Lib.hid hb1; clear hb1; refine (Decode_any v1 ([15, 128 + c] ++ wdL v) _ _ HB1.out).mono ?_; rintro e w1 ⟨rfl, hu⟩; rw [DA.out.1, DA.out.2.1, DA.out.2.2]; have V1 := Lib.hid (A1.out.step hu); clear hu A1) | (have _t := V1; clear _t; refine at_store 28 rfl ?_; refine wpList_store_ins ⟨33, c, immO v, Opd.none, false, 6⟩ w1.heap.size rfl _ _ rfl rfl rfl (heap_alloc_new w1 (.cells Ins.zero.cells 28)) rfl ?_; intro x1 hw; have E1 := Lib.hid (V1.out.ins (j := ⟨33, c, immO v, Opd.none, false, 6⟩) hw); clear hw V1) | (have _t := E1; clear _t; go_at_call 12; have HB2 := Lib.hid (barg2 x1 5 (112 + c) (by0 v) (by omega) (by_byte v).1); refine (Decode_any _ ([112 + c, by0 v]) _ _ HB2.out).mono ?_; rintro e w2 ⟨rfl, hu⟩; rw [DB.out.1, DB.out.2.1, DB.out.2.2]; have V2 := Lib.hid ((E1.out.step ((Upd.refl [] x1).alloc _)).step hu); clear hu E1) | (have _t := V2; clear _t; refine at_store 28 rfl ?_; refine wpList_store_ins ⟨33, c, immO (sx8 (by0 v)), Opd.none, false, 2⟩ w2.heap.size rfl _ _ rfl rfl rfl (heap_alloc_new w2 (.cells Ins.zero.cells 28)) rfl ?_; intro x2 hw; have E2 := Lib.hid (V2.out.ins (j := ⟨33, c, immO (sx8 (by0 v)), Opd.none, false, 2⟩) hw); clear hw V2) | (have _t := E2; clear _t; at_builtin; obtain ⟨g0, hb0, _⟩ := E2.out.f.d.o.barg (wdL_ok v) (by simp [maxLen, wdL]); have HB0 := Lib.hid hb0; clear hb0; refine wpList_append_by rfl _ _ rfl w.heap.size _ [232] rfl (E2.out.f.d.lit #[.int .u8 232] [232] rfl (by simp [maxLen])) (.slice (some ⟨w0.heap.size, 0, none⟩) 4 4) (wdL v) g0 rfl (HB0.out.b.keep ((Upd.refl [] x2).alloc _) (by simp)) (by simp [wdL]) (by have := E2.out.f.d.u.size; simp; omega) ?_; intro v3 y3 hg; have A3 := Lib.hid (E2.out.app hg); have O3 := Lib.hid hg.o; clear hg E2 HB0) | (have _t := A3; clear _t; go_at_call 12; obtain ⟨g3, hb3, _⟩ := O3.out.barg RC.out (by simp [maxLen, wdL]); have HB3 := Lib.hid hb3; clear hb3; refine (Decode_any v3 ([232] ++ wdL v) _ _ HB3.out).mono ?_; rintro e w3 ⟨rfl, hu⟩; rw [DC.out.1, DC.out.2.1, DC.out.2.2]; have V3 := Lib.hid (A3.out.step hu); clear hu A3) | (have _t := V3; clear _t; refine at_store 28 rfl ?_; refine wpList_store_ins ⟨30, 0, immO v, Opd.none, false, 5⟩ w3.heap.size rfl _ _ rfl rfl rfl (heap_alloc_new w3 (.cells Ins.zero.cells 28)) rfl ?_; intro x3 hw; have E3 := Lib.hid (V3.out.ins (j := ⟨30, 0, immO v, Opd.none, false, 5⟩) hw); clear hw V3) | (have _t := E3; clear _t; at_builtin; obtain ⟨g0, hb0, _⟩ := E3.out.f.d.o.barg (wdL_ok v) (by simp [maxLen, wdL]); have HB0 := Lib.hid hb0; clear hb0; refine wpList_append_by rfl _ _ rfl w.heap.size _ [184 + k] rfl (E3.out.f.d.lit #[.int .u8 (184 + k)] [184 + k] rfl (by simp [maxLen])) (.slice (some ⟨w0.heap.size, 0, none⟩) 4 4) (wdL v) g0 rfl (HB0.out.b.keep ((Upd.refl [] x3).alloc _) (by simp)) (by simp [wdL]) (by have := E3.out.f.d.u.size; simp; omega) ?_; intro v4 y4 hg; have A4 := Lib.hid (E3.out.app hg); have O4 := Lib.hid hg.o; clear hg E3 HB0) | (have _t := A4; clear _t; go_at_call 12; obtain ⟨g4, hb4, _⟩ := O4.out.barg RE.out (by simp [maxLen, wdL]); have HB4 := Lib.hid hb4; clear hb4; refine (Decode_any v4 ([184 + k] ++ wdL v) _ _ HB4.out).mono ?_; rintro e w4 ⟨rfl, hu⟩; rw [DD.out.1, DD.out.2.1, DD.out.2.2]; have V4 := Lib.hid (A4.out.step hu); clear hu A4) | (have _t := V4; clear _t; refine at_store 28 rfl ?_; refine wpList_store_ins ⟨1, 0, regO k, immO v, false, 5⟩ w4.heap.size rfl _ _ rfl rfl rfl (heap_alloc_new w4 (.cells Ins.zero.cells 28)) rfl ?_; intro x4 hw; have E4 := Lib.hid (V4.out.ins (j := ⟨1, 0, regO k, immO v, false, 5⟩) hw); clear hw V4; have c1 := cells_of (E4.out.f.i (w1.heap.size, ⟨33, c, immO v, Opd.none, false, 6⟩) (by simp)); unfold Ins.cells at c1; have c2 := cells_of (E4.out.f.i (w2.heap.size, ⟨33, c, immO (sx8 (by0 v)), Opd.none, false, 2⟩) (by simp)); unfold Ins.cells at c2; have c3 := cells_of (E4.out.f.i (w3.heap.size, ⟨30, 0, immO v, Opd.none, false, 5⟩) (by simp)); unfold Ins.cells at c3; have c4 := cells_of (E4.out.f.i (w4.heap.size, ⟨1, 0, regO k, immO v, false, 5⟩) (by simp)); unfold Ins.cells at c4) | (have _t := E4; clear _t; refine at_load 26 rfl ?_; refine wpList_load_opd_at (regO k) w4.heap.size 2 rfl _ rfl rfl (opd_range (E4.out.f.i (w4.heap.size, ⟨1, 0, regO k, immO v, false, 5⟩) (by simp))).1 ?_) | (have _t := E4; clear _t; go_at_call 15; refine (lreg_any k HK.out _).mono ?_; rintro e w7 ⟨rfl, hu⟩; have E5 := Lib.hid (E4.out.step hu); clear hu E4 c1 c2 c3 c4; have c4 := cells_of (E5.out.f.i (w4.heap.size, ⟨1, 0, regO k, immO v, false, 5⟩) (by simp)); unfold Ins.cells at c4))
      clear c1 c2 c3 c4
      refine wp_draw 87 (fun w6 => Si w (w0.heap.size + 1) sgTbl 42 [(w4.heap.size, ⟨1, 0, regO k, immO v, false, 5⟩), (w3.heap.size, ⟨30, 0, immO v, Opd.none, false, 5⟩), (w2.heap.size, ⟨33, c, immO (sx8 (by0 v)), Opd.none, false, 2⟩), (w1.heap.size, ⟨33, c, immO v, Opd.none, false, 6⟩)] (.slice (some ⟨w0.heap.size, 0, none⟩) 4 4) (wdL v) w6) (fun _ _ => False) (by kernel_rfl) (by decide +kernel) (E4.out.step (Upd.refl [] _).drew) (fun _ _ _ h => h.elim) ?_
      simp only [List.take_succ_cons, List.take_zero, List.drop_succ_cons, List.drop_zero]
      clear E4
      iterate 4
        apply headW_val rfl rfl
        · intro K hK w6 hB1
          have HB := Lib.hid hB1
          clear hB1
          go_wp2_with fail
          first
          | exact hK _ HB.out
          | exact HB.out
        · exact ⟨_, rfl⟩
      iterate 1
        apply headW_val rfl rfl
        · intro K hK w6 hB1
          have HB := Lib.hid hB1
          clear hB1
          have c1 := cells_of (HB.out.f.i (w1.heap.size, ⟨33, c, immO v, Opd.none, false, 6⟩) (by simp))
          unfold Ins.cells at c1
          dsimp only [immO, regO, Opd.none] at c1
          go_wp2_with fail
          first
          | exact hK _ HB.out
          | exact HB.out
        · exact ⟨_, rfl⟩
      iterate 4
        apply headW_val rfl rfl
        · intro K hK w6 hB1
          have HB := Lib.hid hB1
          clear hB1
          go_wp2_with fail
          first
          | exact hK _ HB.out
          | exact HB.out
        · exact ⟨_, rfl⟩
      iterate 1
        apply headW_val rfl rfl
        · intro K hK w6 hB1
          have HB := Lib.hid hB1
          clear hB1
          have c1 := cells_of (HB.out.f.i (w1.heap.size, ⟨33, c, immO v, Opd.none, false, 6⟩) (by simp))
          unfold Ins.cells at c1
          dsimp only [immO, regO, Opd.none] at c1
          go_wp2_with fail
          first
          | exact hK _ HB.out
          | exact HB.out
        · exact ⟨_, rfl⟩
      iterate 7
        apply headW_val rfl rfl
        · intro K hK w6 hB1
          have HB := Lib.hid hB1
          clear hB1
          go_wp2_with fail
          first
          | exact hK _ HB.out
          | exact HB.out
        · exact ⟨_, rfl⟩
      iterate 1
        apply headW_val rfl rfl
        · intro K hK w6 hB1
          have HB := Lib.hid hB1
          clear hB1
          have c1 := cells_of (HB.out.f.i (w1.heap.size, ⟨33, c, immO v, Opd.none, false, 6⟩) (by simp))
          unfold Ins.cells at c1
          dsimp only [immO, regO, Opd.none] at c1
          go_wp2_with fail
          first
          | exact hK _ HB.out
          | exact HB.out
        · exact ⟨_, rfl⟩
      iterate 9
        apply headW_val rfl rfl
        · intro K hK w6 hB1
          have HB := Lib.hid hB1
          clear hB1
          go_wp2_with fail
          first
          | exact hK _ HB.out
          | exact HB.out
        · exact ⟨_, rfl⟩
      iterate 1
        apply headW_val rfl rfl
        · intro K hK w6 hB1
          have HB := Lib.hid hB1
          clear hB1
          have c1 := cells_of (HB.out.f.i (w2.heap.size, ⟨33, c, immO (sx8 (by0 v)), Opd.none, false, 2⟩) (by simp))
          unfold Ins.cells at c1
          dsimp only [immO, regO, Opd.none] at c1
          go_wp2_with fail
          first
          | exact hK _ HB.out
          | exact HB.out
        · exact ⟨_, rfl⟩
      iterate 7
        apply headW_val rfl rfl
        · intro K hK w6 hB1
          have HB := Lib.hid hB1
          clear hB1
          go_wp2_with fail
          first
          | exact hK _ HB.out
          | exact HB.out
        · exact ⟨_, rfl⟩
      iterate 1
        apply headW_val rfl rfl
        · intro K hK w6 hB1
          have HB := Lib.hid hB1
          clear hB1
          have c1 := cells_of (HB.out.f.i (w2.heap.size, ⟨33, c, immO (sx8 (by0 v)), Opd.none, false, 2⟩) (by simp))
          unfold Ins.cells at c1
          dsimp only [immO, regO, Opd.none] at c1
          go_wp2_with fail
          first
          | exact hK _ HB.out
          | exact HB.out
        · exact ⟨_, rfl⟩
      iterate 3
        apply headW_val rfl rfl
        · intro K hK w6 hB1
          have HB := Lib.hid hB1
          clear hB1
          go_wp2_with fail
          first
          | exact hK _ HB.out
          | exact HB.out
        · exact ⟨_, rfl⟩
      iterate 1
        apply headW_val rfl rfl
        · intro K hK w6 hB1
          have HB := Lib.hid hB1
          clear hB1
          have HKK := Lib.hid hK
          clear hK
          go_wp2_with fail
          rw [q8]
          exact HKK.out _ HB.out
        · exact ⟨_, rfl⟩
      iterate 4
        apply headW_val rfl rfl
        · intro K hK w6 hB1
          have HB := Lib.hid hB1
          clear hB1
          go_wp2_with fail
          first
          | exact hK _ HB.out
          | exact HB.out
        · exact ⟨_, rfl⟩
      iterate 1
        apply headW_val rfl rfl
        · intro K hK w6 hB1
          have HB := Lib.hid hB1
          clear hB1
          have c1 := cells_of (HB.out.f.i (w2.heap.size, ⟨33, c, immO (sx8 (by0 v)), Opd.none, false, 2⟩) (by simp))
          unfold Ins.cells at c1
          dsimp only [immO, regO, Opd.none] at c1
          go_wp2_with fail
          first
          | exact hK _ HB.out
          | exact HB.out
        · exact ⟨_, rfl⟩
      iterate 8
        apply headW_val rfl rfl
        · intro K hK w6 hB1
          have HB := Lib.hid hB1
          clear hB1
          go_wp2_with fail
          first
          | exact hK _ HB.out
          | exact HB.out
        · exact ⟨_, rfl⟩
      iterate 1
        apply headW_val rfl rfl
        · intro K hK w6 hB1
          have HB := Lib.hid hB1
          clear hB1
          have c1 := cells_of (HB.out.f.i (w3.heap.size, ⟨30, 0, immO v, Opd.none, false, 5⟩) (by simp))
          unfold Ins.cells at c1
          dsimp only [immO, regO, Opd.none] at c1
          go_wp2_with fail
          first
          | exact hK _ HB.out
          | exact HB.out
        · exact ⟨_, rfl⟩
      iterate 5
        apply headW_val rfl rfl
        · intro K hK w6 hB1
          have HB := Lib.hid hB1
          clear hB1
          go_wp2_with fail
          first
          | exact hK _ HB.out
          | exact HB.out
        · exact ⟨_, rfl⟩
      iterate 1
        apply headW_val rfl rfl
        · intro K hK w6 hB1
          have HB := Lib.hid hB1
          clear hB1
          have c1 := cells_of (HB.out.f.i (w3.heap.size, ⟨30, 0, immO v, Opd.none, false, 5⟩) (by simp))
          unfold Ins.cells at c1
          dsimp only [immO, regO, Opd.none] at c1
          go_wp2_with fail
          first
          | exact hK _ HB.out
          | exact HB.out
        · exact ⟨_, rfl⟩
      iterate 9
        apply headW_val rfl rfl
        · intro K hK w6 hB1
          have HB := Lib.hid hB1
          clear hB1
          go_wp2_with fail
          first
          | exact hK _ HB.out
          | exact HB.out
        · exact ⟨_, rfl⟩
      iterate 1
        apply headW_val rfl rfl
        · intro K hK w6 hB1
          have HB := Lib.hid hB1
          clear hB1
          have c1 := cells_of (HB.out.f.i (w4.heap.size, ⟨1, 0, regO k, immO v, false, 5⟩) (by simp))
          unfold Ins.cells at c1
          dsimp only [immO, regO, Opd.none] at c1
          go_wp2_with fail
          first
          | exact hK _ HB.out
          | exact HB.out
        · exact ⟨_, rfl⟩
      iterate 4
        apply headW_val rfl rfl
        · intro K hK w6 hB1
          have HB := Lib.hid hB1
          clear hB1
          go_wp2_with fail
          first
          | exact hK _ HB.out
          | exact HB.out
        · exact ⟨_, rfl⟩
      iterate 1
        apply headW_val rfl rfl
        · intro K hK w6 hB1
          have HB := Lib.hid hB1
          clear hB1
          refine wp_load_opd_mid (regO k) w4.heap.size 2 _ rfl rfl (opd_range (HB.out.f.i (w4.heap.size, ⟨1, 0, regO k, immO v, false, 5⟩) (by simp))).1 ?_
          first
          | exact hK _ HB.out
          | exact HB.out
        · exact ⟨_, rfl⟩
      iterate 1
        apply headW_val rfl rfl
        · intro K hK w6 hB1
          have HB := Lib.hid hB1
          clear hB1
          go_wp2_with fail
          first
          | exact hK _ HB.out
          | exact HB.out
        · exact ⟨_, rfl⟩
      iterate 1
        apply headW_val rfl rfl
        · intro K hK w6 hB1
          have HB := Lib.hid hB1
          clear hB1
          go_wp2_with (go_at_call 15; refine (lreg_any k HK.out _).mono ?_; rintro e w7 ⟨rfl, hu⟩)
          first
          | exact hK _ (HB.out.step hu)
          | exact HB.out.step hu
        · exact ⟨_, rfl⟩
      iterate 5
        apply headW_val rfl rfl
        · intro K hK w6 hB1
          have HB := Lib.hid hB1
          clear hB1
          go_wp2_with fail
          first
          | exact hK _ HB.out
          | exact HB.out
        · exact ⟨_, rfl⟩
      iterate 1
        apply headW_val rfl rfl
        · intro K hK w6 hB1
          have HB := Lib.hid hB1
          clear hB1
          have c1 := cells_of (HB.out.f.i (w4.heap.size, ⟨1, 0, regO k, immO v, false, 5⟩) (by simp))
          unfold Ins.cells at c1
          dsimp only [immO, regO, Opd.none] at c1
          go_wp2_with fail
          first
          | exact hK _ HB.out
          | exact HB.out
        · exact ⟨_, rfl⟩
      iterate 4
        apply headW_val rfl rfl
        · intro K hK w6 hB1
          have HB := Lib.hid hB1
          clear hB1
          go_wp2_with fail
          first
          | exact hK _ HB.out
          | exact HB.out
        · exact ⟨_, rfl⟩
      refine headW_nil (fun _ w7 hB1 => ?_)
      have HB := Lib.hid hB1
      clear hB1 hq2
      go_wp2_with fail
      go_ret
      exact ⟨rfl, HB.out.f.d.u⟩
end Go.Proofs.Ytpockhoacfkjaaa
