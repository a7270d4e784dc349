/-
  The law DecodeForms: ways without a SIB byte.
-/
import Derived.Test.YtpockhoacfkjaaaDfB
namespace Go.Proofs.Ytpockhoacfkjaaa
open Go Go.RowKit
set_option linter.unusedVariables false
set_option linter.unusedSimpArgs false

set_option maxRecDepth 100000 in
set_option maxHeartbeats 2000000 in
theorem forms_reg (o r : Int) (ho : o.tmod 4 = 3) (k : Int) (hr : r.tmod 8 = k) (hk : 0 ≤ k ∧ k < 8) (sb : Int) (v : Int) (hv : 0 ≤ v ∧ v < 4294967296) (w : World) :
    Calls Try.prog 5 #[.int .u8 o, .int .u8 r, .int .u8 sb, .int .u32 v] w fun e w' => e = .returned (.bool true) ∧ Upd [] w w' := by
  have qk : wrap64 k = k := by unfold wrap64; omega
  have q1 : bits .or .u8 216 k = 216 + k := or_low 216 k (by decide) hk
  have q0 : bits .or .u8 192 24 = 216 := by decide +kernel
  have hins : dcInsn [139, 216 + k] 0 = .ok ⟨1, 0, regO 3, ⟨1, k, 0, 0, 0, 0⟩, false, 0⟩ 2 := by
    have h := fm_head (216 + k) 3 k [] (by decide) hk (by omega)
    have p : dcPlace [139, 216 + k] ⟨3, 3, k⟩ 2 = .ok ⟨1, k, 0, 0, 0, 0⟩ 2 := rfl
    rw [p] at h
    exact h
  have D := Lib.hid (dec_of hins)
  have hq1 := fun w : World => show (binOp .eql 26 (.agg (regO 3).cells) (.agg #[.int .i64 1, .int .i64 3, .int .u32 0, .int .i64 0, .int .i64 0, .int .u32 0])).run Try.prog w = .ok (.bool true) w from by have := run_eql_opd (regO 3) (regO 3) w; rw [Opd.eqB_self] at this; exact this
  have hq2 := fun w : World => show (binOp .eql 26 (.agg (Opd.cells ⟨1, k, 0, 0, 0, 0⟩)) (.agg (Opd.cells ⟨1, k, 0, 0, 0, 0⟩))).run Try.prog w = .ok (.bool true) w from by have := run_eql_opd ⟨1, k, 0, 0, 0, 0⟩ ⟨1, k, 0, 0, 0, 0⟩ w; rw [Opd.eqB_self] at this; exact this
  have R := Lib.hid (show BOk [139, 216 + k] from BOk.cons (by decide) (BOk.cons (by omega) (BOk.nil)))
  have e0 : v % 256 = by0 v := rfl
  have e1 : v / 256 % 256 = by1 v := rfl
  have e2 : v / 65536 % 256 = by2 v := rfl
  have e3 : v / 16777216 % 256 = by3 v := rfl
  have U0 := Lib.hid (Upd.refl [] w)
  clear hins hv hk
  go_enter Try.func5, Try.ntmps5
  go_upto_region 6 with (go_at_call 11; refine (known10_any _).mono ?_; rintro e w0 ⟨rfl, hu⟩; have U1 := Lib.hid hu; clear hu U0)
  generalize hx1 : (w0.alloc (Obj.cells #[.int .u8 139, .int .u8 (216 + k)] 5)).alloc (Obj.cells #[.int .i64 3, .int .i64 0, .int .u32 0, .int .i64 k, .int .i64 (-1), .int .u32 1] 26) = x1
  have F1 := Lib.hid (show Fm w (.slice (some ⟨w0.heap.size, 0, none⟩) 2 2) [139, 216 + k] (w0.heap.size + 1) ⟨3, 0, 0, k, -1, 1⟩ x1 by rw [← hx1]; exact Fm.start (o := ⟨3, 0, 0, k, -1, 1⟩) U1.out #[.int .u8 139, .int .u8 (216 + k)] [139, 216 + k] rfl (by simp [maxLen]))
  clear hx1 U1
  have co := cells_of F1.out.o
  unfold Opd.cells at co
  have fo := free_of F1.out.o
  go_upto_region 21 with fail
  have F4 := Lib.hid ((((((F1.out.set (o' := ⟨1, 0, 0, k, -1, 1⟩) 0 (.int .i64 1) rfl).set (o' := ⟨1, k, 0, k, -1, 1⟩) 1 (.int .i64 k) rfl).set (o' := ⟨1, k, 0, k, -1, 1⟩) 2 (.int .u32 0) rfl).set (o' := ⟨1, k, 0, 0, -1, 1⟩) 3 (.int .i64 0) rfl).set (o' := ⟨1, k, 0, 0, 0, 1⟩) 4 (.int .i64 0) rfl).set (o' := ⟨1, k, 0, 0, 0, 0⟩) 5 (.int .u32 0) rfl)
  clear F1 co fo
  generalize hx4 : (((((x1.setCell ⟨w0.heap.size + 1, 0, none⟩ _).setCell ⟨w0.heap.size + 1, 1, none⟩ _).setCell ⟨w0.heap.size + 1, 2, none⟩ _).setCell ⟨w0.heap.size + 1, 3, none⟩ _).setCell ⟨w0.heap.size + 1, 4, none⟩ _).setCell ⟨w0.heap.size + 1, 5, none⟩ _ = x4 at F4 ⊢
  clear hx4
  go_wp2_with (first | (have _t := F4; clear _t; go_at_call 12; obtain ⟨g5, hb5, _⟩ := F4.out.d.o.barg R.out (by simp [maxLen]); have HB5 := Lib.hid hb5; clear hb5; refine (Decode_any _ [139, 216 + k] g5 _ HB5.out).mono ?_; rintro e w6 ⟨rfl, hu⟩; rw [D.out.1, D.out.2.1, D.out.2.2]; have V := Lib.hid (F4.out.step hu); clear hu F4) | (have _t := V; clear _t; refine at_store 28 rfl ?_; refine wpList_store_ins ⟨1, 0, regO 3, ⟨1, k, 0, 0, 0, 0⟩, false, 2⟩ w6.heap.size rfl _ _ rfl rfl rfl (heap_alloc_new w6 (.cells Ins.zero.cells 28)) rfl ?_; intro x7 hw; obtain ⟨z1, z2⟩ := ins_new (S := []) (w0 := w6) hw (heap_alloc_new w6 (.cells Ins.zero.cells 28)) rfl ((Upd.refl [] w6).alloc _) (.inr (Nat.le_refl _)); have G := Lib.hid (And.intro z1 (V.out.step z2)); have ci := cells_of G.out.1; unfold Ins.cells at ci; clear hw V z1 z2) | (have _t := G; clear _t; refine at_load 26 rfl ?_; first | refine wpList_load_opd_at (regO 3) w6.heap.size 2 rfl _ rfl rfl (opd_range G.out.1).1 ?_ | refine wpList_load_opd_at ⟨1, k, 0, 0, 0, 0⟩ w6.heap.size 8 rfl _ rfl rfl (opd_range G.out.1).2 ?_ | refine wpList_load_opd_at ⟨1, k, 0, 0, 0, 0⟩ (w0.heap.size + 1) 0 rfl _ rfl rfl (range_whole G.out.2.o) ?_))
  go_ret
  exact ⟨rfl, G.out.2.d.u⟩

set_option maxRecDepth 100000 in
set_option maxHeartbeats 2000000 in
theorem forms_d8 (o r : Int) (ho : o.tmod 4 = 1) (k : Int) (hr : r.tmod 8 = k) (hk : 0 ≤ k ∧ k < 8) (hk4 : k ≠ 4) (sb : Int) (v : Int) (hv : 0 ≤ v ∧ v < 4294967296) (w : World) :
    Calls Try.prog 5 #[.int .u8 o, .int .u8 r, .int .u8 sb, .int .u32 v] w fun e w' => e = .returned (.bool true) ∧ Upd [] w w' := by
  have e4 : (k == 4) = false := by simpa using hk4
  have qk : wrap64 k = k := by unfold wrap64; omega
  have q1 : bits .or .u8 88 k = 88 + k := or_low 88 k (by decide) hk
  have q0 : bits .or .u8 64 24 = 88 := by decide +kernel
  have q8 := imm8_v v
  have hins : dcInsn [139, 88 + k, by0 v] 0 = .ok ⟨1, 0, regO 3, ⟨3, 0, sx8 (by0 v), k, -1, 1⟩, false, 0⟩ 3 := by
    have h := fm_head (88 + k) 1 k [by0 v] (by decide) hk (by omega)
    have p : dcPlace [139, 88 + k, by0 v] ⟨1, 3, k⟩ 2 = .ok ⟨3, 0, sx8 (by0 v), k, -1, 1⟩ 3 := by
      rw [dcPlace, if_neg (show ¬ ((1 : Int) = 3) by decide), if_neg hk4]
      rw [dcTail, if_pos rfl, byte2]; rfl
    rw [p] at h
    exact h
  have D := Lib.hid (dec_of hins)
  have hq1 := fun w : World => show (binOp .eql 26 (.agg (regO 3).cells) (.agg #[.int .i64 1, .int .i64 3, .int .u32 0, .int .i64 0, .int .i64 0, .int .u32 0])).run Try.prog w = .ok (.bool true) w from by have := run_eql_opd (regO 3) (regO 3) w; rw [Opd.eqB_self] at this; exact this
  have hq2 := fun w : World => show (binOp .eql 26 (.agg (Opd.cells ⟨3, 0, sx8 (by0 v), k, -1, 1⟩)) (.agg (Opd.cells ⟨3, 0, sx8 (by0 v), k, -1, 1⟩))).run Try.prog w = .ok (.bool true) w from by have := run_eql_opd ⟨3, 0, sx8 (by0 v), k, -1, 1⟩ ⟨3, 0, sx8 (by0 v), k, -1, 1⟩ w; rw [Opd.eqB_self] at this; exact this
  have R := Lib.hid (show BOk [139, 88 + k, by0 v] from BOk.cons (by decide) (BOk.cons (by omega) (BOk.cons (by unfold by0; omega) (BOk.nil))))
  have e0 : v % 256 = by0 v := rfl
  have e1 : v / 256 % 256 = by1 v := rfl
  have e2 : v / 65536 % 256 = by2 v := rfl
  have e3 : v / 16777216 % 256 = by3 v := rfl
  have U0 := Lib.hid (Upd.refl [] w)
  clear hins hv hk hk4
  go_enter Try.func5, Try.ntmps5
  go_upto_region 6 with (go_at_call 11; refine (known10_any _).mono ?_; rintro e w0 ⟨rfl, hu⟩; have U1 := Lib.hid hu; clear hu U0)
  generalize hx1 : (w0.alloc (Obj.cells #[.int .u8 139, .int .u8 (88 + k)] 5)).alloc (Obj.cells #[.int .i64 3, .int .i64 0, .int .u32 0, .int .i64 k, .int .i64 (-1), .int .u32 1] 26) = x1
  have F1 := Lib.hid (show Fm w (.slice (some ⟨w0.heap.size, 0, none⟩) 2 2) [139, 88 + k] (w0.heap.size + 1) ⟨3, 0, 0, k, -1, 1⟩ x1 by rw [← hx1]; exact Fm.start (o := ⟨3, 0, 0, k, -1, 1⟩) U1.out #[.int .u8 139, .int .u8 (88 + k)] [139, 88 + k] rfl (by simp [maxLen]))
  clear hx1 U1
  have co := cells_of F1.out.o
  unfold Opd.cells at co
  have fo := free_of F1.out.o
  go_upto_region 21 with (have _t := F1; clear _t; at_builtin; refine wpList_append_by rfl _ _ rfl w.heap.size _ [139, 88 + k] rfl (F1.out.d.o.keep ((Upd.refl [] x1).alloc _) (by simp)) (.slice (some ⟨x1.heap.size, 0, none⟩) 1 1) [by0 v] x1.heap.size rfl (byl_lit x1 [by0 v] #[.int .u8 (by0 v)] _ rfl) (by simp) (by have := F1.out.d.u.size; simp; omega) ?_; intro v2 x4 hg; obtain ⟨b4, c4, rfl⟩ := hg.form 3 rfl; have F4 := Lib.hid ((F1.out.step ((Upd.refl [] x1).alloc _)).grow hg); clear hg F1 co fo; have co := cells_of F4.out.o; unfold Opd.cells at co; have fo := free_of F4.out.o)
  have F5 := Lib.hid (F4.out.set (o' := ⟨3, 0, sx8 (by0 v), k, -1, 1⟩) 2 (.int .u32 (sx8 (by0 v))) rfl)
  clear F4 co fo
  generalize hx5 : x4.setCell ⟨w0.heap.size + 1, 2, none⟩ _ = x5 at F5 ⊢
  clear hx5
  go_wp2_with (first | (have _t := F5; clear _t; go_at_call 12; obtain ⟨g5, hb5, _⟩ := F5.out.d.o.barg R.out (by simp [maxLen]); have HB5 := Lib.hid hb5; clear hb5; refine (Decode_any _ [139, 88 + k, by0 v] g5 _ HB5.out).mono ?_; rintro e w6 ⟨rfl, hu⟩; rw [D.out.1, D.out.2.1, D.out.2.2]; have V := Lib.hid (F5.out.step hu); clear hu F5) | (have _t := V; clear _t; refine at_store 28 rfl ?_; refine wpList_store_ins ⟨1, 0, regO 3, ⟨3, 0, sx8 (by0 v), k, -1, 1⟩, false, 3⟩ w6.heap.size rfl _ _ rfl rfl rfl (heap_alloc_new w6 (.cells Ins.zero.cells 28)) rfl ?_; intro x7 hw; obtain ⟨z1, z2⟩ := ins_new (S := []) (w0 := w6) hw (heap_alloc_new w6 (.cells Ins.zero.cells 28)) rfl ((Upd.refl [] w6).alloc _) (.inr (Nat.le_refl _)); have G := Lib.hid (And.intro z1 (V.out.step z2)); have ci := cells_of G.out.1; unfold Ins.cells at ci; clear hw V z1 z2) | (have _t := G; clear _t; refine at_load 26 rfl ?_; first | refine wpList_load_opd_at (regO 3) w6.heap.size 2 rfl _ rfl rfl (opd_range G.out.1).1 ?_ | refine wpList_load_opd_at ⟨3, 0, sx8 (by0 v), k, -1, 1⟩ w6.heap.size 8 rfl _ rfl rfl (opd_range G.out.1).2 ?_ | refine wpList_load_opd_at ⟨3, 0, sx8 (by0 v), k, -1, 1⟩ (w0.heap.size + 1) 0 rfl _ rfl rfl (range_whole G.out.2.o) ?_))
  go_ret
  exact ⟨rfl, G.out.2.d.u⟩

set_option maxRecDepth 100000 in
set_option maxHeartbeats 2000000 in
theorem forms_d32 (o r : Int) (ho : o.tmod 4 = 2) (k : Int) (hr : r.tmod 8 = k) (hk : 0 ≤ k ∧ k < 8) (hk4 : k ≠ 4) (sb : Int) (v : Int) (hv : 0 ≤ v ∧ v < 4294967296) (w : World) :
    Calls Try.prog 5 #[.int .u8 o, .int .u8 r, .int .u8 sb, .int .u32 v] w fun e w' => e = .returned (.bool true) ∧ Upd [] w w' := by
  have e4 : (k == 4) = false := by simpa using hk4
  have qk : wrap64 k = k := by unfold wrap64; omega
  have q1 : bits .or .u8 152 k = 152 + k := or_low 152 k (by decide) hk
  have q0 : bits .or .u8 128 24 = 152 := by decide +kernel
  have hins : dcInsn [139, 152 + k, by0 v, by1 v, by2 v, by3 v] 0 = .ok ⟨1, 0, regO 3, ⟨3, 0, v, k, -1, 1⟩, false, 0⟩ 6 := by
    have h := fm_head (152 + k) 2 k [by0 v, by1 v, by2 v, by3 v] (by decide) hk (by omega)
    have p : dcPlace [139, 152 + k, by0 v, by1 v, by2 v, by3 v] ⟨2, 3, k⟩ 2 = .ok ⟨3, 0, v, k, -1, 1⟩ 6 := by
      rw [dcPlace, if_neg (show ¬ ((2 : Int) = 3) by decide), if_neg hk4]
      rw [dcTail, if_neg (show ¬ ((2 : Int) = 1) by decide), if_pos rfl, (fm_word 139 (152 + k) 0 0 [] [] v hv).1]; rfl
    rw [p] at h
    exact h
  have D := Lib.hid (dec_of hins)
  have hq1 := fun w : World => show (binOp .eql 26 (.agg (regO 3).cells) (.agg #[.int .i64 1, .int .i64 3, .int .u32 0, .int .i64 0, .int .i64 0, .int .u32 0])).run Try.prog w = .ok (.bool true) w from by have := run_eql_opd (regO 3) (regO 3) w; rw [Opd.eqB_self] at this; exact this
  have hq2 := fun w : World => show (binOp .eql 26 (.agg (Opd.cells ⟨3, 0, v, k, -1, 1⟩)) (.agg (Opd.cells ⟨3, 0, v, k, -1, 1⟩))).run Try.prog w = .ok (.bool true) w from by have := run_eql_opd ⟨3, 0, v, k, -1, 1⟩ ⟨3, 0, v, k, -1, 1⟩ w; rw [Opd.eqB_self] at this; exact this
  have R := Lib.hid (show BOk [139, 152 + k, by0 v, by1 v, by2 v, by3 v] from BOk.cons (by decide) (BOk.cons (by omega) (BOk.cons (by unfold by0; omega) (BOk.cons (by unfold by1; omega) (BOk.cons (by unfold by2; omega) (BOk.cons (by unfold by3; omega) (BOk.nil)))))))
  have e0 : v % 256 = by0 v := rfl
  have e1 : v / 256 % 256 = by1 v := rfl
  have e2 : v / 65536 % 256 = by2 v := rfl
  have e3 : v / 16777216 % 256 = by3 v := rfl
  have U0 := Lib.hid (Upd.refl [] w)
  clear hins hv hk hk4
  go_enter Try.func5, Try.ntmps5
  go_upto_region 6 with (go_at_call 11; refine (known10_any _).mono ?_; rintro e w0 ⟨rfl, hu⟩; have U1 := Lib.hid hu; clear hu U0)
  generalize hx1 : (w0.alloc (Obj.cells #[.int .u8 139, .int .u8 (152 + k)] 5)).alloc (Obj.cells #[.int .i64 3, .int .i64 0, .int .u32 0, .int .i64 k, .int .i64 (-1), .int .u32 1] 26) = x1
  have F1 := Lib.hid (show Fm w (.slice (some ⟨w0.heap.size, 0, none⟩) 2 2) [139, 152 + k] (w0.heap.size + 1) ⟨3, 0, 0, k, -1, 1⟩ x1 by rw [← hx1]; exact Fm.start (o := ⟨3, 0, 0, k, -1, 1⟩) U1.out #[.int .u8 139, .int .u8 (152 + k)] [139, 152 + k] rfl (by simp [maxLen]))
  clear hx1 U1
  have co := cells_of F1.out.o
  unfold Opd.cells at co
  have fo := free_of F1.out.o
  go_upto_region 21 with (have _t := F1; clear _t; at_builtin; refine wpList_append_by rfl _ _ rfl w.heap.size _ [139, 152 + k] rfl (F1.out.d.o.keep ((Upd.refl [] x1).alloc _) (by simp)) (.slice (some ⟨x1.heap.size, 0, none⟩) 4 4) [by0 v, by1 v, by2 v, by3 v] x1.heap.size rfl (byl_lit x1 [by0 v, by1 v, by2 v, by3 v] #[.int .u8 (by0 v), .int .u8 (by1 v), .int .u8 (by2 v), .int .u8 (by3 v)] _ rfl) (by simp) (by have := F1.out.d.u.size; simp; omega) ?_; intro v2 x4 hg; obtain ⟨b4, c4, rfl⟩ := hg.form 6 rfl; have F4 := Lib.hid ((F1.out.step ((Upd.refl [] x1).alloc _)).grow hg); clear hg F1 co fo; have co := cells_of F4.out.o; unfold Opd.cells at co; have fo := free_of F4.out.o)
  have F5 := Lib.hid (F4.out.set (o' := ⟨3, 0, v, k, -1, 1⟩) 2 (.int .u32 (v)) rfl)
  clear F4 co fo
  generalize hx5 : x4.setCell ⟨w0.heap.size + 1, 2, none⟩ _ = x5 at F5 ⊢
  clear hx5
  go_wp2_with (first | (have _t := F5; clear _t; go_at_call 12; obtain ⟨g5, hb5, _⟩ := F5.out.d.o.barg R.out (by simp [maxLen]); have HB5 := Lib.hid hb5; clear hb5; refine (Decode_any _ [139, 152 + k, by0 v, by1 v, by2 v, by3 v] g5 _ HB5.out).mono ?_; rintro e w6 ⟨rfl, hu⟩; rw [D.out.1, D.out.2.1, D.out.2.2]; have V := Lib.hid (F5.out.step hu); clear hu F5) | (have _t := V; clear _t; refine at_store 28 rfl ?_; refine wpList_store_ins ⟨1, 0, regO 3, ⟨3, 0, v, k, -1, 1⟩, false, 6⟩ w6.heap.size rfl _ _ rfl rfl rfl (heap_alloc_new w6 (.cells Ins.zero.cells 28)) rfl ?_; intro x7 hw; obtain ⟨z1, z2⟩ := ins_new (S := []) (w0 := w6) hw (heap_alloc_new w6 (.cells Ins.zero.cells 28)) rfl ((Upd.refl [] w6).alloc _) (.inr (Nat.le_refl _)); have G := Lib.hid (And.intro z1 (V.out.step z2)); have ci := cells_of G.out.1; unfold Ins.cells at ci; clear hw V z1 z2) | (have _t := G; clear _t; refine at_load 26 rfl ?_; first | refine wpList_load_opd_at (regO 3) w6.heap.size 2 rfl _ rfl rfl (opd_range G.out.1).1 ?_ | refine wpList_load_opd_at ⟨3, 0, v, k, -1, 1⟩ w6.heap.size 8 rfl _ rfl rfl (opd_range G.out.1).2 ?_ | refine wpList_load_opd_at ⟨3, 0, v, k, -1, 1⟩ (w0.heap.size + 1) 0 rfl _ rfl rfl (range_whole G.out.2.o) ?_))
  go_ret
  exact ⟨rfl, G.out.2.d.u⟩

set_option maxRecDepth 100000 in
set_option maxHeartbeats 2000000 in
theorem forms_abs (o r : Int) (ho : o.tmod 4 = 0) (hr : r.tmod 8 = 5) (sb : Int) (v : Int) (hv : 0 ≤ v ∧ v < 4294967296) (w : World) :
    Calls Try.prog 5 #[.int .u8 o, .int .u8 r, .int .u8 sb, .int .u32 v] w fun e w' => e = .returned (.bool true) ∧ Upd [] w w' := by
  have q1 : bits .or .u8 24 5 = 29 := by decide +kernel
  have q0 : bits .or .u8 0 24 = 24 := by decide +kernel
  have hins : dcInsn [139, 29, by0 v, by1 v, by2 v, by3 v] 0 = .ok ⟨1, 0, regO 3, ⟨3, 0, v, -1, -1, 1⟩, false, 0⟩ 6 := by
    have h := fm_head (29) 0 5 [by0 v, by1 v, by2 v, by3 v] (by decide) (by decide) (by omega)
    have p : dcPlace [139, 29, by0 v, by1 v, by2 v, by3 v] ⟨0, 3, 5⟩ 2 = .ok ⟨3, 0, v, -1, -1, 1⟩ 6 := by
      rw [dcPlace, if_neg (show ¬ ((0 : Int) = 3) by decide), if_neg (by decide)]
      rw [dcTail, if_neg (show ¬ ((0 : Int) = 1) by decide), if_neg (show ¬ ((0 : Int) = 2) by decide), if_pos rfl, (fm_word 139 (29) 0 0 [] [] v hv).1]; rfl
    rw [p] at h
    exact h
  have D := Lib.hid (dec_of hins)
  have hq1 := fun w : World => show (binOp .eql 26 (.agg (regO 3).cells) (.agg #[.int .i64 1, .int .i64 3, .int .u32 0, .int .i64 0, .int .i64 0, .int .u32 0])).run Try.prog w = .ok (.bool true) w from by have := run_eql_opd (regO 3) (regO 3) w; rw [Opd.eqB_self] at this; exact this
  have hq2 := fun w : World => show (binOp .eql 26 (.agg (Opd.cells ⟨3, 0, v, -1, -1, 1⟩)) (.agg (Opd.cells ⟨3, 0, v, -1, -1, 1⟩))).run Try.prog w = .ok (.bool true) w from by have := run_eql_opd ⟨3, 0, v, -1, -1, 1⟩ ⟨3, 0, v, -1, -1, 1⟩ w; rw [Opd.eqB_self] at this; exact this
  have R := Lib.hid (show BOk [139, 29, by0 v, by1 v, by2 v, by3 v] from BOk.cons (by decide) (BOk.cons (by decide) (BOk.cons (by unfold by0; omega) (BOk.cons (by unfold by1; omega) (BOk.cons (by unfold by2; omega) (BOk.cons (by unfold by3; omega) (BOk.nil)))))))
  have e0 : v % 256 = by0 v := rfl
  have e1 : v / 256 % 256 = by1 v := rfl
  have e2 : v / 65536 % 256 = by2 v := rfl
  have e3 : v / 16777216 % 256 = by3 v := rfl
  have U0 := Lib.hid (Upd.refl [] w)
  clear hins hv
  go_enter Try.func5, Try.ntmps5
  go_upto_region 6 with (go_at_call 11; refine (known10_any _).mono ?_; rintro e w0 ⟨rfl, hu⟩; have U1 := Lib.hid hu; clear hu U0)
  generalize hx1 : (w0.alloc (Obj.cells #[.int .u8 139, .int .u8 29] 5)).alloc (Obj.cells #[.int .i64 3, .int .i64 0, .int .u32 0, .int .i64 5, .int .i64 (-1), .int .u32 1] 26) = x1
  have F1 := Lib.hid (show Fm w (.slice (some ⟨w0.heap.size, 0, none⟩) 2 2) [139, 29] (w0.heap.size + 1) ⟨3, 0, 0, 5, -1, 1⟩ x1 by rw [← hx1]; exact Fm.start (o := ⟨3, 0, 0, 5, -1, 1⟩) U1.out #[.int .u8 139, .int .u8 29] [139, 29] rfl (by simp [maxLen]))
  clear hx1 U1
  have co := cells_of F1.out.o
  unfold Opd.cells at co
  have fo := free_of F1.out.o
  go_upto_region 21 with (have _t := F1; clear _t; at_builtin; refine wpList_append_by rfl _ _ rfl w.heap.size _ [139, 29] rfl (F1.out.d.o.keep ((Upd.refl [] x1).alloc _) (by simp)) (.slice (some ⟨x1.heap.size, 0, none⟩) 4 4) [by0 v, by1 v, by2 v, by3 v] x1.heap.size rfl (byl_lit x1 [by0 v, by1 v, by2 v, by3 v] #[.int .u8 (by0 v), .int .u8 (by1 v), .int .u8 (by2 v), .int .u8 (by3 v)] _ rfl) (by simp) (by have := F1.out.d.u.size; simp; omega) ?_; intro v2 x4 hg; obtain ⟨b4, c4, rfl⟩ := hg.form 6 rfl; have F4 := Lib.hid ((F1.out.step ((Upd.refl [] x1).alloc _)).grow hg); clear hg F1 co fo; have co := cells_of F4.out.o; unfold Opd.cells at co; have fo := free_of F4.out.o)
  have F5 := Lib.hid ((F4.out.set (o' := ⟨3, 0, v, 5, -1, 1⟩) 2 (.int .u32 (v)) rfl).set (o' := ⟨3, 0, v, -1, -1, 1⟩) 3 (.int .i64 (-1)) rfl)
  clear F4 co fo
  generalize hx5 : (x4.setCell ⟨w0.heap.size + 1, 2, none⟩ _).setCell ⟨w0.heap.size + 1, 3, none⟩ _ = x5 at F5 ⊢
  clear hx5
  go_wp2_with (first | (have _t := F5; clear _t; go_at_call 12; obtain ⟨g5, hb5, _⟩ := F5.out.d.o.barg R.out (by simp [maxLen]); have HB5 := Lib.hid hb5; clear hb5; refine (Decode_any _ [139, 29, by0 v, by1 v, by2 v, by3 v] g5 _ HB5.out).mono ?_; rintro e w6 ⟨rfl, hu⟩; rw [D.out.1, D.out.2.1, D.out.2.2]; have V := Lib.hid (F5.out.step hu); clear hu F5) | (have _t := V; clear _t; refine at_store 28 rfl ?_; refine wpList_store_ins ⟨1, 0, regO 3, ⟨3, 0, v, -1, -1, 1⟩, false, 6⟩ w6.heap.size rfl _ _ rfl rfl rfl (heap_alloc_new w6 (.cells Ins.zero.cells 28)) rfl ?_; intro x7 hw; obtain ⟨z1, z2⟩ := ins_new (S := []) (w0 := w6) hw (heap_alloc_new w6 (.cells Ins.zero.cells 28)) rfl ((Upd.refl [] w6).alloc _) (.inr (Nat.le_refl _)); have G := Lib.hid (And.intro z1 (V.out.step z2)); have ci := cells_of G.out.1; unfold Ins.cells at ci; clear hw V z1 z2) | (have _t := G; clear _t; refine at_load 26 rfl ?_; first | refine wpList_load_opd_at (regO 3) w6.heap.size 2 rfl _ rfl rfl (opd_range G.out.1).1 ?_ | refine wpList_load_opd_at ⟨3, 0, v, -1, -1, 1⟩ w6.heap.size 8 rfl _ rfl rfl (opd_range G.out.1).2 ?_ | refine wpList_load_opd_at ⟨3, 0, v, -1, -1, 1⟩ (w0.heap.size + 1) 0 rfl _ rfl rfl (range_whole G.out.2.o) ?_))
  go_ret
  exact ⟨rfl, G.out.2.d.u⟩

set_option maxRecDepth 100000 in
set_option maxHeartbeats 2000000 in
theorem forms_none (o r : Int) (ho : o.tmod 4 = 0) (k : Int) (hr : r.tmod 8 = k) (hk : 0 ≤ k ∧ k < 8) (hk4 : k ≠ 4) (hk5 : k ≠ 5) (sb : Int) (v : Int) (hv : 0 ≤ v ∧ v < 4294967296) (w : World) :
    Calls Try.prog 5 #[.int .u8 o, .int .u8 r, .int .u8 sb, .int .u32 v] w fun e w' => e = .returned (.bool true) ∧ Upd [] w w' := by
  have e4 : (k == 4) = false := by simpa using hk4
  have e5 : (k == 5) = false := by simpa using hk5
  have qk : wrap64 k = k := by unfold wrap64; omega
  have q1 : bits .or .u8 24 k = 24 + k := or_low 24 k (by decide) hk
  have q0 : bits .or .u8 0 24 = 24 := by decide +kernel
  have hins : dcInsn [139, 24 + k] 0 = .ok ⟨1, 0, regO 3, ⟨3, 0, 0, k, -1, 1⟩, false, 0⟩ 2 := by
    have h := fm_head (24 + k) 0 k [] (by decide) hk (by omega)
    have p : dcPlace [139, 24 + k] ⟨0, 3, k⟩ 2 = .ok ⟨3, 0, 0, k, -1, 1⟩ 2 := by
      rw [dcPlace, if_neg (show ¬ ((0 : Int) = 3) by decide), if_neg hk4]
      rw [dcTail, if_neg (show ¬ ((0 : Int) = 1) by decide), if_neg (show ¬ ((0 : Int) = 2) by decide), if_neg hk5]
    rw [p] at h
    exact h
  have D := Lib.hid (dec_of hins)
  have hq1 := fun w : World => show (binOp .eql 26 (.agg (regO 3).cells) (.agg #[.int .i64 1, .int .i64 3, .int .u32 0, .int .i64 0, .int .i64 0, .int .u32 0])).run Try.prog w = .ok (.bool true) w from by have := run_eql_opd (regO 3) (regO 3) w; rw [Opd.eqB_self] at this; exact this
  have hq2 := fun w : World => show (binOp .eql 26 (.agg (Opd.cells ⟨3, 0, 0, k, -1, 1⟩)) (.agg (Opd.cells ⟨3, 0, 0, k, -1, 1⟩))).run Try.prog w = .ok (.bool true) w from by have := run_eql_opd ⟨3, 0, 0, k, -1, 1⟩ ⟨3, 0, 0, k, -1, 1⟩ w; rw [Opd.eqB_self] at this; exact this
  have R := Lib.hid (show BOk [139, 24 + k] from BOk.cons (by decide) (BOk.cons (by omega) (BOk.nil)))
  have e0 : v % 256 = by0 v := rfl
  have e1 : v / 256 % 256 = by1 v := rfl
  have e2 : v / 65536 % 256 = by2 v := rfl
  have e3 : v / 16777216 % 256 = by3 v := rfl
  have U0 := Lib.hid (Upd.refl [] w)
  clear hins hv hk hk4 hk5
  go_enter Try.func5, Try.ntmps5
  go_upto_region 6 with (go_at_call 11; refine (known10_any _).mono ?_; rintro e w0 ⟨rfl, hu⟩; have U1 := Lib.hid hu; clear hu U0)
  generalize hx1 : (w0.alloc (Obj.cells #[.int .u8 139, .int .u8 (24 + k)] 5)).alloc (Obj.cells #[.int .i64 3, .int .i64 0, .int .u32 0, .int .i64 k, .int .i64 (-1), .int .u32 1] 26) = x1
  have F1 := Lib.hid (show Fm w (.slice (some ⟨w0.heap.size, 0, none⟩) 2 2) [139, 24 + k] (w0.heap.size + 1) ⟨3, 0, 0, k, -1, 1⟩ x1 by rw [← hx1]; exact Fm.start (o := ⟨3, 0, 0, k, -1, 1⟩) U1.out #[.int .u8 139, .int .u8 (24 + k)] [139, 24 + k] rfl (by simp [maxLen]))
  clear hx1 U1
  have co := cells_of F1.out.o
  unfold Opd.cells at co
  have fo := free_of F1.out.o
  go_upto_region 21 with fail
  go_wp2_with (first | (have _t := F1; clear _t; go_at_call 12; obtain ⟨g5, hb5, _⟩ := F1.out.d.o.barg R.out (by simp [maxLen]); have HB5 := Lib.hid hb5; clear hb5; refine (Decode_any _ [139, 24 + k] g5 _ HB5.out).mono ?_; rintro e w6 ⟨rfl, hu⟩; rw [D.out.1, D.out.2.1, D.out.2.2]; have V := Lib.hid (F1.out.step hu); clear hu F1) | (have _t := V; clear _t; refine at_store 28 rfl ?_; refine wpList_store_ins ⟨1, 0, regO 3, ⟨3, 0, 0, k, -1, 1⟩, false, 2⟩ w6.heap.size rfl _ _ rfl rfl rfl (heap_alloc_new w6 (.cells Ins.zero.cells 28)) rfl ?_; intro x7 hw; obtain ⟨z1, z2⟩ := ins_new (S := []) (w0 := w6) hw (heap_alloc_new w6 (.cells Ins.zero.cells 28)) rfl ((Upd.refl [] w6).alloc _) (.inr (Nat.le_refl _)); have G := Lib.hid (And.intro z1 (V.out.step z2)); have ci := cells_of G.out.1; unfold Ins.cells at ci; clear hw V z1 z2) | (have _t := G; clear _t; refine at_load 26 rfl ?_; first | refine wpList_load_opd_at (regO 3) w6.heap.size 2 rfl _ rfl rfl (opd_range G.out.1).1 ?_ | refine wpList_load_opd_at ⟨3, 0, 0, k, -1, 1⟩ w6.heap.size 8 rfl _ rfl rfl (opd_range G.out.1).2 ?_ | refine wpList_load_opd_at ⟨3, 0, 0, k, -1, 1⟩ (w0.heap.size + 1) 0 rfl _ rfl rfl (range_whole G.out.2.o) ?_))
  go_ret
  exact ⟨rfl, G.out.2.d.u⟩

end Go.Proofs.Ytpockhoacfkjaaa
