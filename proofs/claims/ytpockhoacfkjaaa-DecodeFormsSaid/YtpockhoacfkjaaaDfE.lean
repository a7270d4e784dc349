/-
  The law DecodeForms: ways with a SIB byte that tells an index.
-/
import Derived.Test.YtpockhoacfkjaaaDfB
namespace Go.Proofs.Ytpockhoacfkjaaa
open Go Go.RowKit
set_option linter.unusedVariables false
set_option linter.unusedSimpArgs false

set_option maxRecDepth 100000 in
set_option maxHeartbeats 2000000 in
theorem forms_d8_x (o r : Int) (ho : o.tmod 4 = 1) (hr : r.tmod 8 = 4) (s : Int) (hs : 0 ≤ s ∧ s ≤ 255) (bs : Int) (hbs : s % 8 = bs) (ix : Int) (hix : s / 8 % 8 = ix) (hx4 : ix ≠ 4) (z : Nat) (hz : s / 64 = z) (sc : Int) (hsc : scOf s = sc)  (v : Int) (hv : 0 ≤ v ∧ v < 4294967296) (w : World) :
    Calls Try.prog 5 #[.int .u8 o, .int .u8 r, .int .u8 s, .int .u32 v] w fun e w' => e = .returned (.bool true) ∧ Upd [] w w' := by
  have q1 : bits .or .u8 88 4 = 92 := by decide +kernel
  have q0 : bits .or .u8 64 24 = 88 := by decide +kernel
  have q8 := imm8_v v
  have qb : wrap64 bs = bs := by unfold wrap64; omega
  have qi : wrap64 ix = ix := by unfold wrap64; omega
  have qs : bits .and .u8 s 7 = bs := by rw [← hbs]; exact and7 s hs
  have e6 : (ix != 4) = true := by simpa using hx4
  have qz : IntKind.u64.wrap (z : Int) = z := by unfold IntKind.wrap; simp [IntKind.signed, IntKind.bits]; omega
  have hsc' : (2 : Int) ^ min z 32 % 4294967296 = sc := by
    rw [← hsc, scOf, hz, Int.toNat_natCast]
    rcases (show z = 0 ∨ z = 1 ∨ z = 2 ∨ z = 3 by omega) with rfl | rfl | rfl | rfl <;> rfl
  have qx : bits .and .u8 (s / 8) 7 = ix := by rw [← hix]; exact and7 _ (by omega)
  have hins : dcInsn [139, 92, s, by0 v] 0 = .ok ⟨1, 0, regO 3, ⟨3, 0, sx8 (by0 v), bs, ix, sc⟩, false, 0⟩ 4 := by
    have h := fm_head (92) 1 4 [s, by0 v] (by decide) (by decide) (by omega)
    have p : dcPlace [139, 92, s, by0 v] ⟨1, 3, 4⟩ 2 = .ok ⟨3, 0, sx8 (by0 v), bs, ix, sc⟩ 4 := by
      rw [dcPlace, if_neg (show ¬ ((1 : Int) = 3) by decide), if_pos rfl, byte2, DR.bind_ok]
      rw [if_neg (by rw [hix]; exact hx4), if_neg (by rw [hix]; exact hx4), show (2 : Int) ^ (s / 64).toNat = sc from hsc]
      rw [hix, hbs]
      rw [dcTail, if_pos rfl, byte3]; rfl
    rw [p] at h
    exact h
  have D := Lib.hid (dec_of hins)
  have hq1 := fun w : World => show (binOp .eql 26 (.agg (regO 3).cells) (.agg #[.int .i64 1, .int .i64 3, .int .u32 0, .int .i64 0, .int .i64 0, .int .u32 0])).run Try.prog w = .ok (.bool true) w from by have := run_eql_opd (regO 3) (regO 3) w; rw [Opd.eqB_self] at this; exact this
  have hq2 := fun w : World => show (binOp .eql 26 (.agg (Opd.cells ⟨3, 0, sx8 (by0 v), bs, ix, sc⟩)) (.agg (Opd.cells ⟨3, 0, sx8 (by0 v), bs, ix, sc⟩))).run Try.prog w = .ok (.bool true) w from by have := run_eql_opd ⟨3, 0, sx8 (by0 v), bs, ix, sc⟩ ⟨3, 0, sx8 (by0 v), bs, ix, sc⟩ w; rw [Opd.eqB_self] at this; exact this
  have R := Lib.hid (show BOk [139, 92, s, by0 v] from BOk.cons (by decide) (BOk.cons (by decide) (BOk.cons (by omega) (BOk.cons (by unfold by0; omega) (BOk.nil)))))
  have e0 : v % 256 = by0 v := rfl
  have e1 : v / 256 % 256 = by1 v := rfl
  have e2 : v / 65536 % 256 = by2 v := rfl
  have e3 : v / 16777216 % 256 = by3 v := rfl
  have U0 := Lib.hid (Upd.refl [] w)
  clear hins hv hs hbs hix hx4 hsc
  go_enter Try.func5, Try.ntmps5
  go_upto_region 6 with (go_at_call 11; refine (known10_any _).mono ?_; rintro e w0 ⟨rfl, hu⟩; have U1 := Lib.hid hu; clear hu U0)
  generalize hx1 : (w0.alloc (Obj.cells #[.int .u8 139, .int .u8 92] 5)).alloc (Obj.cells #[.int .i64 3, .int .i64 0, .int .u32 0, .int .i64 4, .int .i64 (-1), .int .u32 1] 26) = x1
  have F1 := Lib.hid (show Fm w (.slice (some ⟨w0.heap.size, 0, none⟩) 2 2) [139, 92] (w0.heap.size + 1) ⟨3, 0, 0, 4, -1, 1⟩ x1 by rw [← hx1]; exact Fm.start (o := ⟨3, 0, 0, 4, -1, 1⟩) U1.out #[.int .u8 139, .int .u8 92] [139, 92] rfl (by simp [maxLen]))
  clear hx1 U1
  have co := cells_of F1.out.o
  unfold Opd.cells at co
  have fo := free_of F1.out.o
  go_upto_region 11 with (have _t := F1; clear _t; at_builtin; refine wpList_append_by rfl _ _ rfl w.heap.size _ [139, 92] rfl (F1.out.d.o.keep ((Upd.refl [] x1).alloc _) (by simp)) (.slice (some ⟨x1.heap.size, 0, none⟩) 1 1) [s] x1.heap.size rfl (byl_lit x1 [s] #[.int .u8 s] _ rfl) (by simp) (by have := F1.out.d.u.size; simp; omega) ?_; intro v2 x2 hg; obtain ⟨b2, c2, rfl⟩ := hg.form 3 rfl; have F2 := Lib.hid ((F1.out.step ((Upd.refl [] x1).alloc _)).grow hg); clear hg F1 co fo; have co := cells_of F2.out.o; unfold Opd.cells at co; have fo := free_of F2.out.o)
  have F3 := Lib.hid (((F2.out.set (o' := ⟨3, 0, 0, bs, -1, 1⟩) 3 (.int .i64 bs) rfl).set (o' := ⟨3, 0, 0, bs, ix, 1⟩) 4 (.int .i64 ix) rfl).set (o' := ⟨3, 0, 0, bs, ix, sc⟩) 5 (.int .u32 sc) rfl)
  clear F2 co fo
  generalize hx3 : ((x2.setCell ⟨w0.heap.size + 1, 3, none⟩ _).setCell ⟨w0.heap.size + 1, 4, none⟩ _).setCell ⟨w0.heap.size + 1, 5, none⟩ _ = x3 at F3 ⊢
  clear hx3
  have co := cells_of F3.out.o
  unfold Opd.cells at co
  have fo := free_of F3.out.o
  go_upto_region 21 with (have _t := F3; clear _t; at_builtin; refine wpList_append_by rfl _ _ rfl w.heap.size _ [139, 92, s] rfl (F3.out.d.o.keep ((Upd.refl [] x3).alloc _) (by simp)) (.slice (some ⟨x3.heap.size, 0, none⟩) 1 1) [by0 v] x3.heap.size rfl (byl_lit x3 [by0 v] #[.int .u8 (by0 v)] _ rfl) (by simp) (by have := F3.out.d.u.size; simp; omega) ?_; intro v2 x4 hg; obtain ⟨b4, c4, rfl⟩ := hg.form 4 rfl; have F4 := Lib.hid ((F3.out.step ((Upd.refl [] x3).alloc _)).grow hg); clear hg F3 co fo; have co := cells_of F4.out.o; unfold Opd.cells at co; have fo := free_of F4.out.o)
  have F5 := Lib.hid (F4.out.set (o' := ⟨3, 0, sx8 (by0 v), bs, ix, sc⟩) 2 (.int .u32 (sx8 (by0 v))) rfl)
  clear F4 co fo
  generalize hx5 : x4.setCell ⟨w0.heap.size + 1, 2, none⟩ _ = x5 at F5 ⊢
  clear hx5
  go_wp2_with (first | (have _t := F5; clear _t; go_at_call 12; obtain ⟨g5, hb5, _⟩ := F5.out.d.o.barg R.out (by simp [maxLen]); have HB5 := Lib.hid hb5; clear hb5; refine (Decode_any _ [139, 92, s, by0 v] g5 _ HB5.out).mono ?_; rintro e w6 ⟨rfl, hu⟩; rw [D.out.1, D.out.2.1, D.out.2.2]; have V := Lib.hid (F5.out.step hu); clear hu F5) | (have _t := V; clear _t; refine at_store 28 rfl ?_; refine wpList_store_ins ⟨1, 0, regO 3, ⟨3, 0, sx8 (by0 v), bs, ix, sc⟩, false, 4⟩ w6.heap.size rfl _ _ rfl rfl rfl (heap_alloc_new w6 (.cells Ins.zero.cells 28)) rfl ?_; intro x7 hw; obtain ⟨z1, z2⟩ := ins_new (S := []) (w0 := w6) hw (heap_alloc_new w6 (.cells Ins.zero.cells 28)) rfl ((Upd.refl [] w6).alloc _) (.inr (Nat.le_refl _)); have G := Lib.hid (And.intro z1 (V.out.step z2)); have ci := cells_of G.out.1; unfold Ins.cells at ci; clear hw V z1 z2) | (have _t := G; clear _t; refine at_load 26 rfl ?_; first | refine wpList_load_opd_at (regO 3) w6.heap.size 2 rfl _ rfl rfl (opd_range G.out.1).1 ?_ | refine wpList_load_opd_at ⟨3, 0, sx8 (by0 v), bs, ix, sc⟩ w6.heap.size 8 rfl _ rfl rfl (opd_range G.out.1).2 ?_ | refine wpList_load_opd_at ⟨3, 0, sx8 (by0 v), bs, ix, sc⟩ (w0.heap.size + 1) 0 rfl _ rfl rfl (range_whole G.out.2.o) ?_))
  go_ret
  exact ⟨rfl, G.out.2.d.u⟩

set_option maxRecDepth 100000 in
set_option maxHeartbeats 2000000 in
theorem forms_d32_x (o r : Int) (ho : o.tmod 4 = 2) (hr : r.tmod 8 = 4) (s : Int) (hs : 0 ≤ s ∧ s ≤ 255) (bs : Int) (hbs : s % 8 = bs) (ix : Int) (hix : s / 8 % 8 = ix) (hx4 : ix ≠ 4) (z : Nat) (hz : s / 64 = z) (sc : Int) (hsc : scOf s = sc)  (v : Int) (hv : 0 ≤ v ∧ v < 4294967296) (w : World) :
    Calls Try.prog 5 #[.int .u8 o, .int .u8 r, .int .u8 s, .int .u32 v] w fun e w' => e = .returned (.bool true) ∧ Upd [] w w' := by
  have q1 : bits .or .u8 152 4 = 156 := by decide +kernel
  have q0 : bits .or .u8 128 24 = 152 := by decide +kernel
  have qb : wrap64 bs = bs := by unfold wrap64; omega
  have qi : wrap64 ix = ix := by unfold wrap64; omega
  have qs : bits .and .u8 s 7 = bs := by rw [← hbs]; exact and7 s hs
  have e6 : (ix != 4) = true := by simpa using hx4
  have qz : IntKind.u64.wrap (z : Int) = z := by unfold IntKind.wrap; simp [IntKind.signed, IntKind.bits]; omega
  have hsc' : (2 : Int) ^ min z 32 % 4294967296 = sc := by
    rw [← hsc, scOf, hz, Int.toNat_natCast]
    rcases (show z = 0 ∨ z = 1 ∨ z = 2 ∨ z = 3 by omega) with rfl | rfl | rfl | rfl <;> rfl
  have qx : bits .and .u8 (s / 8) 7 = ix := by rw [← hix]; exact and7 _ (by omega)
  have hins : dcInsn [139, 156, s, by0 v, by1 v, by2 v, by3 v] 0 = .ok ⟨1, 0, regO 3, ⟨3, 0, v, bs, ix, sc⟩, false, 0⟩ 7 := by
    have h := fm_head (156) 2 4 [s, by0 v, by1 v, by2 v, by3 v] (by decide) (by decide) (by omega)
    have p : dcPlace [139, 156, s, by0 v, by1 v, by2 v, by3 v] ⟨2, 3, 4⟩ 2 = .ok ⟨3, 0, v, bs, ix, sc⟩ 7 := by
      rw [dcPlace, if_neg (show ¬ ((2 : Int) = 3) by decide), if_pos rfl, byte2, DR.bind_ok]
      rw [if_neg (by rw [hix]; exact hx4), if_neg (by rw [hix]; exact hx4), show (2 : Int) ^ (s / 64).toNat = sc from hsc]
      rw [hix, hbs]
      rw [dcTail, if_neg (show ¬ ((2 : Int) = 1) by decide), if_pos rfl, (fm_word 139 156 s 0 [] [] v hv).2]; rfl
    rw [p] at h
    exact h
  have D := Lib.hid (dec_of hins)
  have hq1 := fun w : World => show (binOp .eql 26 (.agg (regO 3).cells) (.agg #[.int .i64 1, .int .i64 3, .int .u32 0, .int .i64 0, .int .i64 0, .int .u32 0])).run Try.prog w = .ok (.bool true) w from by have := run_eql_opd (regO 3) (regO 3) w; rw [Opd.eqB_self] at this; exact this
  have hq2 := fun w : World => show (binOp .eql 26 (.agg (Opd.cells ⟨3, 0, v, bs, ix, sc⟩)) (.agg (Opd.cells ⟨3, 0, v, bs, ix, sc⟩))).run Try.prog w = .ok (.bool true) w from by have := run_eql_opd ⟨3, 0, v, bs, ix, sc⟩ ⟨3, 0, v, bs, ix, sc⟩ w; rw [Opd.eqB_self] at this; exact this
  have R := Lib.hid (show BOk [139, 156, s, by0 v, by1 v, by2 v, by3 v] from BOk.cons (by decide) (BOk.cons (by decide) (BOk.cons (by omega) (BOk.cons (by unfold by0; omega) (BOk.cons (by unfold by1; omega) (BOk.cons (by unfold by2; omega) (BOk.cons (by unfold by3; omega) (BOk.nil))))))))
  have e0 : v % 256 = by0 v := rfl
  have e1 : v / 256 % 256 = by1 v := rfl
  have e2 : v / 65536 % 256 = by2 v := rfl
  have e3 : v / 16777216 % 256 = by3 v := rfl
  have U0 := Lib.hid (Upd.refl [] w)
  clear hins hv hs hbs hix hx4 hsc
  go_enter Try.func5, Try.ntmps5
  go_upto_region 6 with (go_at_call 11; refine (known10_any _).mono ?_; rintro e w0 ⟨rfl, hu⟩; have U1 := Lib.hid hu; clear hu U0)
  generalize hx1 : (w0.alloc (Obj.cells #[.int .u8 139, .int .u8 156] 5)).alloc (Obj.cells #[.int .i64 3, .int .i64 0, .int .u32 0, .int .i64 4, .int .i64 (-1), .int .u32 1] 26) = x1
  have F1 := Lib.hid (show Fm w (.slice (some ⟨w0.heap.size, 0, none⟩) 2 2) [139, 156] (w0.heap.size + 1) ⟨3, 0, 0, 4, -1, 1⟩ x1 by rw [← hx1]; exact Fm.start (o := ⟨3, 0, 0, 4, -1, 1⟩) U1.out #[.int .u8 139, .int .u8 156] [139, 156] rfl (by simp [maxLen]))
  clear hx1 U1
  have co := cells_of F1.out.o
  unfold Opd.cells at co
  have fo := free_of F1.out.o
  go_upto_region 11 with (have _t := F1; clear _t; at_builtin; refine wpList_append_by rfl _ _ rfl w.heap.size _ [139, 156] rfl (F1.out.d.o.keep ((Upd.refl [] x1).alloc _) (by simp)) (.slice (some ⟨x1.heap.size, 0, none⟩) 1 1) [s] x1.heap.size rfl (byl_lit x1 [s] #[.int .u8 s] _ rfl) (by simp) (by have := F1.out.d.u.size; simp; omega) ?_; intro v2 x2 hg; obtain ⟨b2, c2, rfl⟩ := hg.form 3 rfl; have F2 := Lib.hid ((F1.out.step ((Upd.refl [] x1).alloc _)).grow hg); clear hg F1 co fo; have co := cells_of F2.out.o; unfold Opd.cells at co; have fo := free_of F2.out.o)
  have F3 := Lib.hid (((F2.out.set (o' := ⟨3, 0, 0, bs, -1, 1⟩) 3 (.int .i64 bs) rfl).set (o' := ⟨3, 0, 0, bs, ix, 1⟩) 4 (.int .i64 ix) rfl).set (o' := ⟨3, 0, 0, bs, ix, sc⟩) 5 (.int .u32 sc) rfl)
  clear F2 co fo
  generalize hx3 : ((x2.setCell ⟨w0.heap.size + 1, 3, none⟩ _).setCell ⟨w0.heap.size + 1, 4, none⟩ _).setCell ⟨w0.heap.size + 1, 5, none⟩ _ = x3 at F3 ⊢
  clear hx3
  have co := cells_of F3.out.o
  unfold Opd.cells at co
  have fo := free_of F3.out.o
  go_upto_region 21 with (have _t := F3; clear _t; at_builtin; refine wpList_append_by rfl _ _ rfl w.heap.size _ [139, 156, s] rfl (F3.out.d.o.keep ((Upd.refl [] x3).alloc _) (by simp)) (.slice (some ⟨x3.heap.size, 0, none⟩) 4 4) [by0 v, by1 v, by2 v, by3 v] x3.heap.size rfl (byl_lit x3 [by0 v, by1 v, by2 v, by3 v] #[.int .u8 (by0 v), .int .u8 (by1 v), .int .u8 (by2 v), .int .u8 (by3 v)] _ rfl) (by simp) (by have := F3.out.d.u.size; simp; omega) ?_; intro v2 x4 hg; obtain ⟨b4, c4, rfl⟩ := hg.form 7 rfl; have F4 := Lib.hid ((F3.out.step ((Upd.refl [] x3).alloc _)).grow hg); clear hg F3 co fo; have co := cells_of F4.out.o; unfold Opd.cells at co; have fo := free_of F4.out.o)
  have F5 := Lib.hid (F4.out.set (o' := ⟨3, 0, v, bs, ix, sc⟩) 2 (.int .u32 (v)) rfl)
  clear F4 co fo
  generalize hx5 : x4.setCell ⟨w0.heap.size + 1, 2, none⟩ _ = x5 at F5 ⊢
  clear hx5
  go_wp2_with (first | (have _t := F5; clear _t; go_at_call 12; obtain ⟨g5, hb5, _⟩ := F5.out.d.o.barg R.out (by simp [maxLen]); have HB5 := Lib.hid hb5; clear hb5; refine (Decode_any _ [139, 156, s, by0 v, by1 v, by2 v, by3 v] g5 _ HB5.out).mono ?_; rintro e w6 ⟨rfl, hu⟩; rw [D.out.1, D.out.2.1, D.out.2.2]; have V := Lib.hid (F5.out.step hu); clear hu F5) | (have _t := V; clear _t; refine at_store 28 rfl ?_; refine wpList_store_ins ⟨1, 0, regO 3, ⟨3, 0, v, bs, ix, sc⟩, false, 7⟩ w6.heap.size rfl _ _ rfl rfl rfl (heap_alloc_new w6 (.cells Ins.zero.cells 28)) rfl ?_; intro x7 hw; obtain ⟨z1, z2⟩ := ins_new (S := []) (w0 := w6) hw (heap_alloc_new w6 (.cells Ins.zero.cells 28)) rfl ((Upd.refl [] w6).alloc _) (.inr (Nat.le_refl _)); have G := Lib.hid (And.intro z1 (V.out.step z2)); have ci := cells_of G.out.1; unfold Ins.cells at ci; clear hw V z1 z2) | (have _t := G; clear _t; refine at_load 26 rfl ?_; first | refine wpList_load_opd_at (regO 3) w6.heap.size 2 rfl _ rfl rfl (opd_range G.out.1).1 ?_ | refine wpList_load_opd_at ⟨3, 0, v, bs, ix, sc⟩ w6.heap.size 8 rfl _ rfl rfl (opd_range G.out.1).2 ?_ | refine wpList_load_opd_at ⟨3, 0, v, bs, ix, sc⟩ (w0.heap.size + 1) 0 rfl _ rfl rfl (range_whole G.out.2.o) ?_))
  go_ret
  exact ⟨rfl, G.out.2.d.u⟩

set_option maxRecDepth 100000 in
set_option maxHeartbeats 2000000 in
theorem forms_abs_x (o r : Int) (ho : o.tmod 4 = 0) (hr : r.tmod 8 = 4) (s : Int) (hs : 0 ≤ s ∧ s ≤ 255) (hbs : s % 8 = 5) (ix : Int) (hix : s / 8 % 8 = ix) (hx4 : ix ≠ 4) (z : Nat) (hz : s / 64 = z) (sc : Int) (hsc : scOf s = sc)  (v : Int) (hv : 0 ≤ v ∧ v < 4294967296) (w : World) :
    Calls Try.prog 5 #[.int .u8 o, .int .u8 r, .int .u8 s, .int .u32 v] w fun e w' => e = .returned (.bool true) ∧ Upd [] w w' := by
  have q1 : bits .or .u8 24 4 = 28 := by decide +kernel
  have q0 : bits .or .u8 0 24 = 24 := by decide +kernel
  have qi : wrap64 ix = ix := by unfold wrap64; omega
  have qs : bits .and .u8 s 7 = 5 := by rw [← hbs]; exact and7 s hs
  have e6 : (ix != 4) = true := by simpa using hx4
  have qz : IntKind.u64.wrap (z : Int) = z := by unfold IntKind.wrap; simp [IntKind.signed, IntKind.bits]; omega
  have hsc' : (2 : Int) ^ min z 32 % 4294967296 = sc := by
    rw [← hsc, scOf, hz, Int.toNat_natCast]
    rcases (show z = 0 ∨ z = 1 ∨ z = 2 ∨ z = 3 by omega) with rfl | rfl | rfl | rfl <;> rfl
  have qx : bits .and .u8 (s / 8) 7 = ix := by rw [← hix]; exact and7 _ (by omega)
  have hins : dcInsn [139, 28, s, by0 v, by1 v, by2 v, by3 v] 0 = .ok ⟨1, 0, regO 3, ⟨3, 0, v, -1, ix, sc⟩, false, 0⟩ 7 := by
    have h := fm_head (28) 0 4 [s, by0 v, by1 v, by2 v, by3 v] (by decide) (by decide) (by omega)
    have p : dcPlace [139, 28, s, by0 v, by1 v, by2 v, by3 v] ⟨0, 3, 4⟩ 2 = .ok ⟨3, 0, v, -1, ix, sc⟩ 7 := by
      rw [dcPlace, if_neg (show ¬ ((0 : Int) = 3) by decide), if_pos rfl, byte2, DR.bind_ok]
      rw [if_neg (by rw [hix]; exact hx4), if_neg (by rw [hix]; exact hx4), show (2 : Int) ^ (s / 64).toNat = sc from hsc]
      rw [hix]
      rw [dcTail, if_neg (show ¬ ((0 : Int) = 1) by decide), if_neg (show ¬ ((0 : Int) = 2) by decide), if_pos hbs, (fm_word 139 28 s 0 [] [] v hv).2]; rfl
    rw [p] at h
    exact h
  have D := Lib.hid (dec_of hins)
  have hq1 := fun w : World => show (binOp .eql 26 (.agg (regO 3).cells) (.agg #[.int .i64 1, .int .i64 3, .int .u32 0, .int .i64 0, .int .i64 0, .int .u32 0])).run Try.prog w = .ok (.bool true) w from by have := run_eql_opd (regO 3) (regO 3) w; rw [Opd.eqB_self] at this; exact this
  have hq2 := fun w : World => show (binOp .eql 26 (.agg (Opd.cells ⟨3, 0, v, -1, ix, sc⟩)) (.agg (Opd.cells ⟨3, 0, v, -1, ix, sc⟩))).run Try.prog w = .ok (.bool true) w from by have := run_eql_opd ⟨3, 0, v, -1, ix, sc⟩ ⟨3, 0, v, -1, ix, sc⟩ w; rw [Opd.eqB_self] at this; exact this
  have R := Lib.hid (show BOk [139, 28, s, by0 v, by1 v, by2 v, by3 v] from BOk.cons (by decide) (BOk.cons (by decide) (BOk.cons (by omega) (BOk.cons (by unfold by0; omega) (BOk.cons (by unfold by1; omega) (BOk.cons (by unfold by2; omega) (BOk.cons (by unfold by3; omega) (BOk.nil))))))))
  have e0 : v % 256 = by0 v := rfl
  have e1 : v / 256 % 256 = by1 v := rfl
  have e2 : v / 65536 % 256 = by2 v := rfl
  have e3 : v / 16777216 % 256 = by3 v := rfl
  have U0 := Lib.hid (Upd.refl [] w)
  clear hins hv hs hbs hix hx4 hsc
  go_enter Try.func5, Try.ntmps5
  go_upto_region 6 with (go_at_call 11; refine (known10_any _).mono ?_; rintro e w0 ⟨rfl, hu⟩; have U1 := Lib.hid hu; clear hu U0)
  generalize hx1 : (w0.alloc (Obj.cells #[.int .u8 139, .int .u8 28] 5)).alloc (Obj.cells #[.int .i64 3, .int .i64 0, .int .u32 0, .int .i64 4, .int .i64 (-1), .int .u32 1] 26) = x1
  have F1 := Lib.hid (show Fm w (.slice (some ⟨w0.heap.size, 0, none⟩) 2 2) [139, 28] (w0.heap.size + 1) ⟨3, 0, 0, 4, -1, 1⟩ x1 by rw [← hx1]; exact Fm.start (o := ⟨3, 0, 0, 4, -1, 1⟩) U1.out #[.int .u8 139, .int .u8 28] [139, 28] rfl (by simp [maxLen]))
  clear hx1 U1
  have co := cells_of F1.out.o
  unfold Opd.cells at co
  have fo := free_of F1.out.o
  go_upto_region 11 with (have _t := F1; clear _t; at_builtin; refine wpList_append_by rfl _ _ rfl w.heap.size _ [139, 28] rfl (F1.out.d.o.keep ((Upd.refl [] x1).alloc _) (by simp)) (.slice (some ⟨x1.heap.size, 0, none⟩) 1 1) [s] x1.heap.size rfl (byl_lit x1 [s] #[.int .u8 s] _ rfl) (by simp) (by have := F1.out.d.u.size; simp; omega) ?_; intro v2 x2 hg; obtain ⟨b2, c2, rfl⟩ := hg.form 3 rfl; have F2 := Lib.hid ((F1.out.step ((Upd.refl [] x1).alloc _)).grow hg); clear hg F1 co fo; have co := cells_of F2.out.o; unfold Opd.cells at co; have fo := free_of F2.out.o)
  have F3 := Lib.hid (((F2.out.set (o' := ⟨3, 0, 0, 5, -1, 1⟩) 3 (.int .i64 5) rfl).set (o' := ⟨3, 0, 0, 5, ix, 1⟩) 4 (.int .i64 ix) rfl).set (o' := ⟨3, 0, 0, 5, ix, sc⟩) 5 (.int .u32 sc) rfl)
  clear F2 co fo
  generalize hx3 : ((x2.setCell ⟨w0.heap.size + 1, 3, none⟩ _).setCell ⟨w0.heap.size + 1, 4, none⟩ _).setCell ⟨w0.heap.size + 1, 5, none⟩ _ = x3 at F3 ⊢
  clear hx3
  have co := cells_of F3.out.o
  unfold Opd.cells at co
  have fo := free_of F3.out.o
  go_upto_region 21 with (have _t := F3; clear _t; at_builtin; refine wpList_append_by rfl _ _ rfl w.heap.size _ [139, 28, s] rfl (F3.out.d.o.keep ((Upd.refl [] x3).alloc _) (by simp)) (.slice (some ⟨x3.heap.size, 0, none⟩) 4 4) [by0 v, by1 v, by2 v, by3 v] x3.heap.size rfl (byl_lit x3 [by0 v, by1 v, by2 v, by3 v] #[.int .u8 (by0 v), .int .u8 (by1 v), .int .u8 (by2 v), .int .u8 (by3 v)] _ rfl) (by simp) (by have := F3.out.d.u.size; simp; omega) ?_; intro v2 x4 hg; obtain ⟨b4, c4, rfl⟩ := hg.form 7 rfl; have F4 := Lib.hid ((F3.out.step ((Upd.refl [] x3).alloc _)).grow hg); clear hg F3 co fo; have co := cells_of F4.out.o; unfold Opd.cells at co; have fo := free_of F4.out.o)
  have F5 := Lib.hid ((F4.out.set (o' := ⟨3, 0, v, 5, ix, sc⟩) 2 (.int .u32 (v)) rfl).set (o' := ⟨3, 0, v, -1, ix, sc⟩) 3 (.int .i64 (-1)) rfl)
  clear F4 co fo
  generalize hx5 : (x4.setCell ⟨w0.heap.size + 1, 2, none⟩ _).setCell ⟨w0.heap.size + 1, 3, none⟩ _ = x5 at F5 ⊢
  clear hx5
  go_wp2_with (first | (have _t := F5; clear _t; go_at_call 12; obtain ⟨g5, hb5, _⟩ := F5.out.d.o.barg R.out (by simp [maxLen]); have HB5 := Lib.hid hb5; clear hb5; refine (Decode_any _ [139, 28, s, by0 v, by1 v, by2 v, by3 v] g5 _ HB5.out).mono ?_; rintro e w6 ⟨rfl, hu⟩; rw [D.out.1, D.out.2.1, D.out.2.2]; have V := Lib.hid (F5.out.step hu); clear hu F5) | (have _t := V; clear _t; refine at_store 28 rfl ?_; refine wpList_store_ins ⟨1, 0, regO 3, ⟨3, 0, v, -1, ix, sc⟩, false, 7⟩ w6.heap.size rfl _ _ rfl rfl rfl (heap_alloc_new w6 (.cells Ins.zero.cells 28)) rfl ?_; intro x7 hw; obtain ⟨z1, z2⟩ := ins_new (S := []) (w0 := w6) hw (heap_alloc_new w6 (.cells Ins.zero.cells 28)) rfl ((Upd.refl [] w6).alloc _) (.inr (Nat.le_refl _)); have G := Lib.hid (And.intro z1 (V.out.step z2)); have ci := cells_of G.out.1; unfold Ins.cells at ci; clear hw V z1 z2) | (have _t := G; clear _t; refine at_load 26 rfl ?_; first | refine wpList_load_opd_at (regO 3) w6.heap.size 2 rfl _ rfl rfl (opd_range G.out.1).1 ?_ | refine wpList_load_opd_at ⟨3, 0, v, -1, ix, sc⟩ w6.heap.size 8 rfl _ rfl rfl (opd_range G.out.1).2 ?_ | refine wpList_load_opd_at ⟨3, 0, v, -1, ix, sc⟩ (w0.heap.size + 1) 0 rfl _ rfl rfl (range_whole G.out.2.o) ?_))
  go_ret
  exact ⟨rfl, G.out.2.d.u⟩

set_option maxRecDepth 100000 in
set_option maxHeartbeats 2000000 in
theorem forms_none_x (o r : Int) (ho : o.tmod 4 = 0) (hr : r.tmod 8 = 4) (s : Int) (hs : 0 ≤ s ∧ s ≤ 255) (bs : Int) (hbs : s % 8 = bs) (hb5 : bs ≠ 5) (ix : Int) (hix : s / 8 % 8 = ix) (hx4 : ix ≠ 4) (z : Nat) (hz : s / 64 = z) (sc : Int) (hsc : scOf s = sc)  (v : Int) (hv : 0 ≤ v ∧ v < 4294967296) (w : World) :
    Calls Try.prog 5 #[.int .u8 o, .int .u8 r, .int .u8 s, .int .u32 v] w fun e w' => e = .returned (.bool true) ∧ Upd [] w w' := by
  have q1 : bits .or .u8 24 4 = 28 := by decide +kernel
  have q0 : bits .or .u8 0 24 = 24 := by decide +kernel
  have e5 : (bs == 5) = false := by simpa using hb5
  have qb : wrap64 bs = bs := by unfold wrap64; omega
  have qi : wrap64 ix = ix := by unfold wrap64; omega
  have qs : bits .and .u8 s 7 = bs := by rw [← hbs]; exact and7 s hs
  have e6 : (ix != 4) = true := by simpa using hx4
  have qz : IntKind.u64.wrap (z : Int) = z := by unfold IntKind.wrap; simp [IntKind.signed, IntKind.bits]; omega
  have hsc' : (2 : Int) ^ min z 32 % 4294967296 = sc := by
    rw [← hsc, scOf, hz, Int.toNat_natCast]
    rcases (show z = 0 ∨ z = 1 ∨ z = 2 ∨ z = 3 by omega) with rfl | rfl | rfl | rfl <;> rfl
  have qx : bits .and .u8 (s / 8) 7 = ix := by rw [← hix]; exact and7 _ (by omega)
  have hins : dcInsn [139, 28, s] 0 = .ok ⟨1, 0, regO 3, ⟨3, 0, 0, bs, ix, sc⟩, false, 0⟩ 3 := by
    have h := fm_head (28) 0 4 [s] (by decide) (by decide) (by omega)
    have p : dcPlace [139, 28, s] ⟨0, 3, 4⟩ 2 = .ok ⟨3, 0, 0, bs, ix, sc⟩ 3 := by
      rw [dcPlace, if_neg (show ¬ ((0 : Int) = 3) by decide), if_pos rfl, byte2, DR.bind_ok]
      rw [if_neg (by rw [hix]; exact hx4), if_neg (by rw [hix]; exact hx4), show (2 : Int) ^ (s / 64).toNat = sc from hsc]
      rw [hix, hbs]
      rw [dcTail, if_neg (show ¬ ((0 : Int) = 1) by decide), if_neg (show ¬ ((0 : Int) = 2) by decide), if_neg hb5]
    rw [p] at h
    exact h
  have D := Lib.hid (dec_of hins)
  have hq1 := fun w : World => show (binOp .eql 26 (.agg (regO 3).cells) (.agg #[.int .i64 1, .int .i64 3, .int .u32 0, .int .i64 0, .int .i64 0, .int .u32 0])).run Try.prog w = .ok (.bool true) w from by have := run_eql_opd (regO 3) (regO 3) w; rw [Opd.eqB_self] at this; exact this
  have hq2 := fun w : World => show (binOp .eql 26 (.agg (Opd.cells ⟨3, 0, 0, bs, ix, sc⟩)) (.agg (Opd.cells ⟨3, 0, 0, bs, ix, sc⟩))).run Try.prog w = .ok (.bool true) w from by have := run_eql_opd ⟨3, 0, 0, bs, ix, sc⟩ ⟨3, 0, 0, bs, ix, sc⟩ w; rw [Opd.eqB_self] at this; exact this
  have R := Lib.hid (show BOk [139, 28, s] from BOk.cons (by decide) (BOk.cons (by decide) (BOk.cons (by omega) (BOk.nil))))
  have e0 : v % 256 = by0 v := rfl
  have e1 : v / 256 % 256 = by1 v := rfl
  have e2 : v / 65536 % 256 = by2 v := rfl
  have e3 : v / 16777216 % 256 = by3 v := rfl
  have U0 := Lib.hid (Upd.refl [] w)
  clear hins hv hs hbs hix hx4 hsc hb5
  go_enter Try.func5, Try.ntmps5
  go_upto_region 6 with (go_at_call 11; refine (known10_any _).mono ?_; rintro e w0 ⟨rfl, hu⟩; have U1 := Lib.hid hu; clear hu U0)
  generalize hx1 : (w0.alloc (Obj.cells #[.int .u8 139, .int .u8 28] 5)).alloc (Obj.cells #[.int .i64 3, .int .i64 0, .int .u32 0, .int .i64 4, .int .i64 (-1), .int .u32 1] 26) = x1
  have F1 := Lib.hid (show Fm w (.slice (some ⟨w0.heap.size, 0, none⟩) 2 2) [139, 28] (w0.heap.size + 1) ⟨3, 0, 0, 4, -1, 1⟩ x1 by rw [← hx1]; exact Fm.start (o := ⟨3, 0, 0, 4, -1, 1⟩) U1.out #[.int .u8 139, .int .u8 28] [139, 28] rfl (by simp [maxLen]))
  clear hx1 U1
  have co := cells_of F1.out.o
  unfold Opd.cells at co
  have fo := free_of F1.out.o
  go_upto_region 11 with (have _t := F1; clear _t; at_builtin; refine wpList_append_by rfl _ _ rfl w.heap.size _ [139, 28] rfl (F1.out.d.o.keep ((Upd.refl [] x1).alloc _) (by simp)) (.slice (some ⟨x1.heap.size, 0, none⟩) 1 1) [s] x1.heap.size rfl (byl_lit x1 [s] #[.int .u8 s] _ rfl) (by simp) (by have := F1.out.d.u.size; simp; omega) ?_; intro v2 x2 hg; obtain ⟨b2, c2, rfl⟩ := hg.form 3 rfl; have F2 := Lib.hid ((F1.out.step ((Upd.refl [] x1).alloc _)).grow hg); clear hg F1 co fo; have co := cells_of F2.out.o; unfold Opd.cells at co; have fo := free_of F2.out.o)
  have F3 := Lib.hid (((F2.out.set (o' := ⟨3, 0, 0, bs, -1, 1⟩) 3 (.int .i64 bs) rfl).set (o' := ⟨3, 0, 0, bs, ix, 1⟩) 4 (.int .i64 ix) rfl).set (o' := ⟨3, 0, 0, bs, ix, sc⟩) 5 (.int .u32 sc) rfl)
  clear F2 co fo
  generalize hx3 : ((x2.setCell ⟨w0.heap.size + 1, 3, none⟩ _).setCell ⟨w0.heap.size + 1, 4, none⟩ _).setCell ⟨w0.heap.size + 1, 5, none⟩ _ = x3 at F3 ⊢
  clear hx3
  have co := cells_of F3.out.o
  unfold Opd.cells at co
  have fo := free_of F3.out.o
  go_upto_region 21 with fail
  go_wp2_with (first | (have _t := F3; clear _t; go_at_call 12; obtain ⟨g5, hb5, _⟩ := F3.out.d.o.barg R.out (by simp [maxLen]); have HB5 := Lib.hid hb5; clear hb5; refine (Decode_any _ [139, 28, s] g5 _ HB5.out).mono ?_; rintro e w6 ⟨rfl, hu⟩; rw [D.out.1, D.out.2.1, D.out.2.2]; have V := Lib.hid (F3.out.step hu); clear hu F3) | (have _t := V; clear _t; refine at_store 28 rfl ?_; refine wpList_store_ins ⟨1, 0, regO 3, ⟨3, 0, 0, bs, ix, sc⟩, false, 3⟩ w6.heap.size rfl _ _ rfl rfl rfl (heap_alloc_new w6 (.cells Ins.zero.cells 28)) rfl ?_; intro x7 hw; obtain ⟨z1, z2⟩ := ins_new (S := []) (w0 := w6) hw (heap_alloc_new w6 (.cells Ins.zero.cells 28)) rfl ((Upd.refl [] w6).alloc _) (.inr (Nat.le_refl _)); have G := Lib.hid (And.intro z1 (V.out.step z2)); have ci := cells_of G.out.1; unfold Ins.cells at ci; clear hw V z1 z2) | (have _t := G; clear _t; refine at_load 26 rfl ?_; first | refine wpList_load_opd_at (regO 3) w6.heap.size 2 rfl _ rfl rfl (opd_range G.out.1).1 ?_ | refine wpList_load_opd_at ⟨3, 0, 0, bs, ix, sc⟩ w6.heap.size 8 rfl _ rfl rfl (opd_range G.out.1).2 ?_ | refine wpList_load_opd_at ⟨3, 0, 0, bs, ix, sc⟩ (w0.heap.size + 1) 0 rfl _ rfl rfl (range_whole G.out.2.o) ?_))
  go_ret
  exact ⟨rfl, G.out.2.d.u⟩

end Go.Proofs.Ytpockhoacfkjaaa
