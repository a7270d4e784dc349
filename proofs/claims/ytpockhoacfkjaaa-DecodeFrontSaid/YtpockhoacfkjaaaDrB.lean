/-
  The law DecodeFront: the walk.
-/
import Derived.Test.YtpockhoacfkjaaaDrA
namespace Go.Proofs.Ytpockhoacfkjaaa
open Go Go.RowKit
set_option linter.unusedVariables false
set_option linter.unusedSimpArgs false

set_option maxRecDepth 100000 in
set_option maxHeartbeats 400000 in
theorem front_long1 (b : Option Addr) (n c : Nat) (mb : Option Addr) (m mc : Nat) (w : World) (hn : n ≤ maxLen) (hm : m ≤ maxLen) (h1 : 20 < n) :
    Calls Try.prog 4 #[.slice b n c, .slice mb m mc] w fun e w' => e = .returned (.bool true) ∧ Upd [] w w' := by
  have hn1 : decide ((20 : Int) < (n : Int)) = true := by simp; omega
  unfold maxLen at hn hm
  go_enter Try.func4, Try.ntmps4
  go_wp2_with (go_at_call 11; refine (known10_any _).mono ?_; rintro e w0 ⟨rfl, hu⟩; have U1 := Lib.hid hu; clear hu)
  go_ret
  exact ⟨rfl, U1.out⟩

set_option maxRecDepth 100000 in
set_option maxHeartbeats 400000 in
theorem front_long2 (b : Option Addr) (n c : Nat) (mb : Option Addr) (m mc : Nat) (w : World) (hn : n ≤ maxLen) (hm : m ≤ maxLen) (h1 : n ≤ 20) (h2 : 20 < m) :
    Calls Try.prog 4 #[.slice b n c, .slice mb m mc] w fun e w' => e = .returned (.bool true) ∧ Upd [] w w' := by
  have hn1 : decide ((20 : Int) < (n : Int)) = false := by simp; omega
  have hn2 : decide ((20 : Int) < (m : Int)) = true := by simp; omega
  unfold maxLen at hn hm
  go_enter Try.func4, Try.ntmps4
  go_wp2_with (go_at_call 11; refine (known10_any _).mono ?_; rintro e w0 ⟨rfl, hu⟩; have U1 := Lib.hid hu; clear hu)
  go_ret
  exact ⟨rfl, U1.out⟩

set_option maxRecDepth 100000 in
set_option maxHeartbeats 4000000 in
theorem front_short1_w (b : Option Addr) (c : Nat) (L : List Int) (g : Nat) (mb : Option Addr) (mc : Nat) (M : List Int) (mg : Nat) (w : World) (hb : BArg w (.slice b L.length c) L g) (hm : BArg w (.slice mb M.length mc) M mg) (h1 : L.length ≤ 20) (h2 : M.length ≤ 20) (he : decE L = 10) (hf : decE (L ++ M) ≠ 0) :
    Calls Try.prog 4 #[.slice b L.length c, .slice mb M.length mc] w fun e w' => e = .returned (.bool true) ∧ Upd [] w w' := by
  have hn1 : decide ((20 : Int) < (L.length : Int)) = false := by simp; omega
  have hn2 : decide ((20 : Int) < (M.length : Int)) = false := by simp; omega
  have B0 := Lib.hid hb
  have M0 := Lib.hid hm
  have hL := Lib.hid (show L.length ≤ 20 ∧ M.length ≤ 20 from ⟨h1, h2⟩)
  have R := Lib.hid (BOk.app hb.r hm.r)
  have U0 := Lib.hid (Upd.refl [] w)
  have e1 : (decE (L ++ M) != 0) = true := by simpa using hf
  clear hb hm h1 h2 hf
  go_enter Try.func4, Try.ntmps4
  go_wp2_with (first | (have _t := U0; clear _t; go_at_call 11; refine (known10_any _).mono ?_; rintro e w0 ⟨rfl, hu⟩; have U1 := Lib.hid hu; clear hu U0) | (have _t := U1; clear _t; go_at_call 12; refine (Decode_any (.slice b L.length c) L g _ (B0.out.keep U1.out)).mono ?_; rintro e w1 ⟨rfl, hu⟩; have V1 := Lib.hid (Fi.start (U1.out.also hu (by simp))); clear hu U1) | (have _t := V1; clear _t; refine at_store 28 rfl ?_; refine wpList_store_ins (decI L) w1.heap.size rfl _ _ rfl rfl rfl (heap_alloc_new w1 (.cells Ins.zero.cells 28)) rfl ?_; intro x1 hw; have G1 := Lib.hid (V1.out.ins hw); clear hw V1) | (have _t := G1; clear _t; at_builtin; refine wpList_append_by rfl _ _ rfl w.heap.size (.slice none 0 0) [] rfl (own_nil _ _) (.slice b L.length c) L g rfl (B0.out.b.keep G1.out.d.u (by simp)) (by have := hL.out; simp; omega) G1.out.d.u.size ?_; intro v2 y2 hg; have A1 := Lib.hid (show Fi w _ v2 L y2 from G1.out.grow hg); clear hg G1) | (have _t := A1; clear _t; at_builtin; refine wpList_append_by rfl _ _ rfl w.heap.size v2 L rfl A1.out.d.o (.slice mb M.length mc) M mg rfl (M0.out.b.keep A1.out.d.u (by simp)) (by have := hL.out; omega) A1.out.d.u.size ?_; intro v3 y3 hg; have A2 := Lib.hid (A1.out.grow hg); clear hg A1) | (have _t := A2; clear _t; go_at_call 12; obtain ⟨g3, hb3, _⟩ := A2.out.d.o.barg R.out (by have := hL.out; simp [maxLen]; omega); have HB3 := Lib.hid hb3; clear hb3; refine (Decode_any v3 (L ++ M) g3 _ HB3.out).mono ?_; rintro e w3 ⟨rfl, hu⟩; have V3 := Lib.hid (A2.out.step hu); clear hu A2) | (have _t := V3; clear _t; refine at_store 28 rfl ?_; refine wpList_store_ins (decI (L ++ M)) w3.heap.size rfl _ _ rfl rfl rfl (heap_alloc_new w3 (.cells Ins.zero.cells 28)) rfl ?_; intro x3 hw; have G3 := Lib.hid (V3.out.ins hw); clear hw V3))
  go_ret
  exact ⟨rfl, G3.out.d.u⟩

set_option maxRecDepth 100000 in
set_option maxHeartbeats 4000000 in
theorem front_short2_w (b : Option Addr) (c : Nat) (L : List Int) (g : Nat) (mb : Option Addr) (mc : Nat) (M : List Int) (mg : Nat) (w : World) (hb : BArg w (.slice b L.length c) L g) (hm : BArg w (.slice mb M.length mc) M mg) (h1 : L.length ≤ 20) (h2 : M.length ≤ 20) (he : decE L = 10) (hf : decE (L ++ M) = 0) (hm2 : (L.length : Int) < decN (L ++ M)) :
    Calls Try.prog 4 #[.slice b L.length c, .slice mb M.length mc] w fun e w' => e = .returned (.bool true) ∧ Upd [] w w' := by
  have hn1 : decide ((20 : Int) < (L.length : Int)) = false := by simp; omega
  have hn2 : decide ((20 : Int) < (M.length : Int)) = false := by simp; omega
  have B0 := Lib.hid hb
  have M0 := Lib.hid hm
  have hL := Lib.hid (show L.length ≤ 20 ∧ M.length ≤ 20 from ⟨h1, h2⟩)
  have R := Lib.hid (BOk.app hb.r hm.r)
  have U0 := Lib.hid (Upd.refl [] w)
  have e1 : (decE (L ++ M) != 0) = false := by simp [hf]
  have e2 : decide ((L.length : Int) < decN (L ++ M)) = true := by simpa using hm2
  clear hb hm h1 h2 hf hm2
  go_enter Try.func4, Try.ntmps4
  go_wp2_with (first | (have _t := U0; clear _t; go_at_call 11; refine (known10_any _).mono ?_; rintro e w0 ⟨rfl, hu⟩; have U1 := Lib.hid hu; clear hu U0) | (have _t := U1; clear _t; go_at_call 12; refine (Decode_any (.slice b L.length c) L g _ (B0.out.keep U1.out)).mono ?_; rintro e w1 ⟨rfl, hu⟩; have V1 := Lib.hid (Fi.start (U1.out.also hu (by simp))); clear hu U1) | (have _t := V1; clear _t; refine at_store 28 rfl ?_; refine wpList_store_ins (decI L) w1.heap.size rfl _ _ rfl rfl rfl (heap_alloc_new w1 (.cells Ins.zero.cells 28)) rfl ?_; intro x1 hw; have G1 := Lib.hid (V1.out.ins hw); clear hw V1) | (have _t := G1; clear _t; at_builtin; refine wpList_append_by rfl _ _ rfl w.heap.size (.slice none 0 0) [] rfl (own_nil _ _) (.slice b L.length c) L g rfl (B0.out.b.keep G1.out.d.u (by simp)) (by have := hL.out; simp; omega) G1.out.d.u.size ?_; intro v2 y2 hg; have A1 := Lib.hid (show Fi w _ v2 L y2 from G1.out.grow hg); clear hg G1) | (have _t := A1; clear _t; at_builtin; refine wpList_append_by rfl _ _ rfl w.heap.size v2 L rfl A1.out.d.o (.slice mb M.length mc) M mg rfl (M0.out.b.keep A1.out.d.u (by simp)) (by have := hL.out; omega) A1.out.d.u.size ?_; intro v3 y3 hg; have A2 := Lib.hid (A1.out.grow hg); clear hg A1) | (have _t := A2; clear _t; go_at_call 12; obtain ⟨g3, hb3, _⟩ := A2.out.d.o.barg R.out (by have := hL.out; simp [maxLen]; omega); have HB3 := Lib.hid hb3; clear hb3; refine (Decode_any v3 (L ++ M) g3 _ HB3.out).mono ?_; rintro e w3 ⟨rfl, hu⟩; have V3 := Lib.hid (A2.out.step hu); clear hu A2) | (have _t := V3; clear _t; refine at_store 28 rfl ?_; refine wpList_store_ins (decI (L ++ M)) w3.heap.size rfl _ _ rfl rfl rfl (heap_alloc_new w3 (.cells Ins.zero.cells 28)) rfl ?_; intro x3 hw; have G3 := Lib.hid (V3.out.ins hw); clear hw V3))
  go_ret
  exact ⟨rfl, G3.out.d.u⟩

set_option maxRecDepth 100000 in
set_option maxHeartbeats 4000000 in
theorem front_err_w (b : Option Addr) (c : Nat) (L : List Int) (g : Nat) (mb : Option Addr) (mc : Nat) (M : List Int) (mg : Nat) (w : World) (hb : BArg w (.slice b L.length c) L g) (hm : BArg w (.slice mb M.length mc) M mg) (h1 : L.length ≤ 20) (h2 : M.length ≤ 20) (x : Int) (hd : dcInsn L 0 = .err x) (hc10 : x ≠ 10) (hc0 : x ≠ 0) :
    Calls Try.prog 4 #[.slice b L.length c, .slice mb M.length mc] w fun e w' => e = .returned (.bool true) ∧ Upd [] w w' := by
  have hn1 : decide ((20 : Int) < (L.length : Int)) = false := by simp; omega
  have hn2 : decide ((20 : Int) < (M.length : Int)) = false := by simp; omega
  have B0 := Lib.hid hb
  have M0 := Lib.hid hm
  have hL := Lib.hid (show L.length ≤ 20 ∧ M.length ≤ 20 from ⟨h1, h2⟩)
  have R := Lib.hid (BOk.app hb.r hm.r)
  have U0 := Lib.hid (Upd.refl [] w)
  have DE := Lib.hid (dec_err hd)
  have FS := Lib.hid (front_same L M (by rw [DE.out.2.2]; exact hc10))
  have ec : (x == 10) = false := by simpa using hc10
  have ec0 : (x != 0) = true := by simpa using hc0
  have hq := fun w : World => show (binOp .neq 28 (.agg Ins.zero.cells) (.agg Ins.zero.cells)).run Try.prog w = .ok (.bool false) w from by have := run_neq_ins Ins.zero Ins.zero w; rw [Ins.eqB_self] at this; exact this
  have hq0 := fun w : World => show (binOp .eql 28 (.agg Ins.zero.cells) (.agg #[.int .i64 0, .int .i64 0, .int .i64 0, .int .i64 0, .int .u32 0, .int .i64 0, .int .i64 0, .int .u32 0, .int .i64 0, .int .i64 0, .int .u32 0, .int .i64 0, .int .i64 0, .int .u32 0, .bool false, .int .i64 0])).run Try.prog w = .ok (.bool true) w from by have := run_eql_ins Ins.zero Ins.zero w; rw [Ins.eqB_self] at this; exact this
  clear hb hm h1 h2 hc10 hc0 hd
  go_enter Try.func4, Try.ntmps4
  go_wp2_with (first | (have _t := U0; clear _t; go_at_call 11; refine (known10_any _).mono ?_; rintro e w0 ⟨rfl, hu⟩; have U1 := Lib.hid hu; clear hu U0) | (have _t := U1; clear _t; go_at_call 12; refine (Decode_any (.slice b L.length c) L g _ (B0.out.keep U1.out)).mono ?_; rintro e w1 ⟨rfl, hu⟩; rw [DE.out.1, DE.out.2.1, DE.out.2.2]; have V1 := Lib.hid (Fi.start (U1.out.also hu (by simp))); clear hu U1) | (have _t := V1; clear _t; refine at_store 28 rfl ?_; refine wpList_store_ins Ins.zero w1.heap.size rfl _ _ rfl rfl rfl (heap_alloc_new w1 (.cells Ins.zero.cells 28)) rfl ?_; intro x1 hw; have G1 := Lib.hid (V1.out.ins hw); clear hw V1) | (have _t := G1; clear _t; at_builtin; refine wpList_append_by rfl _ _ rfl w.heap.size (.slice none 0 0) [] rfl (own_nil _ _) (.slice b L.length c) L g rfl (B0.out.b.keep G1.out.d.u (by simp)) (by have := hL.out; simp; omega) G1.out.d.u.size ?_; intro v2 y2 hg; have A1 := Lib.hid (show Fi w _ v2 L y2 from G1.out.grow hg); clear hg G1) | (have _t := A1; clear _t; at_builtin; refine wpList_append_by rfl _ _ rfl w.heap.size v2 L rfl A1.out.d.o (.slice mb M.length mc) M mg rfl (M0.out.b.keep A1.out.d.u (by simp)) (by have := hL.out; omega) A1.out.d.u.size ?_; intro v3 y3 hg; have A2 := Lib.hid (A1.out.grow hg); clear hg A1) | (have _t := A2; clear _t; go_at_call 12; obtain ⟨g3, hb3, _⟩ := A2.out.d.o.barg R.out (by have := hL.out; simp [maxLen]; omega); have HB3 := Lib.hid hb3; clear hb3; refine (Decode_any v3 (L ++ M) g3 _ HB3.out).mono ?_; rintro e w3 ⟨rfl, hu⟩; rw [FS.out.1, FS.out.2.1, FS.out.2.2, DE.out.1, DE.out.2.1, DE.out.2.2]; have V3 := Lib.hid (A2.out.step hu); clear hu A2) | (have _t := V3; clear _t; refine at_store 28 rfl ?_; refine wpList_store_ins Ins.zero w3.heap.size rfl _ _ rfl rfl rfl (heap_alloc_new w3 (.cells Ins.zero.cells 28)) rfl ?_; intro x3 hw; have G3 := Lib.hid (V3.out.ins hw); clear hw V3) | (have _t := G3; clear _t; refine at_load 28 rfl ?_; first | refine wpList_load_ins_g Ins.zero w3.heap.size rfl _ rfl rfl (G3.out.i (w3.heap.size, Ins.zero) (by simp)) ?_ | refine wpList_load_ins_g Ins.zero w1.heap.size rfl _ rfl rfl (G3.out.i (w1.heap.size, Ins.zero) (by simp)) ?_))
  go_ret
  exact ⟨rfl, G3.out.d.u⟩

set_option maxRecDepth 100000 in
set_option maxHeartbeats 4000000 in
theorem front_ok_w (b : Option Addr) (c : Nat) (L : List Int) (g : Nat) (mb : Option Addr) (mc : Nat) (M : List Int) (mg : Nat) (w : World) (hb : BArg w (.slice b L.length c) L g) (hm : BArg w (.slice mb M.length mc) M mg) (h1 : L.length ≤ 20) (h2 : M.length ≤ 20) (i : Ins) (k : Nat) (hd : dcInsn L 0 = .ok i k) :
    Calls Try.prog 4 #[.slice b L.length c, .slice mb M.length mc] w fun e w' => e = .returned (.bool true) ∧ Upd [] w w' := by
  have hn1 : decide ((20 : Int) < (L.length : Int)) = false := by simp; omega
  have hn2 : decide ((20 : Int) < (M.length : Int)) = false := by simp; omega
  have B0 := Lib.hid hb
  have M0 := Lib.hid hm
  have hL := Lib.hid (show L.length ≤ 20 ∧ M.length ≤ 20 from ⟨h1, h2⟩)
  have R := Lib.hid (BOk.app hb.r hm.r)
  have U0 := Lib.hid (Upd.refl [] w)
  have DE := Lib.hid (show decI L = ⟨i.op, i.cond, i.a, i.b, i.rep, k⟩ ∧ decN L = k ∧ decE L = 0 from dec_of hd)
  have FS := Lib.hid (front_same L M (by rw [DE.out.2.2]; decide))
  obtain ⟨k1, k15, kL, kt⟩ := front_ok hd
  have HK := Lib.hid kt
  have hq := fun w : World => show (binOp .neq 28 (.agg (Ins.cells ⟨i.op, i.cond, i.a, i.b, i.rep, k⟩)) (.agg (Ins.cells ⟨i.op, i.cond, i.a, i.b, i.rep, k⟩))).run Try.prog w = .ok (.bool false) w from by have := run_neq_ins ⟨i.op, i.cond, i.a, i.b, i.rep, k⟩ ⟨i.op, i.cond, i.a, i.b, i.rep, k⟩ w; rw [Ins.eqB_self] at this; exact this
  have hk1 : decide ((1 : Int) ≤ (k : Int)) = true := by simp; omega
  have hk15 : decide ((k : Int) ≤ 15) = true := by simp; omega
  have hcap := hb.c _ _ _ rfl
  have HL := Lib.hid (And.intro k1 (And.intro k15 (And.intro kL hcap)))
  clear hb hm h1 h2 hd kt k1 k15 kL hcap
  go_enter Try.func4, Try.ntmps4
  go_wp2_with (first | (have _t := U0; clear _t; go_at_call 11; refine (known10_any _).mono ?_; rintro e w0 ⟨rfl, hu⟩; have U1 := Lib.hid hu; clear hu U0) | (have _t := U1; clear _t; go_at_call 12; refine (Decode_any (.slice b L.length c) L g _ (B0.out.keep U1.out)).mono ?_; rintro e w1 ⟨rfl, hu⟩; rw [DE.out.1, DE.out.2.1, DE.out.2.2]; have V1 := Lib.hid (Fi.start (U1.out.also hu (by simp))); clear hu U1) | (have _t := V1; clear _t; refine at_store 28 rfl ?_; refine wpList_store_ins ⟨i.op, i.cond, i.a, i.b, i.rep, k⟩ w1.heap.size rfl _ _ rfl rfl rfl (heap_alloc_new w1 (.cells Ins.zero.cells 28)) rfl ?_; intro x1 hw; have G1 := Lib.hid (V1.out.ins hw); clear hw V1) | (have _t := G1; clear _t; at_builtin; refine wpList_append_by rfl _ _ rfl w.heap.size (.slice none 0 0) [] rfl (own_nil _ _) (.slice b L.length c) L g rfl (B0.out.b.keep G1.out.d.u (by simp)) (by have := hL.out; simp; omega) G1.out.d.u.size ?_; intro v2 y2 hg; have A1 := Lib.hid (show Fi w _ v2 L y2 from G1.out.grow hg); clear hg G1) | (have _t := A1; clear _t; at_builtin; refine wpList_append_by rfl _ _ rfl w.heap.size v2 L rfl A1.out.d.o (.slice mb M.length mc) M mg rfl (M0.out.b.keep A1.out.d.u (by simp)) (by have := hL.out; omega) A1.out.d.u.size ?_; intro v3 y3 hg; have A2 := Lib.hid (A1.out.grow hg); clear hg A1) | (have _t := A2; clear _t; go_at_call 12; obtain ⟨g3, hb3, _⟩ := A2.out.d.o.barg R.out (by have := hL.out; simp [maxLen]; omega); have HB3 := Lib.hid hb3; clear hb3; refine (Decode_any v3 (L ++ M) g3 _ HB3.out).mono ?_; rintro e w3 ⟨rfl, hu⟩; rw [FS.out.1, FS.out.2.1, FS.out.2.2, DE.out.1, DE.out.2.1, DE.out.2.2]; have V3 := Lib.hid (A2.out.step hu); clear hu A2) | (have _t := V3; clear _t; refine at_store 28 rfl ?_; refine wpList_store_ins ⟨i.op, i.cond, i.a, i.b, i.rep, k⟩ w3.heap.size rfl _ _ rfl rfl rfl (heap_alloc_new w3 (.cells Ins.zero.cells 28)) rfl ?_; intro x3 hw; have G3 := Lib.hid (V3.out.ins hw); clear hw V3) | (have _t := G3; clear _t; refine at_load 28 rfl ?_; first | refine wpList_load_ins_g ⟨i.op, i.cond, i.a, i.b, i.rep, k⟩ w3.heap.size rfl _ rfl rfl (G3.out.i (w3.heap.size, ⟨i.op, i.cond, i.a, i.b, i.rep, k⟩) (by simp)) ?_ | refine wpList_load_ins_g ⟨i.op, i.cond, i.a, i.b, i.rep, k⟩ w1.heap.size rfl _ rfl rfl (G3.out.i (w1.heap.size, ⟨i.op, i.cond, i.a, i.b, i.rep, k⟩) (by simp)) ?_))
  go_loopw [11] (fun t wl => ∃ j : Nat, j ≤ k ∧ t = .int .i64 j ∧ Fi w [(w3.heap.size, ⟨i.op, i.cond, i.a, i.b, i.rep, k⟩), (w1.heap.size, ⟨i.op, i.cond, i.a, i.b, i.rep, k⟩)] v3 (L ++ M) wl) (fun t wl => k - (intOf t).toNat)
  case atStart => exact ⟨0, Nat.zero_le _, rfl, G3.out⟩
  case round =>
    obtain ⟨j, hj, rfl, hF⟩ := hrel
    have HF := Lib.hid hF
    clear hF G3
    by_cases hlt : j < k
    · have HE := Lib.hid (HK.out j hlt)
      have hjc : (j : Int) ≤ (c : Int) := by have := HL.out; omega
      have hjk : decide ((j : Int) < (k : Int)) = true := by simp; omega
      have hj15 : (j : Int) < 15 := by have := HL.out; omega
      go_wp2_with (first | (have _t := HF; clear _t; go_at_call 12; refine (Decode_any (.slice b j c) (L.take j) g _ ((B0.out.cut j (by have := HL.out; omega)).keep HF.out.d.u)).mono ?_; rintro e w5 ⟨rfl, hu⟩; rw [HE.out]; have VF := Lib.hid (HF.out.step hu); clear hu HF) | (have _t := VF; clear _t; refine at_store 28 rfl ?_; refine wpList_store_ins (decI (L.take j)) w5.heap.size rfl _ _ rfl rfl rfl (heap_alloc_new w5 (.cells Ins.zero.cells 28)) rfl ?_; intro x5 hw; have GF := Lib.hid (VF.out.insD hw); clear hw VF))
      go_roundw
      case rel => exact ⟨j + 1, by omega, by go_num, GF.out⟩
      case measure => simp [intOf]; omega
    · obtain rfl : j = k := by omega
      have hjk : decide ((j : Int) < (j : Int)) = false := by simp
      have ci := cells_of (HF.out.i (w1.heap.size, ⟨i.op, i.cond, i.a, i.b, i.rep, j⟩) (by simp))
      unfold Ins.cells at ci
      go_wp2_with fail
      go_ret
      exact ⟨rfl, HF.out.d.u⟩

theorem DecodeFront_walk (v u : Value) (L M : List Int) (g mg : Nat) (w : World) (hb : BArg w v L g) (hm : BArg w u M mg) :
    Calls Try.prog 4 #[v, u] w fun e w' => e = .returned (.bool true) ∧ Upd [] w w' := by
  obtain ⟨b, c, rfl⟩ := hb.b.form
  obtain ⟨mb, mc, rfl⟩ := hm.b.form
  by_cases h1 : 20 < L.length
  · exact front_long1 b _ c mb _ mc w hb.n hm.n h1
  by_cases h2 : 20 < M.length
  · exact front_long2 b _ c mb _ mc w hb.n hm.n (by omega) h2
  have h1' : L.length ≤ 20 := by omega
  have h2' : M.length ≤ 20 := by omega
  cases hd : dcInsn L 0 with
  | ok i k => exact front_ok_w b c L g mb mc M mg w hb hm h1' h2' i k hd
  | err x =>
    have hx := loc_insn L 0 (Nat.zero_le _)
    rw [hd] at hx
    have hx0 : 10 ≤ x := hx.1
    by_cases h10 : x = 10
    · subst h10
      have he : decE L = 10 := (dec_err hd).2.2
      rcases front_short L M he with h | h
      · exact front_short1_w b c L g mb mc M mg w hb hm h1' h2' he h
      · by_cases hf : decE (L ++ M) = 0
        · exact front_short2_w b c L g mb mc M mg w hb hm h1' h2' he hf h
        · exact front_short1_w b c L g mb mc M mg w hb hm h1' h2' he hf
    · exact front_err_w b c L g mb mc M mg w hb hm h1' h2' x hd h10 (by omega)
end Go.Proofs.Ytpockhoacfkjaaa
