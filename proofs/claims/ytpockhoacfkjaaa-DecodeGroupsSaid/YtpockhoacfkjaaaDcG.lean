/-
  Package decode: lays, shift: each by its contract.
-/
import Derived.Test.YtpockhoacfkjaaaDcF
namespace Go.Proofs.Ytpockhoacfkjaaa
open Go Go.RowKit
set_option linter.unusedVariables false
set_option linter.unusedSimpArgs false

set_option maxRecDepth 100000 in
set_option maxHeartbeats 2000000 in
theorem lays_1 (d g k : Nat) (v : Value) (L : List Int) (w : World) (hD : IsDec w d v L g k) (c e : Int) (h1 : dcMrm L k = .err e) :
    Calls Try.prog 79 #[.pointer (some ⟨d, 0, none⟩), .int .u8 c] w (DAns d v L g w (.err e) Ins.val) := by
  have HD := Lib.hid hD
  have S1 := Lib.hid (RS.start hD)
  have HP2 := Lib.hid (fun (w1 : World) (hd1 : IsDec w1 d v L g k) => by have := modrm_any d g k v L w1 hd1; rw [h1] at this; exact this)
  clear hD h1
  go_enter Try.func79, Try.ntmps79
  go_wp2_with (have _t := S1; clear _t; go_at_call 73; refine (HP2.out _ (S1.out).dd).mono ?_; rintro e w2 ⟨rfl, hu⟩)
  exact ⟨rfl, rfl, (S1.out).uu.also hu (by simp)⟩

set_option maxRecDepth 100000 in
set_option maxHeartbeats 2000000 in
theorem lays_2 (d g k : Nat) (v : Value) (L : List Int) (w : World) (hD : IsDec w d v L g k) (c : Int) (m : Mrm) (k1 : Nat) (h1 : dcMrm L k = .ok m k1) (h2 : m.reg ≠ 0) :
    Calls Try.prog 79 #[.pointer (some ⟨d, 0, none⟩), .int .u8 c] w (DAns d v L g w (.err 90) Ins.val) := by
  have HD := Lib.hid hD
  have S1 := Lib.hid (RS.start hD)
  have e2 : (m.reg != 0) = true := by simpa using h2
  have HP2 := Lib.hid (fun (w1 : World) (hd1 : IsDec w1 d v L g k) => by have := modrm_any d g k v L w1 hd1; rw [h1] at this; exact this)
  clear hD h1 h2
  go_enter Try.func79, Try.ntmps79
  go_wp2_with (have _t := S1; clear _t; go_at_call 73; refine (HP2.out _ (S1.out).dd).mono ?_; rintro e w2 ⟨rfl, hD2, hu⟩; unfold Mrm.cells; have S2 := Lib.hid ((S1.out).step hD2 hu); clear hD2 hu S1)
  exact ⟨rfl, rfl, ((S2.out).same ((Upd.refl [] w2).alloc (.cells m.cells 119))).uu⟩

set_option maxRecDepth 100000 in
set_option maxHeartbeats 2000000 in
theorem lays_3 (d g k : Nat) (v : Value) (L : List Int) (w : World) (hD : IsDec w d v L g k) (c e : Int) (m : Mrm) (k1 : Nat) (h1 : dcMrm L k = .ok m k1) (h2 : m.reg = 0) (h3 : dcOne L 1 m k1 = .err e) :
    Calls Try.prog 79 #[.pointer (some ⟨d, 0, none⟩), .int .u8 c] w (DAns d v L g w (.err e) Ins.val) := by
  have HD := Lib.hid hD
  have S1 := Lib.hid (RS.start hD)
  have e2 : (m.reg != 0) = false := by simp [h2]
  have hok := dcMrm_ok hD.r h1
  have HP2 := Lib.hid (fun (w1 : World) (hd1 : IsDec w1 d v L g k) => by have := modrm_any d g k v L w1 hd1; rw [h1] at this; exact this)
  have HP3 := Lib.hid (fun (w1 : World) (hd1 : IsDec w1 d v L g k1) => by have := one_any d g k1 v L 1 m w1 hd1 hok; rw [h3] at this; exact this)
  clear hD h1 h2 h3 hok
  go_enter Try.func79, Try.ntmps79
  go_wp2_with (first | (have _t := S1; clear _t; go_at_call 73; refine (HP2.out _ (S1.out).dd).mono ?_; rintro e w2 ⟨rfl, hD2, hu⟩; unfold Mrm.cells; have S2 := Lib.hid ((S1.out).step hD2 hu); clear hD2 hu S1) | (have _t := S2; clear _t; go_at_call 74; refine (HP3.out _ ((S2.out).same ((Upd.refl [] w2).alloc (.cells m.cells 119))).dd).mono ?_; rintro e w3 ⟨rfl, hu⟩))
  exact ⟨rfl, rfl, ((S2.out).same ((Upd.refl [] w2).alloc (.cells m.cells 119))).uu.also hu (by simp)⟩

set_option maxRecDepth 100000 in
set_option maxHeartbeats 2000000 in
theorem lays_4 (d g k : Nat) (v : Value) (L : List Int) (w : World) (hD : IsDec w d v L g k) (c e : Int) (m : Mrm) (k1 : Nat) (h1 : dcMrm L k = .ok m k1) (h2 : m.reg = 0) (o : Opd) (k2 : Nat) (h3 : dcOne L 1 m k1 = .ok ⟨1, 0, o, Opd.none, false, 0⟩ k2) (hc : c = 199) (h4 : dcImm32 L k2 = .err e) :
    Calls Try.prog 79 #[.pointer (some ⟨d, 0, none⟩), .int .u8 c] w (DAns d v L g w (.err e) Ins.val) := by
  have HD := Lib.hid hD
  have S1 := Lib.hid (RS.start hD)
  have e2 : (m.reg != 0) = false := by simp [h2]
  have hok := dcMrm_ok hD.r h1
  have ec : (c == 199) = true := by simpa using hc
  have HP2 := Lib.hid (fun (w1 : World) (hd1 : IsDec w1 d v L g k) => by have := modrm_any d g k v L w1 hd1; rw [h1] at this; exact this)
  have HP3 := Lib.hid (fun (w1 : World) (hd1 : IsDec w1 d v L g k1) => by have := one_any d g k1 v L 1 m w1 hd1 hok; rw [h3] at this; exact this)
  have HP5 := Lib.hid (fun (w1 : World) (hd1 : IsDec w1 d v L g k2) => by have := imm32_any d g k2 v L w1 hd1; rw [h4] at this; exact this)
  clear hD h1 h2 h3 h4 hok hc
  go_enter Try.func79, Try.ntmps79
  go_wp2_with (first | (have _t := S1; clear _t; go_at_call 73; refine (HP2.out _ (S1.out).dd).mono ?_; rintro e w2 ⟨rfl, hD2, hu⟩; unfold Mrm.cells; have S2 := Lib.hid ((S1.out).step hD2 hu); clear hD2 hu S1) | (have _t := S2; clear _t; go_at_call 74; refine (HP3.out _ ((S2.out).same ((Upd.refl [] w2).alloc (.cells m.cells 119))).dd).mono ?_; rintro e w3 ⟨rfl, hD3, hu⟩; have S3 := Lib.hid (((S2.out).same ((Upd.refl [] w2).alloc (.cells m.cells 119))).step hD3 hu); clear hD3 hu S2) | (have _t := S3; clear _t; refine at_store 28 rfl ?_; refine wpList_store_ins ⟨1, 0, o, Opd.none, false, 0⟩ w3.heap.size rfl _ _ rfl rfl rfl (heap_alloc_new w3 (.cells Ins.zero.cells 28)) rfl ?_; intro w4 hw; have h := ins_new (S := [w3.heap.size]) (w0 := w3.alloc (.cells Ins.zero.cells 28)) hw (heap_alloc_new w3 (.cells Ins.zero.cells 28)) rfl (Upd.refl _ _) (.inl (by simp)); have HN := Lib.hid (And.intro (S3.out).lt (And.intro (lt_of_heap (S3.out).dd.h) (S3.out).nn)); have S4 := Lib.hid (((S3.out).same ((Upd.refl [] w3).alloc (.cells Ins.zero.cells 28))).far HD.out h.2 (S3.out).lt); have HI4 := Lib.hid h.1; clear hw h S3) | (have _t := S4; clear _t; go_at_call 44; refine (HP5.out _ (S4.out).dd).mono ?_; rintro e w5 ⟨rfl, hu⟩))
  exact ⟨rfl, rfl, (S4.out).uu.also hu (by simp)⟩

set_option maxRecDepth 100000 in
set_option maxHeartbeats 2000000 in
theorem lays_5 (d g k : Nat) (v : Value) (L : List Int) (w : World) (hD : IsDec w d v L g k) (c : Int) (m : Mrm) (k1 : Nat) (h1 : dcMrm L k = .ok m k1) (h2 : m.reg = 0) (o : Opd) (k2 : Nat) (h3 : dcOne L 1 m k1 = .ok ⟨1, 0, o, Opd.none, false, 0⟩ k2) (hc : c = 199) (o2 : Opd) (k3 : Nat) (h4 : dcImm32 L k2 = .ok o2 k3) :
    Calls Try.prog 79 #[.pointer (some ⟨d, 0, none⟩), .int .u8 c] w (DAns d v L g w (.ok ⟨1, 0, o, o2, false, 0⟩ k3) Ins.val) := by
  have HD := Lib.hid hD
  have S1 := Lib.hid (RS.start hD)
  have e2 : (m.reg != 0) = false := by simp [h2]
  have hok := dcMrm_ok hD.r h1
  have ec : (c == 199) = true := by simpa using hc
  have HP2 := Lib.hid (fun (w1 : World) (hd1 : IsDec w1 d v L g k) => by have := modrm_any d g k v L w1 hd1; rw [h1] at this; exact this)
  have HP3 := Lib.hid (fun (w1 : World) (hd1 : IsDec w1 d v L g k1) => by have := one_any d g k1 v L 1 m w1 hd1 hok; rw [h3] at this; exact this)
  have HP5 := Lib.hid (fun (w1 : World) (hd1 : IsDec w1 d v L g k2) => by have := imm32_any d g k2 v L w1 hd1; rw [h4] at this; exact this)
  clear hD h1 h2 h3 h4 hok hc
  go_enter Try.func79, Try.ntmps79
  go_wp2_with (first | (have _t := S1; clear _t; go_at_call 73; refine (HP2.out _ (S1.out).dd).mono ?_; rintro e w2 ⟨rfl, hD2, hu⟩; unfold Mrm.cells; have S2 := Lib.hid ((S1.out).step hD2 hu); clear hD2 hu S1) | (have _t := S2; clear _t; go_at_call 74; refine (HP3.out _ ((S2.out).same ((Upd.refl [] w2).alloc (.cells m.cells 119))).dd).mono ?_; rintro e w3 ⟨rfl, hD3, hu⟩; have S3 := Lib.hid (((S2.out).same ((Upd.refl [] w2).alloc (.cells m.cells 119))).step hD3 hu); clear hD3 hu S2) | (have _t := S3; clear _t; refine at_store 28 rfl ?_; refine wpList_store_ins ⟨1, 0, o, Opd.none, false, 0⟩ w3.heap.size rfl _ _ rfl rfl rfl (heap_alloc_new w3 (.cells Ins.zero.cells 28)) rfl ?_; intro w4 hw; have h := ins_new (S := [w3.heap.size]) (w0 := w3.alloc (.cells Ins.zero.cells 28)) hw (heap_alloc_new w3 (.cells Ins.zero.cells 28)) rfl (Upd.refl _ _) (.inl (by simp)); have HN := Lib.hid (And.intro (S3.out).lt (And.intro (lt_of_heap (S3.out).dd.h) (S3.out).nn)); have S4 := Lib.hid (((S3.out).same ((Upd.refl [] w3).alloc (.cells Ins.zero.cells 28))).far HD.out h.2 (S3.out).lt); have HI4 := Lib.hid h.1; clear hw h S3) | (have _t := S4; clear _t; go_at_call 44; refine (HP5.out _ (S4.out).dd).mono ?_; rintro e w5 ⟨rfl, hD5, hu⟩; have S5 := Lib.hid ((S4.out).step hD5 hu); have HI5 := Lib.hid (hu.get (HI4.out) (by have := HN.out; simp; omega)); clear hD5 hu S4) | (have _t := S5; clear _t; refine at_store 26 rfl ?_; refine wpList_store_opd o2 w3.heap.size 8 rfl _ _ rfl rfl rfl (HI5.out) (by rw [Ins.size]; decide) ?_; intro w6 hw; have h := ins_newB hw (HI5.out); have S6 := Lib.hid ((S5.out).far HD.out h.2 HN.out.1); have HI6 := Lib.hid h.1; clear hw h S5 HI5) | (have _t := HI6; clear _t; refine at_load 28 rfl ?_; refine wpList_load_ins ⟨1, 0, o, o2, false, 0⟩ w3.heap.size rfl _ rfl rfl (HI6.out) ?_) | (have _t := S6; clear _t; refine at_store 28 rfl ?_; refine wpList_store_ins ⟨1, 0, o, o2, false, 0⟩ w.heap.size rfl _ _ rfl rfl rfl (S6.out).rr rfl ?_; intro w7 hw; have S7 := Lib.hid ((S6.out).store HD.out rfl hw); clear hw S6))
  exact bodyPost_ret (results_one' rfl (res_ins 4 w.heap.size _ rfl S7.out.rr)) rfl ⟨rfl, S7.out.dd, S7.out.uu⟩

set_option maxRecDepth 100000 in
set_option maxHeartbeats 2000000 in
theorem lays_6 (d g k : Nat) (v : Value) (L : List Int) (w : World) (hD : IsDec w d v L g k) (c e : Int) (m : Mrm) (k1 : Nat) (h1 : dcMrm L k = .ok m k1) (h2 : m.reg = 0) (o : Opd) (k2 : Nat) (h3 : dcOne L 1 m k1 = .ok ⟨1, 0, o, Opd.none, false, 0⟩ k2) (hc : c ≠ 199) (h4 : dcSmall L k2 = .err e) :
    Calls Try.prog 79 #[.pointer (some ⟨d, 0, none⟩), .int .u8 c] w (DAns d v L g w (.err e) Ins.val) := by
  have HD := Lib.hid hD
  have S1 := Lib.hid (RS.start hD)
  have e2 : (m.reg != 0) = false := by simp [h2]
  have hok := dcMrm_ok hD.r h1
  have ec : (c == 199) = false := by simpa using hc
  have HP2 := Lib.hid (fun (w1 : World) (hd1 : IsDec w1 d v L g k) => by have := modrm_any d g k v L w1 hd1; rw [h1] at this; exact this)
  have HP3 := Lib.hid (fun (w1 : World) (hd1 : IsDec w1 d v L g k1) => by have := one_any d g k1 v L 1 m w1 hd1 hok; rw [h3] at this; exact this)
  have HP5 := Lib.hid (fun (w1 : World) (hd1 : IsDec w1 d v L g k2) => by have := small_any d g k2 v L w1 hd1; rw [h4] at this; exact this)
  clear hD h1 h2 h3 h4 hok hc
  go_enter Try.func79, Try.ntmps79
  go_wp2_with (first | (have _t := S1; clear _t; go_at_call 73; refine (HP2.out _ (S1.out).dd).mono ?_; rintro e w2 ⟨rfl, hD2, hu⟩; unfold Mrm.cells; have S2 := Lib.hid ((S1.out).step hD2 hu); clear hD2 hu S1) | (have _t := S2; clear _t; go_at_call 74; refine (HP3.out _ ((S2.out).same ((Upd.refl [] w2).alloc (.cells m.cells 119))).dd).mono ?_; rintro e w3 ⟨rfl, hD3, hu⟩; have S3 := Lib.hid (((S2.out).same ((Upd.refl [] w2).alloc (.cells m.cells 119))).step hD3 hu); clear hD3 hu S2) | (have _t := S3; clear _t; refine at_store 28 rfl ?_; refine wpList_store_ins ⟨1, 0, o, Opd.none, false, 0⟩ w3.heap.size rfl _ _ rfl rfl rfl (heap_alloc_new w3 (.cells Ins.zero.cells 28)) rfl ?_; intro w4 hw; have h := ins_new (S := [w3.heap.size]) (w0 := w3.alloc (.cells Ins.zero.cells 28)) hw (heap_alloc_new w3 (.cells Ins.zero.cells 28)) rfl (Upd.refl _ _) (.inl (by simp)); have HN := Lib.hid (And.intro (S3.out).lt (And.intro (lt_of_heap (S3.out).dd.h) (S3.out).nn)); have S4 := Lib.hid (((S3.out).same ((Upd.refl [] w3).alloc (.cells Ins.zero.cells 28))).far HD.out h.2 (S3.out).lt); have HI4 := Lib.hid h.1; clear hw h S3) | (have _t := S4; clear _t; go_at_call 43; refine (HP5.out _ (S4.out).dd).mono ?_; rintro e w5 ⟨rfl, hu⟩))
  exact ⟨rfl, rfl, (S4.out).uu.also hu (by simp)⟩

set_option maxRecDepth 100000 in
set_option maxHeartbeats 2000000 in
theorem lays_7 (d g k : Nat) (v : Value) (L : List Int) (w : World) (hD : IsDec w d v L g k) (c : Int) (m : Mrm) (k1 : Nat) (h1 : dcMrm L k = .ok m k1) (h2 : m.reg = 0) (o : Opd) (k2 : Nat) (h3 : dcOne L 1 m k1 = .ok ⟨1, 0, o, Opd.none, false, 0⟩ k2) (hc : c ≠ 199) (o2 : Opd) (k3 : Nat) (h4 : dcSmall L k2 = .ok o2 k3) :
    Calls Try.prog 79 #[.pointer (some ⟨d, 0, none⟩), .int .u8 c] w (DAns d v L g w (.ok ⟨2, 0, o, o2, false, 0⟩ k3) Ins.val) := by
  have HD := Lib.hid hD
  have S1 := Lib.hid (RS.start hD)
  have e2 : (m.reg != 0) = false := by simp [h2]
  have hok := dcMrm_ok hD.r h1
  have ec : (c == 199) = false := by simpa using hc
  have HP2 := Lib.hid (fun (w1 : World) (hd1 : IsDec w1 d v L g k) => by have := modrm_any d g k v L w1 hd1; rw [h1] at this; exact this)
  have HP3 := Lib.hid (fun (w1 : World) (hd1 : IsDec w1 d v L g k1) => by have := one_any d g k1 v L 1 m w1 hd1 hok; rw [h3] at this; exact this)
  have HP5 := Lib.hid (fun (w1 : World) (hd1 : IsDec w1 d v L g k2) => by have := small_any d g k2 v L w1 hd1; rw [h4] at this; exact this)
  clear hD h1 h2 h3 h4 hok hc
  go_enter Try.func79, Try.ntmps79
  go_wp2_with (first | (have _t := S1; clear _t; go_at_call 73; refine (HP2.out _ (S1.out).dd).mono ?_; rintro e w2 ⟨rfl, hD2, hu⟩; unfold Mrm.cells; have S2 := Lib.hid ((S1.out).step hD2 hu); clear hD2 hu S1) | (have _t := S2; clear _t; go_at_call 74; refine (HP3.out _ ((S2.out).same ((Upd.refl [] w2).alloc (.cells m.cells 119))).dd).mono ?_; rintro e w3 ⟨rfl, hD3, hu⟩; have S3 := Lib.hid (((S2.out).same ((Upd.refl [] w2).alloc (.cells m.cells 119))).step hD3 hu); clear hD3 hu S2) | (have _t := S3; clear _t; refine at_store 28 rfl ?_; refine wpList_store_ins ⟨1, 0, o, Opd.none, false, 0⟩ w3.heap.size rfl _ _ rfl rfl rfl (heap_alloc_new w3 (.cells Ins.zero.cells 28)) rfl ?_; intro w4 hw; have h := ins_new (S := [w3.heap.size]) (w0 := w3.alloc (.cells Ins.zero.cells 28)) hw (heap_alloc_new w3 (.cells Ins.zero.cells 28)) rfl (Upd.refl _ _) (.inl (by simp)); have HN := Lib.hid (And.intro (S3.out).lt (And.intro (lt_of_heap (S3.out).dd.h) (S3.out).nn)); have S4 := Lib.hid (((S3.out).same ((Upd.refl [] w3).alloc (.cells Ins.zero.cells 28))).far HD.out h.2 (S3.out).lt); have HI4 := Lib.hid h.1; clear hw h S3) | (have _t := S4; clear _t; go_at_call 43; refine (HP5.out _ (S4.out).dd).mono ?_; rintro e w5 ⟨rfl, hD5, hu⟩; have S5 := Lib.hid ((S4.out).step hD5 hu); have HI5 := Lib.hid (hu.get (HI4.out) (by have := HN.out; simp; omega)); have cq := cells_of HI5.out; unfold Ins.cells at cq; have fq := free_of HI5.out; clear hD5 hu S4) | (have _t := S5; clear _t; refine at_store 26 rfl ?_; refine wpList_store_opd o2 w3.heap.size 8 rfl _ _ rfl rfl rfl (ins_setOp (HI5.out) 2) (by rw [Ins.size]; decide) ?_; intro w6 hw; have h := ins_newB hw (ins_setOp (HI5.out) 2); have S6 := Lib.hid (((S5.out).far HD.out ((Upd.refl [w3.heap.size] w5).setCell (p := ⟨w3.heap.size, 0, none⟩) (by simp) (.int .i64 2)) HN.out.1).far HD.out h.2 HN.out.1); have HI6 := Lib.hid h.1; clear hw h S5 HI5) | (have _t := HI6; clear _t; refine at_load 28 rfl ?_; refine wpList_load_ins ⟨2, 0, o, o2, false, 0⟩ w3.heap.size rfl _ rfl rfl (HI6.out) ?_) | (have _t := S6; clear _t; refine at_store 28 rfl ?_; refine wpList_store_ins ⟨2, 0, o, o2, false, 0⟩ w.heap.size rfl _ _ rfl rfl rfl (S6.out).rr rfl ?_; intro w7 hw; have S7 := Lib.hid ((S6.out).store HD.out rfl hw); clear hw S6))
  exact bodyPost_ret (results_one' rfl (res_ins 4 w.heap.size _ rfl S7.out.rr)) rfl ⟨rfl, S7.out.dd, S7.out.uu⟩

theorem one_ok {L : List Int} {op : Int} {m : Mrm} {k k1 : Nat} {o : Opd} (h : dcPlace L m k = .ok o k1) : dcOne L op m k = .ok ⟨op, 0, o, Opd.none, false, 0⟩ k1 := by
  rw [dcOne, h]; rfl
theorem one_err {L : List Int} {op : Int} {m : Mrm} {k : Nat} {c : Int} (h : dcPlace L m k = .err c) : dcOne L op m k = .err c := by
  rw [dcOne, h]; rfl

theorem lays_any (d g k : Nat) (v : Value) (L : List Int) (c : Int) (w : World) (hD : IsDec w d v L g k) :
    Calls Try.prog 79 #[.pointer (some ⟨d, 0, none⟩), .int .u8 c] w (DAns d v L g w (dcLays L c k) Ins.val) := by
  unfold dcLays
  cases h1 : dcMrm L k with
  | err e => exact lays_1 d g k v L w hD c e h1
  | ok m k1 =>
    rw [DR.bind_ok]
    by_cases h2 : m.reg = 0
    · rw [if_neg (by simpa using h2)]
      cases h3 : dcPlace L m k1 with
      | err e => exact lays_3 d g k v L w hD c e m k1 h1 h2 (one_err h3)
      | ok o k2 =>
        rw [DR.bind_ok]
        by_cases hc : c = 199
        · rw [if_pos hc]
          cases h4 : dcImm32 L k2 with
          | err e => exact lays_4 d g k v L w hD c e m k1 h1 h2 o k2 (one_ok h3) hc h4
          | ok o2 k3 => exact lays_5 d g k v L w hD c m k1 h1 h2 o k2 (one_ok h3) hc o2 k3 h4
        · rw [if_neg hc]
          cases h4 : dcSmall L k2 with
          | err e => exact lays_6 d g k v L w hD c e m k1 h1 h2 o k2 (one_ok h3) hc h4
          | ok o2 k3 => exact lays_7 d g k v L w hD c m k1 h1 h2 o k2 (one_ok h3) hc o2 k3 h4
    · rw [if_pos h2]; exact lays_2 d g k v L w hD c m k1 h1 h2

end Go.Proofs.Ytpockhoacfkjaaa
