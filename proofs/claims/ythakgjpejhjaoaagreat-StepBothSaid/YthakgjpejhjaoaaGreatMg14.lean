/-
  Parts of the proof (their names shortened by a program). No condition.
-/
import Derived.Test.YthakgjpejhjaoaaGreatMg01
import Derived.Test.YthakgjpejhjaoaaGreatMg13
namespace Go.Proofs.YthakgjpejhjaoaaGreat
open Go Go.RowKit
set_option linter.unusedVariables false
set_option linter.unusedSimpArgs false
set_option maxRecDepth 100000
set_option maxHeartbeats 16000000
theorem Ym3 (d g k : Nat) (v : Value) (L : List Int) (w : World) (hD : Yb w d v L g k) (e : Int) (h : Yal L k = .err e) :
  Calls Tryz.prog 93 #[.pointer (some ⟨d, 0, none⟩), .int .u8 104] w (Yl d v L g w (.err e) Ins.val) := by
 have HD := Yh_ hD
 have S1 := Yh_ (RS.start hD)
 have HP2 := Yh_ (fun (w1 : World) (hd1 : Yb w1 d v L g k) => by have := Ybn d g k v L w1 hd1; rw [h] at this; exact this)
 clear hD h
 go_enter Tryz.func93, Tryz.ntmps93
 go_wp2_with (have _t := S1; clear _t; go_at_call 92; refine (HP2.out _ (S1.out).dd).mono ?_; rintro e w2 ⟨rfl, hu⟩)
 exact ⟨rfl, rfl, (S1.out).uu.also hu (by simp)⟩
theorem Ynn (d g k : Nat) (v : Value) (L : List Int) (w : World) (hD : Yb w d v L g k) (o : Opd) (k1 : Nat) (h : Yal L k = .ok o k1) :
  Calls Tryz.prog 93 #[.pointer (some ⟨d, 0, none⟩), .int .u8 104] w (Yl d v L g w (.ok ⟨28, 0, o, Opd.none, false, 0⟩ k1) Ins.val) := by
 have HD := Yh_ hD
 have S1 := Yh_ (RS.start hD)
 have HP2 := Yh_ (fun (w1 : World) (hd1 : Yb w1 d v L g k) => by have := Ybn d g k v L w1 hd1; rw [h] at this; exact this)
 clear hD h
 go_enter Tryz.func93, Tryz.ntmps93
 go_wp2_with (first | (have _t := S1; clear _t; go_at_call 92; refine (HP2.out _ (S1.out).dd).mono ?_; rintro e w2 ⟨rfl, hD2, hu⟩; unfold Opd.val; have S2 := Yh_ ((S1.out).step hD2 hu); clear hD2 hu S1) | (have _t := S2; clear _t; refine Ye 41 rfl ?_; refine Yc ⟨28, 0, o, Opd.none, false, 0⟩ w.heap.size rfl _ _ rfl rfl rfl (S2.out).rr rfl ?_; intro w3 hw; have S3 := Yh_ ((S2.out).store HD.out rfl hw); clear hw S2))
 exact bodyPost_ret (Yf rfl (Yq 4 w.heap.size _ rfl S3.out.rr)) rfl ⟨rfl, S3.out.dd, S3.out.uu⟩
theorem Yn3 (d g k : Nat) (v : Value) (L : List Int) (w : World) (hD : Yb w d v L g k) (e : Int) (h : Ycd L k = .err e) :
  Calls Tryz.prog 93 #[.pointer (some ⟨d, 0, none⟩), .int .u8 106] w (Yl d v L g w (.err e) Ins.val) := by
 have HD := Yh_ hD
 have S1 := Yh_ (RS.start hD)
 have HP2 := Yh_ (fun (w1 : World) (hd1 : Yb w1 d v L g k) => by have := Ydr d g k v L w1 hd1; rw [h] at this; exact this)
 clear hD h
 go_enter Tryz.func93, Tryz.ntmps93
 go_wp2_with (have _t := S1; clear _t; go_at_call 90; refine (HP2.out _ (S1.out).dd).mono ?_; rintro e w2 ⟨rfl, hu⟩)
 exact ⟨rfl, rfl, (S1.out).uu.also hu (by simp)⟩
theorem Ymj (d g k : Nat) (v : Value) (L : List Int) (w : World) (hD : Yb w d v L g k) (o : Opd) (k1 : Nat) (h : Ycd L k = .ok o k1) :
  Calls Tryz.prog 93 #[.pointer (some ⟨d, 0, none⟩), .int .u8 106] w (Yl d v L g w (.ok ⟨28, 0, o, Opd.none, false, 0⟩ k1) Ins.val) := by
 have HD := Yh_ hD
 have S1 := Yh_ (RS.start hD)
 have HP2 := Yh_ (fun (w1 : World) (hd1 : Yb w1 d v L g k) => by have := Ydr d g k v L w1 hd1; rw [h] at this; exact this)
 clear hD h
 go_enter Tryz.func93, Tryz.ntmps93
 go_wp2_with (first | (have _t := S1; clear _t; go_at_call 90; refine (HP2.out _ (S1.out).dd).mono ?_; rintro e w2 ⟨rfl, hD2, hu⟩; unfold Opd.val; have S2 := Yh_ ((S1.out).step hD2 hu); clear hD2 hu S1) | (have _t := S2; clear _t; refine Ye 41 rfl ?_; refine Yc ⟨28, 0, o, Opd.none, false, 0⟩ w.heap.size rfl _ _ rfl rfl rfl (S2.out).rr rfl ?_; intro w3 hw; have S3 := Yh_ ((S2.out).store HD.out rfl hw); clear hw S2))
 exact bodyPost_ret (Yf rfl (Yq 4 w.heap.size _ rfl S3.out.rr)) rfl ⟨rfl, S3.out.dd, S3.out.uu⟩
theorem Yoh (d g k : Nat) (v : Value) (L : List Int) (w : World) (hD : Yb w d v L g k) (e : Int) (h : Yau L 11 false k = .err e) :
  Calls Tryz.prog 93 #[.pointer (some ⟨d, 0, none⟩), .int .u8 133] w (Yl d v L g w (.err e) Ins.val) := by
 have HD := Yh_ hD
 have S1 := Yh_ (RS.start hD)
 have HP2 := Yh_ (fun (w1 : World) (hd1 : Yb w1 d v L g k) => by have := Ybp d g k v L 11 false w1 hd1; rw [h] at this; exact this)
 clear hD h
 go_enter Tryz.func93, Tryz.ntmps93
 go_wp2_with (have _t := S1; clear _t; go_at_call 120; refine (HP2.out _ (S1.out).dd).mono ?_; rintro e w2 ⟨rfl, hu⟩)
 exact ⟨rfl, rfl, (S1.out).uu.also hu (by simp)⟩
theorem Yni (d g k : Nat) (v : Value) (L : List Int) (w : World) (hD : Yb w d v L g k) (i : Ins) (k1 : Nat) (h : Yau L 11 false k = .ok i k1) :
  Calls Tryz.prog 93 #[.pointer (some ⟨d, 0, none⟩), .int .u8 133] w (Yl d v L g w (.ok i k1) Ins.val) := by
 have HD := Yh_ hD
 have S1 := Yh_ (RS.start hD)
 have HP2 := Yh_ (fun (w1 : World) (hd1 : Yb w1 d v L g k) => by have := Ybp d g k v L 11 false w1 hd1; rw [h] at this; exact this)
 clear hD h
 go_enter Tryz.func93, Tryz.ntmps93
 go_wp2_with (first | (have _t := S1; clear _t; go_at_call 120; refine (HP2.out _ (S1.out).dd).mono ?_; rintro e w2 ⟨rfl, hD2, hu⟩; have S2 := Yh_ ((S1.out).step hD2 hu); clear hD2 hu S1) | (have _t := S2; clear _t; refine Ye 41 rfl ?_; refine Yc i w.heap.size rfl _ _ rfl rfl rfl (S2.out).rr rfl ?_; intro w3 hw; have S3 := Yh_ ((S2.out).store HD.out rfl hw); clear hw S2))
 exact bodyPost_ret (Yf rfl (Yq 4 w.heap.size _ rfl S3.out.rr)) rfl ⟨rfl, S3.out.dd, S3.out.uu⟩
theorem Ym6 (d g k : Nat) (v : Value) (L : List Int) (w : World) (hD : Yb w d v L g k) (e : Int) (h : Yau L 27 false k = .err e) :
  Calls Tryz.prog 93 #[.pointer (some ⟨d, 0, none⟩), .int .u8 135] w (Yl d v L g w (.err e) Ins.val) := by
 have HD := Yh_ hD
 have S1 := Yh_ (RS.start hD)
 have HP2 := Yh_ (fun (w1 : World) (hd1 : Yb w1 d v L g k) => by have := Ybp d g k v L 27 false w1 hd1; rw [h] at this; exact this)
 clear hD h
 go_enter Tryz.func93, Tryz.ntmps93
 go_wp2_with (have _t := S1; clear _t; go_at_call 120; refine (HP2.out _ (S1.out).dd).mono ?_; rintro e w2 ⟨rfl, hu⟩)
 exact ⟨rfl, rfl, (S1.out).uu.also hu (by simp)⟩
theorem Yn8 (d g k : Nat) (v : Value) (L : List Int) (w : World) (hD : Yb w d v L g k) (i : Ins) (k1 : Nat) (h : Yau L 27 false k = .ok i k1) :
  Calls Tryz.prog 93 #[.pointer (some ⟨d, 0, none⟩), .int .u8 135] w (Yl d v L g w (.ok i k1) Ins.val) := by
 have HD := Yh_ hD
 have S1 := Yh_ (RS.start hD)
 have HP2 := Yh_ (fun (w1 : World) (hd1 : Yb w1 d v L g k) => by have := Ybp d g k v L 27 false w1 hd1; rw [h] at this; exact this)
 clear hD h
 go_enter Tryz.func93, Tryz.ntmps93
 go_wp2_with (first | (have _t := S1; clear _t; go_at_call 120; refine (HP2.out _ (S1.out).dd).mono ?_; rintro e w2 ⟨rfl, hD2, hu⟩; have S2 := Yh_ ((S1.out).step hD2 hu); clear hD2 hu S1) | (have _t := S2; clear _t; refine Ye 41 rfl ?_; refine Yc i w.heap.size rfl _ _ rfl rfl rfl (S2.out).rr rfl ?_; intro w3 hw; have S3 := Yh_ ((S2.out).store HD.out rfl hw); clear hw S2))
 exact bodyPost_ret (Yf rfl (Yq 4 w.heap.size _ rfl S3.out.rr)) rfl ⟨rfl, S3.out.dd, S3.out.uu⟩
theorem Ynd (d g k : Nat) (v : Value) (L : List Int) (w : World) (hD : Yb w d v L g k) (e : Int) (h : Yau L 2 false k = .err e) :
  Calls Tryz.prog 93 #[.pointer (some ⟨d, 0, none⟩), .int .u8 136] w (Yl d v L g w (.err e) Ins.val) := by
 have HD := Yh_ hD
 have S1 := Yh_ (RS.start hD)
 have HP2 := Yh_ (fun (w1 : World) (hd1 : Yb w1 d v L g k) => by have := Ybp d g k v L 2 false w1 hd1; rw [h] at this; exact this)
 clear hD h
 go_enter Tryz.func93, Tryz.ntmps93
 go_wp2_with (have _t := S1; clear _t; go_at_call 120; refine (HP2.out _ (S1.out).dd).mono ?_; rintro e w2 ⟨rfl, hu⟩)
 exact ⟨rfl, rfl, (S1.out).uu.also hu (by simp)⟩
theorem Ym4 (d g k : Nat) (v : Value) (L : List Int) (w : World) (hD : Yb w d v L g k) (i : Ins) (k1 : Nat) (h : Yau L 2 false k = .ok i k1) :
  Calls Tryz.prog 93 #[.pointer (some ⟨d, 0, none⟩), .int .u8 136] w (Yl d v L g w (.ok i k1) Ins.val) := by
 have HD := Yh_ hD
 have S1 := Yh_ (RS.start hD)
 have HP2 := Yh_ (fun (w1 : World) (hd1 : Yb w1 d v L g k) => by have := Ybp d g k v L 2 false w1 hd1; rw [h] at this; exact this)
 clear hD h
 go_enter Tryz.func93, Tryz.ntmps93
 go_wp2_with (first | (have _t := S1; clear _t; go_at_call 120; refine (HP2.out _ (S1.out).dd).mono ?_; rintro e w2 ⟨rfl, hD2, hu⟩; have S2 := Yh_ ((S1.out).step hD2 hu); clear hD2 hu S1) | (have _t := S2; clear _t; refine Ye 41 rfl ?_; refine Yc i w.heap.size rfl _ _ rfl rfl rfl (S2.out).rr rfl ?_; intro w3 hw; have S3 := Yh_ ((S2.out).store HD.out rfl hw); clear hw S2))
 exact bodyPost_ret (Yf rfl (Yq 4 w.heap.size _ rfl S3.out.rr)) rfl ⟨rfl, S3.out.dd, S3.out.uu⟩
theorem Ym0 (d g k : Nat) (v : Value) (L : List Int) (w : World) (hD : Yb w d v L g k) (e : Int) (h : Yau L 2 true k = .err e) :
  Calls Tryz.prog 93 #[.pointer (some ⟨d, 0, none⟩), .int .u8 138] w (Yl d v L g w (.err e) Ins.val) := by
 have HD := Yh_ hD
 have S1 := Yh_ (RS.start hD)
 have HP2 := Yh_ (fun (w1 : World) (hd1 : Yb w1 d v L g k) => by have := Ybp d g k v L 2 true w1 hd1; rw [h] at this; exact this)
 clear hD h
 go_enter Tryz.func93, Tryz.ntmps93
 go_wp2_with (have _t := S1; clear _t; go_at_call 120; refine (HP2.out _ (S1.out).dd).mono ?_; rintro e w2 ⟨rfl, hu⟩)
 exact ⟨rfl, rfl, (S1.out).uu.also hu (by simp)⟩
theorem Yod (d g k : Nat) (v : Value) (L : List Int) (w : World) (hD : Yb w d v L g k) (i : Ins) (k1 : Nat) (h : Yau L 2 true k = .ok i k1) :
  Calls Tryz.prog 93 #[.pointer (some ⟨d, 0, none⟩), .int .u8 138] w (Yl d v L g w (.ok i k1) Ins.val) := by
 have HD := Yh_ hD
 have S1 := Yh_ (RS.start hD)
 have HP2 := Yh_ (fun (w1 : World) (hd1 : Yb w1 d v L g k) => by have := Ybp d g k v L 2 true w1 hd1; rw [h] at this; exact this)
 clear hD h
 go_enter Tryz.func93, Tryz.ntmps93
 go_wp2_with (first | (have _t := S1; clear _t; go_at_call 120; refine (HP2.out _ (S1.out).dd).mono ?_; rintro e w2 ⟨rfl, hD2, hu⟩; have S2 := Yh_ ((S1.out).step hD2 hu); clear hD2 hu S1) | (have _t := S2; clear _t; refine Ye 41 rfl ?_; refine Yc i w.heap.size rfl _ _ rfl rfl rfl (S2.out).rr rfl ?_; intro w3 hw; have S3 := Yh_ ((S2.out).store HD.out rfl hw); clear hw S2))
 exact bodyPost_ret (Yf rfl (Yq 4 w.heap.size _ rfl S3.out.rr)) rfl ⟨rfl, S3.out.dd, S3.out.uu⟩
theorem Ymm (d g k : Nat) (v : Value) (L : List Int) (w : World) (hD : Yb w d v L g k) (e : Int) (h : Yau L 1 false k = .err e) :
  Calls Tryz.prog 93 #[.pointer (some ⟨d, 0, none⟩), .int .u8 137] w (Yl d v L g w (.err e) Ins.val) := by
 have HD := Yh_ hD
 have S1 := Yh_ (RS.start hD)
 have HP2 := Yh_ (fun (w1 : World) (hd1 : Yb w1 d v L g k) => by have := Ybp d g k v L 1 false w1 hd1; rw [h] at this; exact this)
 clear hD h
 go_enter Tryz.func93, Tryz.ntmps93
 go_wp2_with (have _t := S1; clear _t; go_at_call 120; refine (HP2.out _ (S1.out).dd).mono ?_; rintro e w2 ⟨rfl, hu⟩)
 exact ⟨rfl, rfl, (S1.out).uu.also hu (by simp)⟩
theorem Yml (d g k : Nat) (v : Value) (L : List Int) (w : World) (hD : Yb w d v L g k) (i : Ins) (k1 : Nat) (h : Yau L 1 false k = .ok i k1) :
  Calls Tryz.prog 93 #[.pointer (some ⟨d, 0, none⟩), .int .u8 137] w (Yl d v L g w (.ok i k1) Ins.val) := by
 have HD := Yh_ hD
 have S1 := Yh_ (RS.start hD)
 have HP2 := Yh_ (fun (w1 : World) (hd1 : Yb w1 d v L g k) => by have := Ybp d g k v L 1 false w1 hd1; rw [h] at this; exact this)
 clear hD h
 go_enter Tryz.func93, Tryz.ntmps93
 go_wp2_with (first | (have _t := S1; clear _t; go_at_call 120; refine (HP2.out _ (S1.out).dd).mono ?_; rintro e w2 ⟨rfl, hD2, hu⟩; have S2 := Yh_ ((S1.out).step hD2 hu); clear hD2 hu S1) | (have _t := S2; clear _t; refine Ye 41 rfl ?_; refine Yc i w.heap.size rfl _ _ rfl rfl rfl (S2.out).rr rfl ?_; intro w3 hw; have S3 := Yh_ ((S2.out).store HD.out rfl hw); clear hw S2))
 exact bodyPost_ret (Yf rfl (Yq 4 w.heap.size _ rfl S3.out.rr)) rfl ⟨rfl, S3.out.dd, S3.out.uu⟩
theorem Ymu (d g k : Nat) (v : Value) (L : List Int) (w : World) (hD : Yb w d v L g k) (e : Int) (h : Yau L 1 true k = .err e) :
  Calls Tryz.prog 93 #[.pointer (some ⟨d, 0, none⟩), .int .u8 139] w (Yl d v L g w (.err e) Ins.val) := by
 have HD := Yh_ hD
 have S1 := Yh_ (RS.start hD)
 have HP2 := Yh_ (fun (w1 : World) (hd1 : Yb w1 d v L g k) => by have := Ybp d g k v L 1 true w1 hd1; rw [h] at this; exact this)
 clear hD h
 go_enter Tryz.func93, Tryz.ntmps93
 go_wp2_with (have _t := S1; clear _t; go_at_call 120; refine (HP2.out _ (S1.out).dd).mono ?_; rintro e w2 ⟨rfl, hu⟩)
 exact ⟨rfl, rfl, (S1.out).uu.also hu (by simp)⟩
theorem Ymz (d g k : Nat) (v : Value) (L : List Int) (w : World) (hD : Yb w d v L g k) (i : Ins) (k1 : Nat) (h : Yau L 1 true k = .ok i k1) :
  Calls Tryz.prog 93 #[.pointer (some ⟨d, 0, none⟩), .int .u8 139] w (Yl d v L g w (.ok i k1) Ins.val) := by
 have HD := Yh_ hD
 have S1 := Yh_ (RS.start hD)
 have HP2 := Yh_ (fun (w1 : World) (hd1 : Yb w1 d v L g k) => by have := Ybp d g k v L 1 true w1 hd1; rw [h] at this; exact this)
 clear hD h
 go_enter Tryz.func93, Tryz.ntmps93
 go_wp2_with (first | (have _t := S1; clear _t; go_at_call 120; refine (HP2.out _ (S1.out).dd).mono ?_; rintro e w2 ⟨rfl, hD2, hu⟩; have S2 := Yh_ ((S1.out).step hD2 hu); clear hD2 hu S1) | (have _t := S2; clear _t; refine Ye 41 rfl ?_; refine Yc i w.heap.size rfl _ _ rfl rfl rfl (S2.out).rr rfl ?_; intro w3 hw; have S3 := Yh_ ((S2.out).store HD.out rfl hw); clear hw S2))
 exact bodyPost_ret (Yf rfl (Yq 4 w.heap.size _ rfl S3.out.rr)) rfl ⟨rfl, S3.out.dd, S3.out.uu⟩
theorem Yny (d g k : Nat) (v : Value) (L : List Int) (w : World) (hD : Yb w d v L g k) (e : Int) (h : Yhb L k = .err e) :
  Calls Tryz.prog 93 #[.pointer (some ⟨d, 0, none⟩), .int .u8 141] w (Yl d v L g w (.err e) Ins.val) := by
 have HD := Yh_ hD
 have S1 := Yh_ (RS.start hD)
 have HP2 := Yh_ (fun (w1 : World) (hd1 : Yb w1 d v L g k) => by have := Yok d g k v L w1 hd1; rw [h] at this; exact this)
 clear hD h
 go_enter Tryz.func93, Tryz.ntmps93
 go_wp2_with (have _t := S1; clear _t; go_at_call 125; refine (HP2.out _ (S1.out).dd).mono ?_; rintro e w2 ⟨rfl, hu⟩)
 exact ⟨rfl, rfl, (S1.out).uu.also hu (by simp)⟩
theorem Ymo (d g k : Nat) (v : Value) (L : List Int) (w : World) (hD : Yb w d v L g k) (i : Ins) (k1 : Nat) (h : Yhb L k = .ok i k1) :
  Calls Tryz.prog 93 #[.pointer (some ⟨d, 0, none⟩), .int .u8 141] w (Yl d v L g w (.ok i k1) Ins.val) := by
 have HD := Yh_ hD
 have S1 := Yh_ (RS.start hD)
 have HP2 := Yh_ (fun (w1 : World) (hd1 : Yb w1 d v L g k) => by have := Yok d g k v L w1 hd1; rw [h] at this; exact this)
 clear hD h
 go_enter Tryz.func93, Tryz.ntmps93
 go_wp2_with (first | (have _t := S1; clear _t; go_at_call 125; refine (HP2.out _ (S1.out).dd).mono ?_; rintro e w2 ⟨rfl, hD2, hu⟩; have S2 := Yh_ ((S1.out).step hD2 hu); clear hD2 hu S1) | (have _t := S2; clear _t; refine Ye 41 rfl ?_; refine Yc i w.heap.size rfl _ _ rfl rfl rfl (S2.out).rr rfl ?_; intro w3 hw; have S3 := Yh_ ((S2.out).store HD.out rfl hw); clear hw S2))
 exact bodyPost_ret (Yf rfl (Yq 4 w.heap.size _ rfl S3.out.rr)) rfl ⟨rfl, S3.out.dd, S3.out.uu⟩
theorem Yna (d g k : Nat) (v : Value) (L : List Int) (w : World) (hD : Yb w d v L g k) (e : Int) (h : Yal L k = .err e) :
  Calls Tryz.prog 93 #[.pointer (some ⟨d, 0, none⟩), .int .u8 169] w (Yl d v L g w (.err e) Ins.val) := by
 have HD := Yh_ hD
 have S1 := Yh_ (RS.start hD)
 have HP3 := Yh_ (fun (w1 : World) (hd1 : Yb w1 d v L g k) => by have := Ybn d g k v L w1 hd1; rw [h] at this; exact this)
 clear hD h
 go_enter Tryz.func93, Tryz.ntmps93
 go_wp2_with (first | (have _t := S1; clear _t; go_at_call 89; refine (Yb1 0 _).mono ?_; rintro e w2 ⟨rfl, hu⟩; unfold Opd.val Yaq; have S2 := Yh_ ((S1.out).same hu); clear hu S1) | (have _t := S2; clear _t; go_at_call 92; refine (HP3.out _ (S2.out).dd).mono ?_; rintro e w3 ⟨rfl, hu⟩))
 exact ⟨rfl, rfl, (S2.out).uu.also hu (by simp)⟩
theorem Yn1 (d g k : Nat) (v : Value) (L : List Int) (w : World) (hD : Yb w d v L g k) (o : Opd) (k1 : Nat) (h : Yal L k = .ok o k1) :
  Calls Tryz.prog 93 #[.pointer (some ⟨d, 0, none⟩), .int .u8 169] w (Yl d v L g w (.ok ⟨11, 0, Yaq 0, o, false, 0⟩ k1) Ins.val) := by
 have HD := Yh_ hD
 have S1 := Yh_ (RS.start hD)
 have HP3 := Yh_ (fun (w1 : World) (hd1 : Yb w1 d v L g k) => by have := Ybn d g k v L w1 hd1; rw [h] at this; exact this)
 clear hD h
 go_enter Tryz.func93, Tryz.ntmps93
 go_wp2_with (first | (have _t := S1; clear _t; go_at_call 89; refine (Yb1 0 _).mono ?_; rintro e w2 ⟨rfl, hu⟩; unfold Opd.val Yaq; have S2 := Yh_ ((S1.out).same hu); clear hu S1) | (have _t := S2; clear _t; go_at_call 92; refine (HP3.out _ (S2.out).dd).mono ?_; rintro e w3 ⟨rfl, hD3, hu⟩; unfold Opd.val; have S3 := Yh_ ((S2.out).step hD3 hu); clear hD3 hu S2) | (have _t := S3; clear _t; refine Ye 41 rfl ?_; refine Yc ⟨11, 0, Yaq 0, o, false, 0⟩ w.heap.size rfl _ _ rfl rfl rfl (S3.out).rr rfl ?_; intro w4 hw; have S4 := Yh_ ((S3.out).store HD.out rfl hw); clear hw S3))
 exact bodyPost_ret (Yf rfl (Yq 4 w.heap.size _ rfl S4.out.rr)) rfl ⟨rfl, S4.out.dd, S4.out.uu⟩
theorem Ynf (d g k : Nat) (v : Value) (L : List Int) (w : World) (hD : Yb w d v L g k) (e : Int) (h : Yd0 L 198 k = .err e) :
  Calls Tryz.prog 93 #[.pointer (some ⟨d, 0, none⟩), .int .u8 198] w (Yl d v L g w (.err e) Ins.val) := by
 have HD := Yh_ hD
 have S1 := Yh_ (RS.start hD)
 have HP2 := Yh_ (fun (w1 : World) (hd1 : Yb w1 d v L g k) => by have := Yg0 d g k v L 198 w1 hd1; rw [h] at this; exact this)
 clear hD h
 go_enter Tryz.func93, Tryz.ntmps93
 go_wp2_with (have _t := S1; clear _t; go_at_call 126; refine (HP2.out _ (S1.out).dd).mono ?_; rintro e w2 ⟨rfl, hu⟩)
 exact ⟨rfl, rfl, (S1.out).uu.also hu (by simp)⟩
theorem Ymx (d g k : Nat) (v : Value) (L : List Int) (w : World) (hD : Yb w d v L g k) (i : Ins) (k1 : Nat) (h : Yd0 L 198 k = .ok i k1) :
  Calls Tryz.prog 93 #[.pointer (some ⟨d, 0, none⟩), .int .u8 198] w (Yl d v L g w (.ok i k1) Ins.val) := by
 have HD := Yh_ hD
 have S1 := Yh_ (RS.start hD)
 have HP2 := Yh_ (fun (w1 : World) (hd1 : Yb w1 d v L g k) => by have := Yg0 d g k v L 198 w1 hd1; rw [h] at this; exact this)
 clear hD h
 go_enter Tryz.func93, Tryz.ntmps93
 go_wp2_with (first | (have _t := S1; clear _t; go_at_call 126; refine (HP2.out _ (S1.out).dd).mono ?_; rintro e w2 ⟨rfl, hD2, hu⟩; have S2 := Yh_ ((S1.out).step hD2 hu); clear hD2 hu S1) | (have _t := S2; clear _t; refine Ye 41 rfl ?_; refine Yc i w.heap.size rfl _ _ rfl rfl rfl (S2.out).rr rfl ?_; intro w3 hw; have S3 := Yh_ ((S2.out).store HD.out rfl hw); clear hw S2))
 exact bodyPost_ret (Yf rfl (Yq 4 w.heap.size _ rfl S3.out.rr)) rfl ⟨rfl, S3.out.dd, S3.out.uu⟩
theorem Yms (d g k : Nat) (v : Value) (L : List Int) (w : World) (hD : Yb w d v L g k) (e : Int) (h : Yd0 L 199 k = .err e) :
  Calls Tryz.prog 93 #[.pointer (some ⟨d, 0, none⟩), .int .u8 199] w (Yl d v L g w (.err e) Ins.val) := by
 have HD := Yh_ hD
 have S1 := Yh_ (RS.start hD)
 have HP2 := Yh_ (fun (w1 : World) (hd1 : Yb w1 d v L g k) => by have := Yg0 d g k v L 199 w1 hd1; rw [h] at this; exact this)
 clear hD h
 go_enter Tryz.func93, Tryz.ntmps93
 go_wp2_with (have _t := S1; clear _t; go_at_call 126; refine (HP2.out _ (S1.out).dd).mono ?_; rintro e w2 ⟨rfl, hu⟩)
 exact ⟨rfl, rfl, (S1.out).uu.also hu (by simp)⟩
theorem Ymt (d g k : Nat) (v : Value) (L : List Int) (w : World) (hD : Yb w d v L g k) (i : Ins) (k1 : Nat) (h : Yd0 L 199 k = .ok i k1) :
  Calls Tryz.prog 93 #[.pointer (some ⟨d, 0, none⟩), .int .u8 199] w (Yl d v L g w (.ok i k1) Ins.val) := by
 have HD := Yh_ hD
 have S1 := Yh_ (RS.start hD)
 have HP2 := Yh_ (fun (w1 : World) (hd1 : Yb w1 d v L g k) => by have := Yg0 d g k v L 199 w1 hd1; rw [h] at this; exact this)
 clear hD h
 go_enter Tryz.func93, Tryz.ntmps93
 go_wp2_with (first | (have _t := S1; clear _t; go_at_call 126; refine (HP2.out _ (S1.out).dd).mono ?_; rintro e w2 ⟨rfl, hD2, hu⟩; have S2 := Yh_ ((S1.out).step hD2 hu); clear hD2 hu S1) | (have _t := S2; clear _t; refine Ye 41 rfl ?_; refine Yc i w.heap.size rfl _ _ rfl rfl rfl (S2.out).rr rfl ?_; intro w3 hw; have S3 := Yh_ ((S2.out).store HD.out rfl hw); clear hw S2))
 exact bodyPost_ret (Yf rfl (Yq 4 w.heap.size _ rfl S3.out.rr)) rfl ⟨rfl, S3.out.dd, S3.out.uu⟩
theorem Ynk (d g k : Nat) (v : Value) (L : List Int) (w : World) (hD : Yb w d v L g k) (c : Int) (hc0 : 0 ≤ c) (hc1 : c ≤ 255) (h104 : c ≠ 104) (h106 : c ≠ 106) (h129 : c ≠ 129) (h131 : c ≠ 131) (h133 : c ≠ 133) (h135 : c ≠ 135) (h136 : c ≠ 136) (h138 : c ≠ 138) (h137 : c ≠ 137) (h139 : c ≠ 139) (h141 : c ≠ 141) (h169 : c ≠ 169) (h198 : c ≠ 198) (h199 : c ≠ 199) (e : Int) (h : Ycb L c k = .err e) :
  Calls Tryz.prog 93 #[.pointer (some ⟨d, 0, none⟩), .int .u8 c] w (Yl d v L g w (.err e) Ins.val) := by
 have HD := Yh_ hD
 have S1 := Yh_ (RS.start hD)
 have e104 : (c == 104) = false := by simpa using h104
 have e106 : (c == 106) = false := by simpa using h106
 have e129 : (c == 129) = false := by simpa using h129
 have e131 : (c == 131) = false := by simpa using h131
 have e133 : (c == 133) = false := by simpa using h133
 have e135 : (c == 135) = false := by simpa using h135
 have e136 : (c == 136) = false := by simpa using h136
 have e138 : (c == 138) = false := by simpa using h138
 have e137 : (c == 137) = false := by simpa using h137
 have e139 : (c == 139) = false := by simpa using h139
 have e141 : (c == 141) = false := by simpa using h141
 have e169 : (c == 169) = false := by simpa using h169
 have e198 : (c == 198) = false := by simpa using h198
 have e199 : (c == 199) = false := by simpa using h199
 have HP2 := Yh_ (fun (w1 : World) (hd1 : Yb w1 d v L g k) => by have := Yj4 d g k v L c w1 hd1 hc0 hc1; rw [h] at this; exact this)
 clear hD h104 h106 h129 h131 h133 h135 h136 h138 h137 h139 h141 h169 h198 h199 h
 go_enter Tryz.func93, Tryz.ntmps93
 go_wp2_with (have _t := S1; clear _t; go_at_call 127; refine (HP2.out _ (S1.out).dd).mono ?_; rintro e w2 ⟨rfl, hu⟩)
 exact ⟨rfl, rfl, (S1.out).uu.also hu (by simp)⟩
theorem Ynv (d g k : Nat) (v : Value) (L : List Int) (w : World) (hD : Yb w d v L g k) (c : Int) (hc0 : 0 ≤ c) (hc1 : c ≤ 255) (h104 : c ≠ 104) (h106 : c ≠ 106) (h129 : c ≠ 129) (h131 : c ≠ 131) (h133 : c ≠ 133) (h135 : c ≠ 135) (h136 : c ≠ 136) (h138 : c ≠ 138) (h137 : c ≠ 137) (h139 : c ≠ 139) (h141 : c ≠ 141) (h169 : c ≠ 169) (h198 : c ≠ 198) (h199 : c ≠ 199) (i : Ins) (k1 : Nat) (h : Ycb L c k = .ok i k1) :
  Calls Tryz.prog 93 #[.pointer (some ⟨d, 0, none⟩), .int .u8 c] w (Yl d v L g w (.ok i k1) Ins.val) := by
 have HD := Yh_ hD
 have S1 := Yh_ (RS.start hD)
 have e104 : (c == 104) = false := by simpa using h104
 have e106 : (c == 106) = false := by simpa using h106
 have e129 : (c == 129) = false := by simpa using h129
 have e131 : (c == 131) = false := by simpa using h131
 have e133 : (c == 133) = false := by simpa using h133
 have e135 : (c == 135) = false := by simpa using h135
 have e136 : (c == 136) = false := by simpa using h136
 have e138 : (c == 138) = false := by simpa using h138
 have e137 : (c == 137) = false := by simpa using h137
 have e139 : (c == 139) = false := by simpa using h139
 have e141 : (c == 141) = false := by simpa using h141
 have e169 : (c == 169) = false := by simpa using h169
 have e198 : (c == 198) = false := by simpa using h198
 have e199 : (c == 199) = false := by simpa using h199
 have HP2 := Yh_ (fun (w1 : World) (hd1 : Yb w1 d v L g k) => by have := Yj4 d g k v L c w1 hd1 hc0 hc1; rw [h] at this; exact this)
 clear hD h104 h106 h129 h131 h133 h135 h136 h138 h137 h139 h141 h169 h198 h199 h
 go_enter Tryz.func93, Tryz.ntmps93
 go_wp2_with (first | (have _t := S1; clear _t; go_at_call 127; refine (HP2.out _ (S1.out).dd).mono ?_; rintro e w2 ⟨rfl, hD2, hu⟩; have S2 := Yh_ ((S1.out).step hD2 hu); clear hD2 hu S1) | (have _t := S2; clear _t; refine Ye 41 rfl ?_; refine Yc i w.heap.size rfl _ _ rfl rfl rfl (S2.out).rr rfl ?_; intro w3 hw; have S3 := Yh_ ((S2.out).store HD.out rfl hw); clear hw S2))
 exact bodyPost_ret (Yf rfl (Yq 4 w.heap.size _ rfl S3.out.rr)) rfl ⟨rfl, S3.out.dd, S3.out.uu⟩
theorem Yek (d g k : Nat) (v : Value) (L : List Int) (c : Int) (w : World) (hD : Yb w d v L g k) (hc0 : 0 ≤ c) (hc1 : c ≤ 255) :
  Calls Tryz.prog 93 #[.pointer (some ⟨d, 0, none⟩), .int .u8 c] w (Yl d v L g w (Ya0 L c k) Ins.val) := by
 by_cases h104 : c = 104
 ·subst h104
  have e : Ya0 L 104 k = ((Yal L k).bind fun o k => .ok ⟨28, 0, o, Opd.none, false, 0⟩ k) := rfl
  rw [e]
  cases h : Yal L k with
  |err e => exact Ym3 d g k v L w hD e h
  |ok o k1 => exact Ynn d g k v L w hD o k1 h
 by_cases h106 : c = 106
 ·subst h106
  have e : Ya0 L 106 k = ((Ycd L k).bind fun o k => .ok ⟨28, 0, o, Opd.none, false, 0⟩ k) := rfl
  rw [e]
  cases h : Ycd L k with
  |err e => exact Yn3 d g k v L w hD e h
  |ok o k1 => exact Ymj d g k v L w hD o k1 h
 by_cases h129 : c = 129
 ·subst h129
  have e : Ya0 L 129 k = (Ya0 L 129 k) := rfl
  rw [e]
  exact mv81_any d g k v L w hD
 by_cases h131 : c = 131
 ·subst h131
  have e : Ya0 L 131 k = (Ya0 L 131 k) := rfl
  rw [e]
  exact mv83_any d g k v L w hD
 by_cases h133 : c = 133
 ·subst h133
  have e : Ya0 L 133 k = (Yau L 11 false k) := rfl
  rw [e]
  cases h : Yau L 11 false k with
  |err e => exact Yoh d g k v L w hD e h
  |ok i k1 => exact Yni d g k v L w hD i k1 h
 by_cases h135 : c = 135
 ·subst h135
  have e : Ya0 L 135 k = (Yau L 27 false k) := rfl
  rw [e]
  cases h : Yau L 27 false k with
  |err e => exact Ym6 d g k v L w hD e h
  |ok i k1 => exact Yn8 d g k v L w hD i k1 h
 by_cases h136 : c = 136
 ·subst h136
  have e : Ya0 L 136 k = (Yau L 2 false k) := rfl
  rw [e]
  cases h : Yau L 2 false k with
  |err e => exact Ynd d g k v L w hD e h
  |ok i k1 => exact Ym4 d g k v L w hD i k1 h
 by_cases h138 : c = 138
 ·subst h138
  have e : Ya0 L 138 k = (Yau L 2 true k) := rfl
  rw [e]
  cases h : Yau L 2 true k with
  |err e => exact Ym0 d g k v L w hD e h
  |ok i k1 => exact Yod d g k v L w hD i k1 h
 by_cases h137 : c = 137
 ·subst h137
  have e : Ya0 L 137 k = (Yau L 1 false k) := rfl
  rw [e]
  cases h : Yau L 1 false k with
  |err e => exact Ymm d g k v L w hD e h
  |ok i k1 => exact Yml d g k v L w hD i k1 h
 by_cases h139 : c = 139
 ·subst h139
  have e : Ya0 L 139 k = (Yau L 1 true k) := rfl
  rw [e]
  cases h : Yau L 1 true k with
  |err e => exact Ymu d g k v L w hD e h
  |ok i k1 => exact Ymz d g k v L w hD i k1 h
 by_cases h141 : c = 141
 ·subst h141
  have e : Ya0 L 141 k = (Yhb L k) := rfl
  rw [e]
  cases h : Yhb L k with
  |err e => exact Yny d g k v L w hD e h
  |ok i k1 => exact Ymo d g k v L w hD i k1 h
 by_cases h169 : c = 169
 ·subst h169
  have e : Ya0 L 169 k = ((Yal L k).bind fun o k => .ok ⟨11, 0, Yaq 0, o, false, 0⟩ k) := rfl
  rw [e]
  cases h : Yal L k with
  |err e => exact Yna d g k v L w hD e h
  |ok o k1 => exact Yn1 d g k v L w hD o k1 h
 by_cases h198 : c = 198
 ·subst h198
  have e : Ya0 L 198 k = (Yd0 L 198 k) := rfl
  rw [e]
  cases h : Yd0 L 198 k with
  |err e => exact Ynf d g k v L w hD e h
  |ok i k1 => exact Ymx d g k v L w hD i k1 h
 by_cases h199 : c = 199
 ·subst h199
  have e : Ya0 L 199 k = (Yd0 L 199 k) := rfl
  rw [e]
  cases h : Yd0 L 199 k with
  |err e => exact Yms d g k v L w hD e h
  |ok i k1 => exact Ymt d g k v L w hD i k1 h
 have e : Ya0 L c k = Ycb L c k := by simp [Ya0, h104, h106, h129, h131, h133, h135, h136, h138, h137, h139, h141, h169, h198, h199]
 rw [e]
 cases h : Ycb L c k with
 |err e => exact Ynk d g k v L w hD c hc0 hc1 h104 h106 h129 h131 h133 h135 h136 h138 h137 h139 h141 h169 h198 h199 e h
 |ok i k1 => exact Ynv d g k v L w hD c hc0 hc1 h104 h106 h129 h131 h133 h135 h136 h138 h137 h139 h141 h169 h198 h199 i k1 h
end Go.Proofs.YthakgjpejhjaoaaGreat
