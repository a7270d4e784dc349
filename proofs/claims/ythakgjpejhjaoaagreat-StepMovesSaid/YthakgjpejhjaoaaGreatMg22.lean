/-
  Parts of the proof (their names shortened by a program). No condition.
-/
import Derived.Test.YthakgjpejhjaoaaGreatMg01
import Derived.Test.YthakgjpejhjaoaaGreatMg06
import Derived.Test.YthakgjpejhjaoaaGreatMg21
import Derived.Test.YthakgjpejhjaoaaGreatMg03
import Derived.ChangeKeysEq
import Derived.Lib.SliceRun
import Derived.Laws.IdiomStrings
import Derived.Outline
import Derived.Test.YthakgjpejhjaoaaGreatMg02
import Derived.Deep.QuietTactic
import Derived.BigQuiet
import Derived.Test.YthakgjpejhjaoaaGreatMg04
import Derived.ChangeSlices
import Derived.Test.YthakgjpejhjaoaaGreatMg20
namespace Go.Proofs.YthakgjpejhjaoaaGreat
open Go Go.RowKit
set_option linter.unusedVariables false
set_option linter.unusedSimpArgs false
set_option maxRecDepth 100000
set_option maxHeartbeats 16000000
section
structure FeR where
 i : Ins
 f : Flt
 k : Bool
def Yd7 (M : Mem) (pc : Int) : Nat → List Int → FeR
 |0, _ => ⟨Ins.zero, ⟨4, pc, 0, 0⟩, false⟩
 |n + 1, L =>
  if Yet L = 0 then ⟨decI L, Flt.zero, true⟩
  else if Yet L = 90 then ⟨Ins.zero, ⟨3, pc, 0, 0⟩, false⟩
  else if Yet L = 12 then ⟨Ins.zero, ⟨4, pc, 0, 0⟩, false⟩
  else if M.readK (Yac pc L.length) 1 4 then Yd7 M pc n (L ++ [M.readV (Yac pc L.length) 1 4])
  else ⟨Ins.zero, { M.rdF (Yac pc L.length) 1 4 with pc := pc }, false⟩
def Ya6 (M : Mem) (pc : Int) : FeR := Yd7 M pc 16 []
def feW (w : World) : World := ((w.alloc (.cells Ins.zero.cells 41)).alloc (.cells #[.int .i64 0, .int .u32 0, .int .u32 0, .int .i64 0] 35)).alloc (.cells #[.bool false] 4)
theorem feW_up (w : World) : Upd [] w (feW w) := (((Upd.refl [] w).alloc _).alloc _).alloc _
theorem feW_i (w : World) : (feW w).heap[w.heap.size]? = some (.cells Ins.zero.cells 41 (0, 0)) := Ym _ (heap_alloc2_old _ _ _)
theorem feW_f (w : World) : (feW w).heap[w.heap.size + 1]? = some (.cells #[.int .i64 0, .int .u32 0, .int .u32 0, .int .i64 0] 35 (0, 0)) := Ym _ (heap_alloc2_new _ _ _)
theorem feW_k (w : World) : (feW w).heap[w.heap.size + 1 + 1]? = some (.cells #[.bool false] 4 (0, 0)) := by
 have := heap_alloc_new ((w.alloc (.cells Ins.zero.cells 41)).alloc (.cells #[.int .i64 0, .int .u32 0, .int .u32 0, .int .i64 0] 35)) (.cells #[.bool false] 4)
 rwa [show ((w.alloc (.cells Ins.zero.cells 41)).alloc (.cells #[.int .i64 0, .int .u32 0, .int .u32 0, .int .i64 0] 35)).heap.size = w.heap.size + 2 from by simp] at this
theorem plus_lt' (x : Int) (k : Nat) : Yac x k < 4294967296 := by unfold Yac; omega
theorem Ylz {M : Mem} (h : M.Ok) (x r : Int) : 0 ≤ M.readV x 1 r ∧ M.readV x 1 r ≤ 255 := by
 unfold Mem.readV
 rw [show (Yau 1).toNat = 1 from rfl]
 split
 ·have := h.B (Yac x 0).toNat
  simp only [Mem.get]
  simp
  omega
 ·decide
theorem byl_lit2 (w : World) (O : Obj) (x : Int) (T : TypeId) : Yes ((w.alloc O).alloc (.cells #[.int .u8 x] T)) (.slice (some ⟨w.heap.size + 1, 0, none⟩) 1 1) [x] (w.heap.size + 1) := by
 have h := Yn9 (w.alloc O) [x] #[.int .u8 x] T rfl
 rwa [show (w.alloc O).heap.size = w.heap.size + 1 from by simp] at h
structure FeS (w : World) (v : Value) (L : List Int) (wr : World) : Prop where
 d : Dn (feW w) v L wr
 r : BOk L
 n : L.length ≤ 16
section
variable {w w1 w2 : World} {v : Value} {L : List Int}
theorem FeS.up (h : FeS w v L w1) : Upd [] w w1 := (feW_up w).also h.d.u (by simp)
theorem FeS.i (h : FeS w v L w1) : w1.heap[w.heap.size]? = some (.cells Ins.zero.cells 41 (0, 0)) := h.d.u.get (feW_i w) (by simp)
theorem FeS.f (h : FeS w v L w1) : w1.heap[w.heap.size + 1]? = some (.cells #[.int .i64 0, .int .u32 0, .int .u32 0, .int .i64 0] 35 (0, 0)) := h.d.u.get (feW_f w) (by simp)
theorem FeS.k (h : FeS w v L w1) : w1.heap[w.heap.size + 1 + 1]? = some (.cells #[.bool false] 4 (0, 0)) := h.d.u.get (feW_k w) (by simp)
theorem FeS.step (h : FeS w v L w1) (u : Upd [] w1 w2) : FeS w v L w2 := ⟨h.d.step u, h.r, h.n⟩
theorem FeS.ins (h : FeS w v L w1) {j : Ins} (hw : (w1.alloc (.cells Ins.zero.cells 41)).setCells w1.heap.size 0 j.cells.toList = w2) : FeS w v L w2 ∧ w2.heap[w1.heap.size]? = some (.cells j.cells 41 (0, 0)) := by
 obtain ⟨z1, z2⟩ := Ya7 (S := []) (w0 := w1) hw (heap_alloc_new w1 (.cells Ins.zero.cells 41)) rfl ((Upd.refl [] w1).alloc _) (.inr (Nat.le_refl _))
 exact ⟨h.step z2, z1⟩
theorem FeS.grow {v' : Value} {x : Int} (h : FeS w v L w1) (hg : Grew w1 (feW w).heap.size v (L ++ [x]) v' w2) (hx : 0 ≤ x ∧ x ≤ 255) (hn : L.length < 16) : FeS w v' (L ++ [x]) w2 :=
 ⟨h.d.grow hg, BOk.app h.r (fun i => by cases i with | zero => simpa using hx | succ i => simp), by simp; omega⟩
theorem FeS.form (h : FeS w v L w1) : ∃ b c, v = .slice b L.length c := by
 obtain ⟨g, hb, _⟩ := h.d.o.barg h.r (by have := h.n; unfold maxLen; omega)
 exact hb.b.form
theorem FeS.bad (h : FeS w v L w1) {fn : Func} {tmps : Array Value} (hr : fn.results = Tryz.f21.results) (F : Flt) (pc : Int) (h4 : tmps.getD 4 undef = .pointer (some ⟨w.heap.size, 0, none⟩)) (h5 : tmps.getD 5 undef = .pointer (some ⟨w.heap.size + 1, 0, none⟩)) (h6 : tmps.getD 6 undef = .pointer (some ⟨w.heap.size + 1 + 1, 0, none⟩)) :
  Leaves Tryz.prog fn tmps (fun e w' => e = .returned (.tuple #[Ins.zero.val, ({ F with pc := pc } : Flt).val, .bool false]) ∧ Upd [] w w') (Yi3 pc (w.heap.size + 1) (w.heap.size + 1 + 1)) (.panicking [{ v := .iface 35 F.val, recovered := false }]) w1 := by
 refine Yl4 F (.tuple #[Ins.zero.val, ({ F with pc := pc } : Flt).val, .bool false]) (fun w2 hf hk hU => ?_) h.f h.k (by omega) (fun w2 hU => ⟨rfl, h.up.also hU (by simp <;> omega)⟩)
 exact Yao hr (Ys 4 w.heap.size Ins.zero h4 (hU.get h.i (by simp <;> omega))) (Ydf 5 (w.heap.size + 1) { F with pc := pc } h5 hf) (Yeq 6 (w.heap.size + 1 + 1) false h6 hk)
end
theorem Yjh (M : Mem) (a pb : Nat) (pc : Int) (w : World) (hM : Yk w a pb M) (h0 : 0 ≤ pc ∧ pc < 4294967296) :
  Calls Tryz.prog 21 #[.pointer (some ⟨a, 0, none⟩), .int .u32 pc] w fun e w' => e = .returned (.tuple #[(Ya6 M pc).i.val, (Ya6 M pc).f.val, .bool (Ya6 M pc).k]) ∧ Upd [] w w' := by
 have HM := Yh_ (And.intro hM h0)
 have HS := Yh_ (show FeS w (.slice none 0 0) [] (feW w) from ⟨Dn.start (Upd.refl [] _), fun i => by simp, by simp⟩)
 clear hM h0
 go_enter_defers Tryz.func21, Tryz.ntmps21
 go_wp2_with fail
 go_loopw [7] (fun v wr => ∃ L, FeS w v L wr ∧ Ya6 M pc = Yd7 M pc (16 - L.length) L) (fun v _ => 16 - (match v with | .slice _ n _ => n | _ => 0))
 case atStart => exact ⟨[], HS.out, rfl⟩
 case round =>
  obtain ⟨L, hB, hR⟩ := hrel
  obtain ⟨b, c, rfl⟩ := hB.form
  have HB := Yh_ hB
  have HR := Yh_ hR
  have hn := hB.n
  clear hB hR
  by_cases hlt : L.length < 16
  ·have d1 : decide ((L.length : Int) ≤ 15) = true := by simp; omega
   have d2 : decide (L.length ≤ 15) = true := by simp; omega
   have q1 : (L.length : Int) % 4294967296 = L.length := by omega
   have q2 : (pc + (L.length : Int)) % 4294967296 = Yac pc L.length := rfl
   have hs : 16 - L.length = (15 - L.length) + 1 := by omega
   have tokD : True := trivial
   have tokS : True := trivial
   obtain ⟨J, hJ⟩ : ∃ J, decI L = J := ⟨_, rfl⟩
   have HI_ := Yh_ hJ
   have HR2 := Yh_ (show Ya6 M pc = Yd7 M pc ((15 - L.length) + 1) L by rw [← hs]; exact HR.out)
   have HN := Yh_ hlt
   clear HR hs
   by_cases e0 : Yet L = 0
   ·have HE := Yh_ e0
    have HV := Yh_ (show Ya6 M pc = ⟨J, Flt.zero, true⟩ by rw [HR2.out, Yd7, if_pos e0, hJ])
    clear e0 hJ hlt hn
    go_wp2_with (first | (have _t := tokD; clear _t; go_at_call 37; obtain ⟨g3, hb3, _⟩ := HB.out.d.o.barg HB.out.r (by have := HB.out.n; unfold maxLen; omega); have HB3 := Yh_ hb3; clear hb3; refine (Yeo (.slice b L.length c) L g3 _ HB3.out).mono ?_; rintro e w2 ⟨rfl, hu⟩; rw [HE.out, HI_.out]; have B2 := Yh_ (HB.out.step hu); clear hu tokD HB) | (have _t := B2; clear _t; refine Ye 41 rfl ?_; refine Yd J w2.heap.size rfl _ _ rfl rfl rfl (heap_alloc_new w2 (.cells Ins.zero.cells 41)) rfl ?_; intro w3 hw; have B3 := Yh_ (B2.out.ins hw); clear hw B2) | (have _t := B3; clear _t; refine Yar 41 rfl ?_; refine Yaw J w2.heap.size rfl _ rfl rfl B3.out.2 ?_) | (have _t := tokS; have _t2 := B3; clear _t _t2; refine Ye 41 rfl ?_; refine Yd J w.heap.size rfl _ _ rfl rfl rfl B3.out.1.i rfl ?_; intro w5 hw; have h5 := Ya7 hw B3.out.1.i rfl (Upd.refl [w.heap.size] w3) (.inl (by simp)); have B5 := Yh_ (And.intro h5.1 (And.intro (h5.2.get B3.out.1.f (by simp <;> omega)) (And.intro (h5.2.get B3.out.1.k (by simp <;> omega)) (B3.out.1.up.also h5.2 (by simp <;> omega))))); clear hw h5 B3 tokS; have cf := Ya B5.out.2.1; have ff := Yn B5.out.2.1; have ck := Ya B5.out.2.2.1; have fk := Yn B5.out.2.2.1))
    have hF := Yg (a := ⟨w.heap.size + 1 + 1, 0, none⟩) (.bool true) (by simp) (Ycu B5.out.2.1 (.int .i64 0) (.int .u32 0) (.int .u32 0) (.int .i64 0))
    have UK := Ya0 (S := [w.heap.size + 1, w.heap.size + 1 + 1]) (b := w.heap.size + 1) (Upd.refl _ w5) (.inl (by simp)) (.int .i64 0) (.int .u32 0) (.int .u32 0) (.int .i64 0)
    have hK := Yh ((Ya0 (S := [w.heap.size + 1]) (b := w.heap.size + 1) (Upd.refl _ w5) (.inl (by simp)) (.int .i64 0) (.int .u32 0) (.int .u32 0) (.int .i64 0)).get B5.out.2.2.1 (by simp)) 0 (.bool true)
    have U2 := UK.setCell (p := ⟨w.heap.size + 1 + 1, 0, none⟩) (.inl (by simp)) (.bool true)
    rw [HV.out]
    refine Ypn (.tuple #[J.val, Flt.zero.val, .bool true]) ?_ ⟨rfl, B5.out.2.2.2.also U2 (by simp <;> omega)⟩
    exact Yao rfl (Ys 4 w.heap.size J rfl (U2.get B5.out.1 (by simp <;> omega))) (Ydf 5 (w.heap.size + 1) Flt.zero rfl hF) (Yeq 6 (w.heap.size + 1 + 1) true rfl hK)
   have hd0 : (Yet L == 0) = false := by simpa using e0
   by_cases e1 : Yet L = 90
   ·have HE := Yh_ e1
    have HV := Yh_ (show Ya6 M pc = ⟨Ins.zero, ⟨3, pc, 0, 0⟩, false⟩ by rw [HR2.out, Yd7, if_neg e0, if_pos e1])
    clear e0 e1 hJ hlt hn hd0
    go_wp2_with (first | (have _t := tokD; clear _t; go_at_call 37; obtain ⟨g3, hb3, _⟩ := HB.out.d.o.barg HB.out.r (by have := HB.out.n; unfold maxLen; omega); have HB3 := Yh_ hb3; clear hb3; refine (Yeo (.slice b L.length c) L g3 _ HB3.out).mono ?_; rintro e w2 ⟨rfl, hu⟩; rw [HE.out, HI_.out]; have B2 := Yh_ (HB.out.step hu); clear hu tokD HB) | (have _t := B2; clear _t; refine Ye 41 rfl ?_; refine Yd J w2.heap.size rfl _ _ rfl rfl rfl (heap_alloc_new w2 (.cells Ins.zero.cells 41)) rfl ?_; intro w3 hw; have B3 := Yh_ (B2.out.ins hw); clear hw B2))
    rw [HV.out]
    exact B3.out.1.bad rfl ⟨3, 0, 0, 0⟩ pc rfl rfl rfl
   by_cases e2 : Yet L = 12
   ·have HE := Yh_ e2
    have HV := Yh_ (show Ya6 M pc = ⟨Ins.zero, ⟨4, pc, 0, 0⟩, false⟩ by rw [HR2.out, Yd7, if_neg e0, if_neg e1, if_pos e2])
    clear e0 e1 e2 hJ hlt hn hd0
    go_wp2_with (first | (have _t := tokD; clear _t; go_at_call 37; obtain ⟨g3, hb3, _⟩ := HB.out.d.o.barg HB.out.r (by have := HB.out.n; unfold maxLen; omega); have HB3 := Yh_ hb3; clear hb3; refine (Yeo (.slice b L.length c) L g3 _ HB3.out).mono ?_; rintro e w2 ⟨rfl, hu⟩; rw [HE.out, HI_.out]; have B2 := Yh_ (HB.out.step hu); clear hu tokD HB) | (have _t := B2; clear _t; refine Ye 41 rfl ?_; refine Yd J w2.heap.size rfl _ _ rfl rfl rfl (heap_alloc_new w2 (.cells Ins.zero.cells 41)) rfl ?_; intro w3 hw; have B3 := Yh_ (B2.out.ins hw); clear hw B2))
    rw [HV.out]
    exact B3.out.1.bad rfl ⟨4, 0, 0, 0⟩ pc rfl rfl rfl
   have hd1 : (Yet L == 90) = false := by simpa using e1
   have hd2 : (Yet L == 12) = false := by simpa using e2
   obtain ⟨ee, hee⟩ : ∃ ee, Yet L = ee := ⟨_, rfl⟩
   rw [hee] at hd0 hd1 hd2
   have HE := Yh_ hee
   obtain ⟨x, hx⟩ : ∃ x, M.readV (Yac pc L.length) 1 4 = x := ⟨_, rfl⟩
   have HX := Yh_ hx
   have hxr := Ylz HM.out.1.ok (Yac pc L.length) 4
   rw [hx] at hxr
   have q3 : x % 256 = x := by omega
   obtain ⟨⟨fk, fp, fa, fw⟩, hF⟩ : ∃ F, M.rdF (Yac pc L.length) 1 4 = F := ⟨_, rfl⟩
   have HF := Yh_ hF
   cases hk : M.readK (Yac pc L.length) 1 4
   ·have HK := Yh_ hk
    have HV := Yh_ (show Ya6 M pc = ⟨Ins.zero, ⟨fk, pc, fa, fw⟩, false⟩ by rw [HR2.out, Yd7, if_neg e0, if_neg e1, if_neg e2, if_neg (by rw [hk]; simp), hF])
    clear e0 e1 e2 hJ hlt hn hk hF hx hee
    go_wp2_with (first | (have _t := tokD; clear _t; go_at_call 37; obtain ⟨g3, hb3, _⟩ := HB.out.d.o.barg HB.out.r (by have := HB.out.n; unfold maxLen; omega); have HB3 := Yh_ hb3; clear hb3; refine (Yeo (.slice b L.length c) L g3 _ HB3.out).mono ?_; rintro e w2 ⟨rfl, hu⟩; rw [HE.out, HI_.out]; have B2 := Yh_ (HB.out.step hu); clear hu tokD HB) | (have _t := B2; clear _t; refine Ye 41 rfl ?_; refine Yd J w2.heap.size rfl _ _ rfl rfl rfl (heap_alloc_new w2 (.cells Ins.zero.cells 41)) rfl ?_; intro w3 hw; have B3 := Yh_ (B2.out.ins hw); clear hw B2) | (have _t := B3; clear _t; go_at_call 38; refine (Ygv M a pb (Yac pc L.length) 1 4 _ (HM.out.1.keep B3.out.1.up (by simp) (by simp)) (Ybd _ _) (plus_lt' _ _)).mono ?_; rintro e w4 ⟨rfl, hu⟩; rw [Mem.readF_val, HF.out, HK.out, HX.out]; unfold Flt.val; have B4 := Yh_ (B3.out.1.step hu); clear hu B3))
    rw [HV.out]
    exact (B4.out.step ((Upd.refl [] w4).alloc (.cells #[.int .i64 fk, .int .u32 fp, .int .u32 fa, .int .i64 fw] 35))).bad rfl ⟨fk, fp, fa, fw⟩ pc rfl rfl rfl
   ·have HK := Yh_ hk
    have HV := Yh_ (show Ya6 M pc = Yd7 M pc (15 - L.length) (L ++ [x]) by rw [HR2.out, Yd7, if_neg e0, if_neg e1, if_neg e2, if_pos hk, hx])
    clear e0 e1 e2 hJ hlt hn hk hF hx hee
    have HXR := Yh_ hxr
    go_wp2_with (first | (have _t := tokD; clear _t; go_at_call 37; obtain ⟨g3, hb3, _⟩ := HB.out.d.o.barg HB.out.r (by have := HB.out.n; unfold maxLen; omega); have HB3 := Yh_ hb3; clear hb3; refine (Yeo (.slice b L.length c) L g3 _ HB3.out).mono ?_; rintro e w2 ⟨rfl, hu⟩; rw [HE.out, HI_.out]; have B2 := Yh_ (HB.out.step hu); clear hu tokD HB) | (have _t := B2; clear _t; refine Ye 41 rfl ?_; refine Yd J w2.heap.size rfl _ _ rfl rfl rfl (heap_alloc_new w2 (.cells Ins.zero.cells 41)) rfl ?_; intro w3 hw; have B3 := Yh_ (B2.out.ins hw); clear hw B2) | (have _t := B3; clear _t; go_at_call 38; refine (Ygv M a pb (Yac pc L.length) 1 4 _ (HM.out.1.keep B3.out.1.up (by simp) (by simp)) (Ybd _ _) (plus_lt _ _)).mono ?_; rintro e w4 ⟨rfl, hu⟩; rw [Mem.readF_val, HF.out, HK.out, HX.out]; unfold Flt.val; have B4 := Yh_ (B3.out.1.step hu); clear hu B3) | (have _t := B4; clear _t; at_builtin; refine Yif rfl _ _ rfl (feW w).heap.size (.slice b L.length c) L rfl ((B4.out.step (((Upd.refl [] w4).alloc (.cells #[.int .i64 fk, .int .u32 fp, .int .u32 fa, .int .i64 fw] 35)).alloc (.cells #[.int .u8 x] 5))).d.o) (.slice (some ⟨w4.heap.size + 1, 0, none⟩) 1 1) [x] (w4.heap.size + 1) rfl (byl_lit2 w4 (.cells #[.int .i64 fk, .int .u32 fp, .int .u32 fa, .int .i64 fw] 35) x _) (by have := HN.out; simp; omega) (by have := B4.out.d.u.size; simp; omega) ?_; intro v2 w6 hg; have B6 := Yh_ ((B4.out.step (((Upd.refl [] w4).alloc (.cells #[.int .i64 fk, .int .u32 fp, .int .u32 fa, .int .i64 fw] 35)).alloc (.cells #[.int .u8 x] 5))).grow hg HXR.out HN.out); clear hg B4))
    obtain ⟨b2, c2, hv2⟩ := B6.out.form
    subst hv2
    exact ⟨⟨L ++ [x], B6.out, by rw [HV.out, show 16 - (L ++ [x]).length = 15 - L.length from by rw [List.length_append]; simp only [List.length_cons, List.length_nil]; omega]⟩, by have := HN.out; rw [List.length_append]; simp only [List.length_cons, List.length_nil]; omega⟩
  ·obtain hlen : L.length = 16 := by omega
   have d1 : decide ((L.length : Int) ≤ 15) = false := by simp; omega
   have d2 : decide (L.length ≤ 15) = false := by simp; omega
   have HV := Yh_ (show Ya6 M pc = ⟨Ins.zero, ⟨4, pc, 0, 0⟩, false⟩ by rw [HR.out, hlen]; rfl)
   clear hlen hlt hn
   go_wp2_with fail
   rw [HV.out]
   exact HB.out.bad rfl ⟨4, 0, 0, 0⟩ pc rfl rfl rfl
end
section
theorem Yk6 {w1 w2 : World} {I : Ins} (hw : ((w1.alloc (.cells Ins.zero.cells 41)).alloc (.cells #[.int .i64 0, .int .u32 0, .int .u32 0, .int .i64 0] 35)).setCells w1.heap.size 0 I.cells.toList = w2) :
  w2.heap[w1.heap.size]? = some (.cells I.cells 41 (0, 0)) ∧ w2.heap[w1.heap.size + 1]? = some (.cells #[.int .i64 0, .int .u32 0, .int .u32 0, .int .i64 0] 35 (0, 0)) ∧ Upd [] w1 w2 := by
 have u := ((Upd.refl [] w1).alloc (.cells Ins.zero.cells 41)).alloc (.cells #[.int .i64 0, .int .u32 0, .int .u32 0, .int .i64 0] 35)
 obtain ⟨z1, z2⟩ := Ya7 (S := []) (w0 := w1) hw (heap_alloc2_old w1 _ _) rfl u (.inr (Nat.le_refl _))
 obtain ⟨_, z3⟩ := Ya7 (S := [w1.heap.size]) hw (heap_alloc2_old w1 _ _) rfl (Upd.refl _ _) (.inl (by simp))
 exact ⟨z1, z3.get (heap_alloc2_new w1 (.cells Ins.zero.cells 41) (.cells #[.int .i64 0, .int .u32 0, .int .u32 0, .int .i64 0] 35)) (by simp), z2⟩
structure Yd9 (w : World) (a pb : Nat) (t : St) (F : Flt) (i : Ins) (ib : Nat) (M : Mem) (w1 : World) : Prop where
 zs : w1.heap[w.heap.size]? = some (.cells t.cells 28 (0, 0))
 zo : w1.heap[w.heap.size + 1]? = some (.cells St.zero.cells 28 (0, 0))
 zg : w1.heap[w.heap.size + 1 + 1]? = some (.cells (Yo Flt.zero) 35 (0, 0))
 zi : w1.heap[ib]? = some (.cells i.cells 41 (0, 0))
 zf : w1.heap[ib + 1]? = some (.cells (Yo F) 35 (0, 0))
 m : Yk w1 a pb M
 u : Upd [pb] w w1
 l : w.heap.size + 1 + 1 < ib ∧ pb < w.heap.size ∧ a < w.heap.size
def stpW (w : World) (s : St) : World := ((w.alloc (.cells s.cells 28)).alloc (.cells St.zero.cells 28)).alloc (.cells #[.int .i64 0, .int .u32 0, .int .u32 0, .int .i64 0] 35)
theorem Yjb (w : World) (s : St) : Upd [] w (stpW w s) := (((Upd.refl [] w).alloc _).alloc _).alloc _
theorem stpW_z (w : World) (s : St) : (stpW w s).heap[w.heap.size]? = some (.cells s.cells 28 (0, 0)) ∧ (stpW w s).heap[w.heap.size + 1]? = some (.cells St.zero.cells 28 (0, 0)) ∧ (stpW w s).heap[w.heap.size + 1 + 1]? = some (.cells (Yo Flt.zero) 35 (0, 0)) := by
 have h2 := heap_alloc_new ((w.alloc (.cells s.cells 28)).alloc (.cells St.zero.cells 28)) (.cells #[.int .i64 0, .int .u32 0, .int .u32 0, .int .i64 0] 35)
 rw [show ((w.alloc (.cells s.cells 28)).alloc (.cells St.zero.cells 28)).heap.size = w.heap.size + 1 + 1 from by simp] at h2
 exact ⟨Ym _ (heap_alloc2_old _ _ _), Ym _ (heap_alloc2_new _ _ _), h2⟩
theorem Ypd (w : World) (s : St) : (stpW w s).heap.size = w.heap.size + 3 := by simp [stpW]
section
variable {w w1 w2 : World} {a pb : Nat} {t t2 : St} {F F2 : Flt} {i : Ins} {ib : Nat} {M M2 : Mem}
theorem Yd9.of {s : St} (hM : Yk w a pb M) (hu : Upd [] (stpW w s) w1) (h2 : w2.heap[w1.heap.size]? = some (.cells i.cells 41 (0, 0)) ∧ w2.heap[w1.heap.size + 1]? = some (.cells #[.int .i64 0, .int .u32 0, .int .u32 0, .int .i64 0] 35 (0, 0)) ∧ Upd [] w1 w2) :
  Yd9 w a pb s F i w1.heap.size M ((((w2.setCell ⟨w1.heap.size + 1, 0, none⟩ (.int .i64 F.k)).setCell ⟨w1.heap.size + 1, 1, none⟩ (.int .u32 F.pc)).setCell ⟨w1.heap.size + 1, 2, none⟩ (.int .u32 F.a)).setCell ⟨w1.heap.size + 1, 3, none⟩ (.int .i64 F.wt)) := by
 obtain ⟨z1, z2, z3⟩ := stpW_z w s
 have hl := hu.size
 rw [Ypd] at hl
 have u4 := Ya0 (S := [w1.heap.size + 1]) (b := w1.heap.size + 1) (Upd.refl _ w2) (.inl (by simp)) (.int .i64 F.k) (.int .u32 F.pc) (.int .u32 F.a) (.int .i64 F.wt)
 have uu := (Yjb w s).also (hu.also h2.2.2 (by simp)) (by simp)
 have u5 := uu.also (S' := [w1.heap.size + 1]) u4 (by simp <;> omega)
 have g : ∀ {b : Nat} {O : Obj}, (stpW w s).heap[b]? = some O → b < w1.heap.size → ((((w2.setCell ⟨w1.heap.size + 1, 0, none⟩ (.int .i64 F.k)).setCell ⟨w1.heap.size + 1, 1, none⟩ (.int .u32 F.pc)).setCell ⟨w1.heap.size + 1, 2, none⟩ (.int .u32 F.a)).setCell ⟨w1.heap.size + 1, 3, none⟩ (.int .i64 F.wt)).heap[b]? = some O := fun hb hb2 => u4.get (h2.2.2.get (hu.get hb (by simp)) (by simp)) (by simp <;> omega)
 exact ⟨g z1 (by omega), g z2 (by omega), g z3 (by omega), u4.get h2.1 (by simp), Ycu h2.2.1 _ _ _ _, hM.keep u5 (by simp) (by simp), u5.mono (by simp), by omega, by obtain ⟨C, _, hc⟩ := hM.pg; exact Yj hc, by obtain ⟨C, _, hc⟩ := hM.hd; exact Yj hc⟩
theorem Yd9.mem (h : Yd9 w a pb t F i ib M w1) (hm : Yk w2 a pb M2) (u : Upd [pb] w1 w2) : Yd9 w a pb t F i ib M2 w2 := by
 have hl := h.l
 exact ⟨u.get h.zs (by simp <;> omega), u.get h.zo (by simp <;> omega), u.get h.zg (by simp <;> omega), u.get h.zi (by simp <;> omega), u.get h.zf (by simp <;> omega), hm, h.u.also u (by simp), hl⟩
theorem Yd9.st (h : Yd9 w a pb t F i ib M w1) (hw : w1.setCells w.heap.size 0 t2.cells.toList = w2) : Yd9 w a pb t2 F i ib M w2 := by
 have hl := h.l
 have u : Upd [w.heap.size] w1 w2 := hw ▸ (Upd.refl [w.heap.size] w1).setCells (.inl (by simp)) _ _
 exact ⟨hw ▸ Ybk t2 h.zs (St.size t), u.get h.zo (by simp), u.get h.zg (by simp <;> omega), u.get h.zi (by simp <;> omega), u.get h.zf (by simp <;> omega), h.m.keep u (by simp <;> omega) (by simp <;> omega), h.u.also u (by simp <;> omega), hl⟩
theorem Yd9.fl (h : Yd9 w a pb t F i ib M w1) (F2 : Flt) : Yd9 w a pb t F2 i ib M ((((w1.setCell ⟨ib + 1, 0, none⟩ (.int .i64 F2.k)).setCell ⟨ib + 1, 1, none⟩ (.int .u32 F2.pc)).setCell ⟨ib + 1, 2, none⟩ (.int .u32 F2.a)).setCell ⟨ib + 1, 3, none⟩ (.int .i64 F2.wt)) := by
 have hl := h.l
 have u := Ya0 (S := [ib + 1]) (b := ib + 1) (Upd.refl _ w1) (.inl (by simp)) (.int .i64 F2.k) (.int .u32 F2.pc) (.int .u32 F2.a) (.int .i64 F2.wt)
 exact ⟨u.get h.zs (by simp <;> omega), u.get h.zo (by simp <;> omega), u.get h.zg (by simp <;> omega), u.get h.zi (by simp), Ycu h.zf _ _ _ _, h.m.keep u (by simp <;> omega) (by simp <;> omega), h.u.also u (by simp <;> omega), hl⟩
end
structure Yfd (w : World) (a pb : Nat) (t : St) (F : Flt) (i : Ins) (ib : Nat) (M : Mem) (dn : Nat → Bool) (w1 : World) : Prop where
 zs : w1.heap[w.heap.size]? = some (.cells t.cells 28 (0, 0))
 zo : ∃ X, w1.heap[w.heap.size + 1]? = some (.cells X 28 (0, 0)) ∧ X.size = 17 ∧ (dn 9 = true → X = t.cells)
 zg : ∃ G, w1.heap[w.heap.size + 1 + 1]? = some (.cells (Yo G) 35 (0, 0)) ∧ (dn 10 = true → G = F)
 zi : w1.heap[ib]? = some (.cells i.cells 41 (0, 0))
 zf : w1.heap[ib + 1]? = some (.cells (Yo F) 35 (0, 0))
 m : Yk w1 a pb M
 u : Upd [pb] w w1
 l : w.heap.size + 1 + 1 < ib ∧ pb < w.heap.size ∧ a < w.heap.size
section
variable {w w1 : World} {a pb : Nat} {t : St} {F : Flt} {i : Ins} {ib : Nat} {M : Mem} {dn : Nat → Bool}
theorem Yd9.b (h : Yd9 w a pb t F i ib M w1) : Yfd w a pb t F i ib M (fun _ => false) w1.drew := by
 have u := (Upd.refl [] w1).drew
 exact ⟨u.get h.zs (by simp), ⟨_, u.get h.zo (by simp), St.size _, by simp⟩, ⟨_, u.get h.zg (by simp), by simp⟩, u.get h.zi (by simp), u.get h.zf (by simp), h.m.keep u (by simp) (by simp), h.u.drew, h.l⟩
theorem Yfd.same (h : Yfd w a pb t F i ib M dn w1) (m : Nat) (h1 : 9 ≠ m) (h2 : 10 ≠ m) : Yfd w a pb t F i ib M (Yah dn m) w1 := by
 obtain ⟨X, x1, x2, x3⟩ := h.zo
 obtain ⟨G, g1, g2⟩ := h.zg
 exact ⟨h.zs, ⟨X, x1, x2, fun hk => x3 (by rwa [Yp h1] at hk)⟩, ⟨G, g1, fun hk => g2 (by rwa [Yp h2] at hk)⟩, h.zi, h.zf, h.m, h.u, h.l⟩
theorem Yfd.putS (h : Yfd w a pb t F i ib M dn w1) : Yfd w a pb t F i ib M (Yah dn 9) (w1.setCells (w.heap.size + 1) 0 t.cells.toList) := by
 have hl := h.l
 obtain ⟨X, x1, x2, x3⟩ := h.zo
 obtain ⟨G, g1, g2⟩ := h.zg
 have u : Upd [w.heap.size + 1] w1 (w1.setCells (w.heap.size + 1) 0 t.cells.toList) := (Upd.refl [w.heap.size + 1] w1).setCells (.inl (by simp)) _ _
 exact ⟨u.get h.zs (by simp), ⟨_, Ybk t x1 x2, St.size _, fun _ => rfl⟩, ⟨G, u.get g1 (by simp), fun hk => g2 (by rwa [Yp (by decide)] at hk)⟩, u.get h.zi (by simp <;> omega), u.get h.zf (by simp <;> omega), h.m.keep u (by simp <;> omega) (by simp <;> omega), h.u.also u (by simp <;> omega), hl⟩
theorem Yfd.putF (h : Yfd w a pb t F i ib M dn w1) : Yfd w a pb t F i ib M (Yah dn 10) (w1.setCells (w.heap.size + 1 + 1) 0 (Yo F).toList) := by
 have hl := h.l
 obtain ⟨X, x1, x2, x3⟩ := h.zo
 obtain ⟨G, g1, g2⟩ := h.zg
 have u : Upd [w.heap.size + 1 + 1] w1 (w1.setCells (w.heap.size + 1 + 1) 0 (Yo F).toList) := (Upd.refl [w.heap.size + 1 + 1] w1).setCells (.inl (by simp)) _ _
 exact ⟨u.get h.zs (by simp <;> omega), ⟨X, u.get x1 (by simp), x2, fun hk => x3 (by rwa [Yp (by decide)] at hk)⟩, ⟨F, by rw [Yag _ _ _ _ g1]; rfl, fun _ => rfl⟩, u.get h.zi (by simp <;> omega), u.get h.zf (by simp <;> omega), h.m.keep u (by simp <;> omega) (by simp <;> omega), h.u.also u (by simp <;> omega), hl⟩
end
theorem Yg4 {P : Program} {fn : Func} {tmps : Array Value} {w : World} {r0 r1 r2 r3 : ResultVar} {v0 v1 v2 v3 : Value} (h : fn.results = #[r0, r1, r2, r3]) (h0 : (Ybt tmps r0).run P w = .ok v0 w) (h1 : (Ybt tmps r1).run P w = .ok v1 w) (h2 : (Ybt tmps r2).run P w = .ok v2 w) (h3 : (Ybt tmps r3).run P w = .ok v3 w) : (results fn tmps).run P w = .ok (.tuple #[v0, v1, v2, v3]) w := by
 rw [Yfg, h]
 simp [Sem.run_bind, h0, h1, h2, h3]
theorem Yh8 (a pb : Nat) (s s2 : St) (i : Ins) (F : Flt) (M M2 : Mem) (w : World) (hM : Yk w a pb M) (hs : s.Ok) (hi : (Ya6 M s.pc).i = i) (hk : (Ya6 M s.pc).k = true)
  (hd : ∀ w1, Yk w1 a pb M → Calls Tryz.prog 15 #[.pointer (some ⟨a, 0, none⟩), .agg s.cells, .agg i.cells] w1 fun e w' => e = .returned (.tuple #[.agg s2.cells, F.val, .bool true]) ∧ Yk w' a pb M2 ∧ Upd [pb] w1 w') :
  Calls Tryz.prog 25 #[.pointer (some ⟨a, 0, none⟩), .agg s.cells] w fun e w' => e = .returned (.tuple #[.agg s2.cells, F.val, .bool true, .bool (i.op == 43)]) ∧ Yk w' a pb M2 ∧ Upd [pb] w w' := by
 obtain ⟨⟨fk, fp, fa, fw⟩, hF⟩ : ∃ f, (Ya6 M s.pc).f = f := ⟨_, rfl⟩
 obtain ⟨gk, gp, ga, gw⟩ := F
 have HM := Yh_ (And.intro hM (And.intro hs (And.intro hi (And.intro hF hk))))
 have HD := Yh_ hd
 have hpc : s.cells[8]? = some (.int .u32 s.pc) := rfl
 clear hM hs hi hF hk hd
 have tok0 : True := trivial
 go_enter Tryz.func25, Tryz.ntmps25
 go_wp2_with (first | (have _t := tok0; clear _t; go_at_call 21; refine (Yjh M a pb s.pc _ (HM.out.1.keep (Yjb w s) (by simp) (by simp)) HM.out.2.1.pc).mono ?_; rintro e w1 ⟨rfl, hu⟩; rw [HM.out.2.2.1, HM.out.2.2.2.1, HM.out.2.2.2.2]; unfold Flt.val; have U1 := Yh_ (show Upd [] (stpW w s) w1 from hu); clear hu tok0) | (have _t := U1; clear _t; refine Ye 41 rfl ?_; refine Yd i w1.heap.size rfl _ _ rfl rfl rfl (heap_alloc2_old w1 (.cells Ins.zero.cells 41) (.cells #[.int .i64 0, .int .u32 0, .int .u32 0, .int .i64 0] 35)) rfl ?_; intro w2 hw; have h2 := Yk6 hw; have h3 := Yd9.of (F := ⟨fk, fp, fa, fw⟩) HM.out.1 U1.out h2; dsimp only at h3; have c2 := Ya h2.2.1; have f2 := Yn h2.2.1; have H3 := Yh_ h3; clear h2 hw h3 U1) | (have _t := H3; clear _t; refine Yar 28 rfl ?_; refine Yae s w.heap.size rfl _ rfl rfl H3.out.zs ?_) | (have _t := H3; clear _t; refine Yar 41 rfl ?_; refine Yaw i w1.heap.size rfl _ rfl rfl H3.out.zi ?_) | (have _t := H3; clear _t; go_at_call 15; refine (HD.out _ H3.out.m).mono ?_; rintro e w4 ⟨rfl, hm, hu⟩; unfold Flt.val; have H4 := Yh_ (H3.out.mem hm hu); clear hm hu H3 c2 f2) | (have _t := H4; clear _t; refine Ye 28 rfl ?_; refine Ya5 s2 w.heap.size rfl _ _ rfl rfl rfl H4.out.zs (St.size s) ?_; intro w5 hw; have h5 := H4.out.st hw; have h6 := h5.fl ⟨gk, gp, ga, gw⟩; dsimp only at h6; have cf := Ya h5.zf; have ff := Yn h5.zf; unfold Yo at cf; have H6 := Yh_ h6; clear hw h5 h6 H4))
 refine Ygm 12 (Yfd w a pb s2 ⟨gk, gp, ga, gw⟩ i w1.heap.size M2) (fun _ _ => False) (by kernel_rfl) (by decide +kernel) H6.out.b (fun _ _ _ h => h.elim) ?_
 simp only [List.take_succ_cons, List.take_zero, List.drop_succ_cons, List.drop_zero]
 apply Ya4 rfl rfl
 ·intro dn K hd hK w7 hB1
  refine Yax s2 w.heap.size _ rfl rfl hB1.zs ?_
  go_simp
  first
  |exact hK _ (hB1.same _ (by decide) (by decide))
  |exact hB1.same _ (by decide) (by decide)
 ·exact ⟨_, rfl⟩
 iterate 4
  apply Ya4 rfl rfl
  ·intro dn K hd hK w7 hB1
   have cf := Ya hB1.zf
   unfold Yo at cf
   dsimp only at cf
   have c0 : w7.cell? ⟨w1.heap.size, 0, none⟩ = some (.int .i64 i.op) := Ya hB1.zi 0
   have HB := Yh_ hB1
   clear hB1
   go_wp2_with fail
   first
   |exact hK _ (HB.out.same _ (by decide) (by decide))
   |exact HB.out.same _ (by decide) (by decide)
  ·exact ⟨_, rfl⟩
 iterate 3
  apply Ya4 rfl rfl
  ·intro dn K hd hK w7 hB1
   have cf := Ya hB1.zf
   unfold Yo at cf
   dsimp only at cf
   have c0 : w7.cell? ⟨w1.heap.size, 0, none⟩ = some (.int .i64 i.op) := Ya hB1.zi 0
   have HB := Yh_ hB1
   clear hB1
   go_wp2_with fail
   first
   |exact hK _ (HB.out.same _ (by decide) (by decide))
   |exact HB.out.same _ (by decide) (by decide)
  ·exact ⟨_, rfl⟩
 iterate 1
  apply Ya4 rfl rfl
  ·intro dn K hd hK w7 hB1
   have cf := Ya hB1.zf
   unfold Yo at cf
   dsimp only at cf
   have c0 : w7.cell? ⟨w1.heap.size, 0, none⟩ = some (.int .i64 i.op) := Ya hB1.zi 0
   have HB := Yh_ hB1
   clear hB1
   go_wp2_with fail
   first
   |exact hK _ (HB.out.same _ (by decide) (by decide))
   |exact HB.out.same _ (by decide) (by decide)
  ·exact ⟨_, rfl⟩
 apply Ya4 rfl rfl
 ·intro dn K hd hK w7 hB1
  obtain ⟨X, x1, x2, _⟩ := hB1.zo
  refine Yas s2 (w.heap.size + 1) _ _ rfl rfl rfl x1 x2 ?_
  intro w8 hw
  rw [← hw]
  exact hK _ hB1.putS
 ·exact ⟨undef, rfl⟩
 apply Ya4 rfl rfl
 ·intro dn K hd hK w7 hB1
  obtain ⟨G, g1, _⟩ := hB1.zg
  refine Yav ⟨gk, gp, ga, gw⟩ G (w.heap.size + 1 + 1) _ _ rfl rfl rfl g1 ?_
  exact hK _ hB1.putF
 ·exact ⟨undef, rfl⟩
 iterate 1
  apply Ya4 rfl rfl
  ·intro dn K hd hK w7 hB1
   have cf := Ya hB1.zf
   unfold Yo at cf
   dsimp only at cf
   have c0 : w7.cell? ⟨w1.heap.size, 0, none⟩ = some (.int .i64 i.op) := Ya hB1.zi 0
   have HB := Yh_ hB1
   clear hB1
   go_wp2_with fail
   first
   |exact hK _ (HB.out.same _ (by decide) (by decide))
   |exact HB.out.same _ (by decide) (by decide)
  ·exact ⟨_, rfl⟩
 refine Yf7 (fun _ w7 dn hall hB1 => ?_)
 obtain ⟨X, x1, x2, x3⟩ := hB1.zo
 obtain ⟨G, g1, g2⟩ := hB1.zg
 rw [x3 (hall 9 (by decide))] at x1
 rw [g2 (hall 10 (by decide))] at g1
 have H7 := Yh_ (And.intro x1 (And.intro g1 (And.intro hB1.m hB1.u)))
 clear hB1 x1 x2 x3 g1 g2 hall
 go_wp2_with fail
 exact bodyPost_ret (Yg4 rfl (Yf5 4 (w.heap.size + 1) s2 rfl H7.out.1) (Ydf 5 (w.heap.size + 1 + 1) ⟨gk, gp, ga, gw⟩ rfl H7.out.2.1) (Yal 6 rfl) (Yal 7 rfl)) rfl ⟨rfl, H7.out.2.2.1, H7.out.2.2.2⟩
theorem Step_bad (a pb : Nat) (s s2 : St) (i : Ins) (F : Flt) (M M2 : Mem) (w : World) (hM : Yk w a pb M) (hs : s.Ok) (hi : (Ya6 M s.pc).i = i) (hk : (Ya6 M s.pc).k = true)
  (hd : ∀ w1, Yk w1 a pb M → Calls Tryz.prog 15 #[.pointer (some ⟨a, 0, none⟩), .agg s.cells, .agg i.cells] w1 fun e w' => e = .returned (.tuple #[.agg s2.cells, F.val, .bool false]) ∧ Yk w' a pb M2 ∧ Upd [pb] w1 w') :
  Calls Tryz.prog 25 #[.pointer (some ⟨a, 0, none⟩), .agg s.cells] w fun e w' => e = .returned (.tuple #[.agg s2.cells, F.val, .bool false, .bool false]) ∧ Yk w' a pb M2 ∧ Upd [pb] w w' := by
 obtain ⟨⟨fk, fp, fa, fw⟩, hF⟩ : ∃ f, (Ya6 M s.pc).f = f := ⟨_, rfl⟩
 obtain ⟨gk, gp, ga, gw⟩ := F
 have HM := Yh_ (And.intro hM (And.intro hs (And.intro hi (And.intro hF hk))))
 have HD := Yh_ hd
 have hpc : s.cells[8]? = some (.int .u32 s.pc) := rfl
 clear hM hs hi hF hk hd
 have tok0 : True := trivial
 go_enter Tryz.func25, Tryz.ntmps25
 go_wp2_with (first | (have _t := tok0; clear _t; go_at_call 21; refine (Yjh M a pb s.pc _ (HM.out.1.keep (Yjb w s) (by simp) (by simp)) HM.out.2.1.pc).mono ?_; rintro e w1 ⟨rfl, hu⟩; rw [HM.out.2.2.1, HM.out.2.2.2.1, HM.out.2.2.2.2]; unfold Flt.val; have U1 := Yh_ (show Upd [] (stpW w s) w1 from hu); clear hu tok0) | (have _t := U1; clear _t; refine Ye 41 rfl ?_; refine Yd i w1.heap.size rfl _ _ rfl rfl rfl (heap_alloc2_old w1 (.cells Ins.zero.cells 41) (.cells #[.int .i64 0, .int .u32 0, .int .u32 0, .int .i64 0] 35)) rfl ?_; intro w2 hw; have h2 := Yk6 hw; have h3 := Yd9.of (F := ⟨fk, fp, fa, fw⟩) HM.out.1 U1.out h2; dsimp only at h3; have c2 := Ya h2.2.1; have f2 := Yn h2.2.1; have H3 := Yh_ h3; clear h2 hw h3 U1) | (have _t := H3; clear _t; refine Yar 28 rfl ?_; refine Yae s w.heap.size rfl _ rfl rfl H3.out.zs ?_) | (have _t := H3; clear _t; refine Yar 41 rfl ?_; refine Yaw i w1.heap.size rfl _ rfl rfl H3.out.zi ?_) | (have _t := H3; clear _t; go_at_call 15; refine (HD.out _ H3.out.m).mono ?_; rintro e w4 ⟨rfl, hm, hu⟩; unfold Flt.val; have H4 := Yh_ (H3.out.mem hm hu); clear hm hu H3 c2 f2) | (have _t := H4; clear _t; refine Ye 28 rfl ?_; refine Ya5 s2 w.heap.size rfl _ _ rfl rfl rfl H4.out.zs (St.size s) ?_; intro w5 hw; have h5 := H4.out.st hw; have h6 := h5.fl ⟨gk, gp, ga, gw⟩; dsimp only at h6; have cf := Ya h5.zf; have ff := Yn h5.zf; unfold Yo at cf; have H6 := Yh_ h6; clear hw h5 h6 H4))
 refine Ygm 12 (Yfd w a pb s2 ⟨gk, gp, ga, gw⟩ i w1.heap.size M2) (fun _ _ => False) (by kernel_rfl) (by decide +kernel) H6.out.b (fun _ _ _ h => h.elim) ?_
 simp only [List.take_succ_cons, List.take_zero, List.drop_succ_cons, List.drop_zero]
 apply Ya4 rfl rfl
 ·intro dn K hd hK w7 hB1
  refine Yax s2 w.heap.size _ rfl rfl hB1.zs ?_
  go_simp
  first
  |exact hK _ (hB1.same _ (by decide) (by decide))
  |exact hB1.same _ (by decide) (by decide)
 ·exact ⟨_, rfl⟩
 iterate 4
  apply Ya4 rfl rfl
  ·intro dn K hd hK w7 hB1
   have cf := Ya hB1.zf
   unfold Yo at cf
   dsimp only at cf
   have c0 : w7.cell? ⟨w1.heap.size, 0, none⟩ = some (.int .i64 i.op) := Ya hB1.zi 0
   have HB := Yh_ hB1
   clear hB1
   go_wp2_with fail
   first
   |exact hK _ (HB.out.same _ (by decide) (by decide))
   |exact HB.out.same _ (by decide) (by decide)
  ·exact ⟨_, rfl⟩
 iterate 3
  refine Yor rfl rfl (fun dn w7 hd hB1 => hB1.same _ (by decide) (by decide)) ?_
 iterate 1
  apply Ya4 rfl rfl
  ·intro dn K hd hK w7 hB1
   have cf := Ya hB1.zf
   unfold Yo at cf
   dsimp only at cf
   have c0 : w7.cell? ⟨w1.heap.size, 0, none⟩ = some (.int .i64 i.op) := Ya hB1.zi 0
   have HB := Yh_ hB1
   clear hB1
   go_wp2_with fail
   first
   |exact hK _ (HB.out.same _ (by decide) (by decide))
   |exact HB.out.same _ (by decide) (by decide)
  ·exact ⟨_, rfl⟩
 apply Ya4 rfl rfl
 ·intro dn K hd hK w7 hB1
  obtain ⟨X, x1, x2, _⟩ := hB1.zo
  refine Yas s2 (w.heap.size + 1) _ _ rfl rfl rfl x1 x2 ?_
  intro w8 hw
  rw [← hw]
  exact hK _ hB1.putS
 ·exact ⟨undef, rfl⟩
 apply Ya4 rfl rfl
 ·intro dn K hd hK w7 hB1
  obtain ⟨G, g1, _⟩ := hB1.zg
  refine Yav ⟨gk, gp, ga, gw⟩ G (w.heap.size + 1 + 1) _ _ rfl rfl rfl g1 ?_
  exact hK _ hB1.putF
 ·exact ⟨undef, rfl⟩
 iterate 1
  apply Ya4 rfl rfl
  ·intro dn K hd hK w7 hB1
   have cf := Ya hB1.zf
   unfold Yo at cf
   dsimp only at cf
   have c0 : w7.cell? ⟨w1.heap.size, 0, none⟩ = some (.int .i64 i.op) := Ya hB1.zi 0
   have HB := Yh_ hB1
   clear hB1
   go_wp2_with fail
   first
   |exact hK _ (HB.out.same _ (by decide) (by decide))
   |exact HB.out.same _ (by decide) (by decide)
  ·exact ⟨_, rfl⟩
 refine Yf7 (fun _ w7 dn hall hB1 => ?_)
 obtain ⟨X, x1, x2, x3⟩ := hB1.zo
 obtain ⟨G, g1, g2⟩ := hB1.zg
 rw [x3 (hall 9 (by decide))] at x1
 rw [g2 (hall 10 (by decide))] at g1
 have H7 := Yh_ (And.intro x1 (And.intro g1 (And.intro hB1.m hB1.u)))
 clear hB1 x1 x2 x3 g1 g2 hall
 go_wp2_with fail
 exact bodyPost_ret (Yg4 rfl (Yf5 4 (w.heap.size + 1) s2 rfl H7.out.1) (Ydf 5 (w.heap.size + 1 + 1) ⟨gk, gp, ga, gw⟩ rfl H7.out.2.1) (Yal 6 rfl) (Yal 7 rfl)) rfl ⟨rfl, H7.out.2.2.1, H7.out.2.2.2⟩
end
def Mem.samePage (M N : Mem) (p : Nat) : Bool := (M.R p == N.R p) && (List.range 256).all fun j => M.B (p * 256 + j) == N.B (p * 256 + j)
def Mem.same (M N : Mem) : Bool := (List.range 64).all fun p => M.samePage N p
structure Yfi where
 pg : Int
 ct : Int
 rt : Int
 by_ : ByteArray
 deriving Inhabited
def Yfi.ok (s : Yfi) : Prop := -9223372036854775808 ≤ s.ct ∧ s.ct ≤ 9223372036854775807
def Yhm (w : World) (v : Value) (l : List Yfi) (g : Nat) : Prop :=
 (∃ a c, v = .slice a 0 c ∧ l = []) ∨
 ∃ o c, v = .slice (some ⟨g, o, none⟩) l.length c ∧ g < w.heap.size ∧ l.length ≤ 9223372036854775807 ∧ ∀ i s, l[i]? = some s → w.cell? ⟨g, o + i * 4, none⟩ = some (.int .i64 s.pg) ∧ w.cell? ⟨g, o + i * 4 + 1, none⟩ = some (.int .i64 s.ct) ∧ w.cell? ⟨g, o + i * 4 + 2, none⟩ = some (.int .i64 s.rt) ∧ w.cell? ⟨g, o + i * 4 + 3, none⟩ = some (.string s.by_)
theorem Yhm.keep {w w' : World} {v : Value} {l : List Yfi} {g : Nat} {S : List Nat} (h : Yhm w v l g) (u : Upd S w w') (hg : g ∉ S) : Yhm w' v l g := by
 rcases h with h | ⟨o, c, h1, h2, h4, h3⟩
 ·exact .inl h
 ·refine .inr ⟨o, c, h1, Nat.lt_of_lt_of_le h2 u.size, h4, fun i s hs => ?_⟩
  have e : ∀ k, w'.cell? ⟨g, k, none⟩ = w.cell? ⟨g, k, none⟩ := fun k => by
   simp only [World.cell?]; rw [u.block g h2 hg]
  rw [e, e, e, e]
  exact h3 i s hs
section
open Go.WideShapes Go.ChangeShapes
structure Yfi.Ok (s : Yfi) : Prop where
 pg : -9223372036854775808 ≤ s.pg ∧ s.pg ≤ 9223372036854775807
 ct : -9223372036854775808 ≤ s.ct ∧ s.ct ≤ 9223372036854775807
 rt : -9223372036854775808 ≤ s.rt ∧ s.rt ≤ 9223372036854775807
 by_ : s.by_.size ≤ maxLen
structure SArg (w : World) (v : Value) (L : List Yfi) (g : Nat) : Prop where
 sp : Yhm w v L g
 ok : ∀ s ∈ L, s.Ok
 len : L.length ≤ maxLen
 lt : g ≤ w.heap.size
 form : ∀ b n c, v = .slice b n c → n = L.length
theorem SArg.keep {w w' : World} {v : Value} {L : List Yfi} {g : Nat} (h : SArg w v L g) (u : Upd [] w w') : SArg w' v L g :=
 ⟨h.sp.keep u (by simp), h.ok, h.len, Nat.le_trans h.lt u.size, h.form⟩
end
theorem Upd.drewN {S : List Nat} {a b : World} (h : Upd S a b) (n : Nat) : Upd S a (b.drewN n) := ⟨h.os, h.tape, h.output, h.size, h.block⟩
def Mem.rat (M : Mem) (k : Nat) : Value := if k < 64 then .int .i64 (M.R k) else .int .u8 (M.B (k - 64))
structure Yiy (C : Array Value) (M : Mem) : Prop where
 size : C.size = 16448
 get : ∀ k, k < 16448 → C[k]? = some (M.rat k)
structure Yce (w : World) (r : Nat) (M : Mem) : Prop where
 ex : ∃ C, Yiy C M ∧ w.heap[r]? = some (.cells C 100 (0, 0))
 ok : M.Ok
theorem Yce.lt {w : World} {r : Nat} {M : Mem} (h : Yce w r M) : r < w.heap.size := by
 obtain ⟨C, _, h1⟩ := h.ex; exact Yj h1
theorem Yce.keep {w w' : World} {r : Nat} {M : Mem} {S : List Nat} (h : Yce w r M) (u : Upd S w w') (hr : r ∉ S) : Yce w' r M := by
 obtain ⟨C, h1, h2⟩ := h.ex
 exact ⟨⟨C, h1, u.get h2 hr⟩, h.ok⟩
theorem Yce.cR {w : World} {r : Nat} {M : Mem} (h : Yce w r M) (p : Nat) (hp : p < 64) : w.cell? ⟨r, p, none⟩ = some (.int .i64 (M.R p)) := by
 obtain ⟨C, h1, h2⟩ := h.ex
 rw [Ya h2, h1.get p (by omega), Mem.rat, if_pos hp]
theorem Yce.cB {w : World} {r : Nat} {M : Mem} (h : Yce w r M) (a : Nat) (ha : a < 16384) : w.cell? ⟨r, 64 + a, none⟩ = some (.int .u8 (M.B a)) := by
 obtain ⟨C, h1, h2⟩ := h.ex
 rw [Ya h2, h1.get _ (by omega), Mem.rat, if_neg (by omega), Nat.add_sub_cancel_left]
theorem Yce.free {w : World} {r : Nat} {M : Mem} (h : Yce w r M) (o : Nat) : w.frozen? ⟨r, o, none⟩ = false := by
 obtain ⟨C, h1, h2⟩ := h.ex
 exact Yn h2 o
theorem Yce.setR {w : World} {r : Nat} {M : Mem} (h : Yce w r M) (p : Nat) (v : Int) (hp : p < 64) (h0 : 0 ≤ v) (h7 : v ≤ 7) : Yce (w.setCell ⟨r, p, none⟩ (.int .i64 v)) r (M.setR p v) := by
 obtain ⟨C, h1, h2⟩ := h.ex
 refine ⟨⟨_, ⟨by rw [Array.size_setIfInBounds]; exact h1.size, fun k hk => ?_⟩, Yh h2 p _⟩, Mem.setR_ok h.ok p h0 h7⟩
 rw [Array.getElem?_setIfInBounds, h1.get k hk, h1.size]
 by_cases e : p = k
 ·subst e
  rw [if_pos rfl, if_pos (by omega), Mem.rat, if_pos hp]
  simp [Mem.setR]
 ·rw [if_neg e]
  simp only [Mem.rat, Mem.setR]
  by_cases hk2 : k < 64
  ·rw [if_pos hk2, if_pos hk2, if_neg (fun h => e h.symm)]
  ·rw [if_neg hk2, if_neg hk2]
theorem Yce.setB {w : World} {r : Nat} {M : Mem} (h : Yce w r M) (a : Nat) (v : Int) (ha : a < 16384) (h0 : 0 ≤ v) (h7 : v ≤ 255) : Yce (w.setCell ⟨r, 64 + a, none⟩ (.int .u8 v)) r (M.setB a v) := by
 obtain ⟨C, h1, h2⟩ := h.ex
 refine ⟨⟨_, ⟨by rw [Array.size_setIfInBounds]; exact h1.size, fun k hk => ?_⟩, Yh h2 _ _⟩, Mem.setB_ok h.ok a h0 h7⟩
 rw [Array.getElem?_setIfInBounds, h1.get k hk, h1.size]
 by_cases e : 64 + a = k
 ·subst e
  rw [if_pos rfl, if_pos (by omega), Mem.rat, if_neg (by omega), Nat.add_sub_cancel_left]
  simp [Mem.setB]
 ·rw [if_neg e]
  simp only [Mem.rat, Mem.setB]
  by_cases hk2 : k < 64
  ·rw [if_pos hk2, if_pos hk2]
  ·rw [if_neg hk2, if_neg hk2, if_neg (by omega)]
def Mem.mapM (M : Mem) (p n r : Int) : Mem := if M.mapB p n r then M.mapN p.toNat n.toNat r else M
theorem Yce.drew {w : World} {r : Nat} {M : Mem} (h : Yce w r M) : Yce w.drew r M := ⟨h.ex, h.ok⟩
structure Rep (v : Value) (l : List Value) (n : Nat) : Prop where
 eq : l = List.replicate n v
theorem Rep.append {v : Value} {l m : List Value} {a b : Nat} (h : Rep v l a) (k : Rep v m b) : Rep v (l.append m) (a + b) :=
 ⟨by rw [h.eq, k.eq]; exact List.replicate_append_replicate⟩
structure Rep2 (v u : Value) (l : List Value) (n m : Nat) : Prop where
 eq : l = List.replicate n v ++ List.replicate m u
theorem Rep2.append {v u : Value} {l l' : List Value} {n m m' : Nat} (h : Rep2 v u l n m) (k : Rep u l' m') : Rep2 v u (l.append l') n (m + m') :=
 ⟨by rw [h.eq, k.eq]; show (List.replicate n v ++ List.replicate m u) ++ List.replicate m' u = _; rw [List.append_assoc, List.replicate_append_replicate]⟩
theorem rat_one (M : Mem) (k : Nat) : (M.rat k).oneCell' = true := by
 unfold Mem.rat; split <;> rfl
theorem Yiy.one {C : Array Value} {M : Mem} (h : Yiy C M) : C.all (·.oneCell') = true := by
 rw [Array.all_eq_true]
 intro i hi
 have hi' : i < 16448 := by rw [← h.size]; exact hi
 have e := h.get i hi'
 rw [Array.getElem?_eq_getElem hi] at e
 injection e with e
 rw [e]
 exact rat_one M i
theorem Yce.new {w : World} {C : Array Value} {M : Mem} (h : Yiy C M) (hok : M.Ok) : Yce (w.alloc (.cells C 100 (0, 0))) w.heap.size M := ⟨⟨C, h, heap_alloc_new _ _⟩, hok⟩
section
open Go.WideShapes Go.ChangeShapes
def ByS0 (w : World) (v : Value) (l : List Int) (g : Nat) : Prop := (∃ a c, v = .slice a 0 c ∧ l = []) ∨ (l ≠ [] ∧ g < w.heap.size ∧ Yes w v l g)
theorem ByS0.keep {w w' : World} {v : Value} {l : List Int} {g : Nat} (h : ByS0 w v l g) (u : Upd [] w w') : ByS0 w' v l g := by
 rcases h with h | ⟨h0, h1, h2⟩
 ·exact .inl h
 ·exact .inr ⟨h0, Nat.lt_of_lt_of_le h1 u.size, h2.keep u (by simp)⟩
structure Yhl where
 wt : Int
 pg : Int
 ct : Int
 rt : Int
 nb : Int
 at_ : Int
 v : Int
 vb : Value
 vs : Value
 B : List Int
 S : List Yfi
 gb : Nat
 gs : Nat
def Yhl.cells (s : Yhl) : Array Value := #[.int .i64 s.wt, .int .i64 s.pg, .int .i64 s.ct, .int .i64 s.rt, .int .i64 s.nb, .int .u32 s.at_, .int .u32 s.v, s.vb, s.vs]
structure Yhl.Good (q : Yhl) (w : World) : Prop where
 pg : -9223372036854775808 ≤ q.pg ∧ q.pg ≤ 9223372036854775807
 ct : -9223372036854775808 ≤ q.ct ∧ q.ct ≤ 9223372036854775807
 nb : -9223372036854775808 ≤ q.nb ∧ q.nb ≤ 9223372036854775807
 at_ : 0 ≤ q.at_ ∧ q.at_ < 4294967296
 v : 0 ≤ q.v ∧ q.v < 4294967296
 b : ByS0 w q.vb q.B q.gb
 bl : ∀ i, 0 ≤ q.B.getD i 0 ∧ q.B.getD i 0 ≤ 255
 bn : q.B.length ≤ maxLen
 bf : ∃ b c, q.vb = .slice b q.B.length c
 sa : SArg w q.vs q.S q.gs
 sf : ∃ b c, q.vs = .slice b q.S.length c
theorem Yhl.Good.keep {s : Yhl} {w w' : World} (h : s.Good w) (u : Upd [] w w') : s.Good w' := ⟨h.pg, h.ct, h.nb, h.at_, h.v, h.b.keep u, h.bl, h.bn, h.bf, h.sa.keep u, h.sf⟩
end
def skMap : Mem := Mem.zero.mapM 0 1 7
def Ya9 : Mem := skMap.poke 0 [64, 80, 205, 128]
def skI1 : Ins := ⟨12, 0, Yam 0, Opd.none, false, 1⟩
def Yfy : Ins := ⟨28, 0, Yam 0, Opd.none, false, 1⟩
def Yb1 : St := opS ((St.zero.goOn 1).setFl (Ybm 12 (opV Ya9 (St.zero.goOn 1) (Yam 0) 4) 0 (St.zero.goOn 1).fl)) (Yam 0) 4 (Yby 12 (opV Ya9 (St.zero.goOn 1) (Yam 0) 4) 0 (St.zero.goOn 1).fl)
def Yda : St := Yb1.setR 4 100
def Ydl : St := (Yda.goOn 1).setR 4 (((Yda.goOn 1).R 4 - 4) % 4294967296)
def Ycv : Mem := Ya9.writeM (((Yda.goOn 1).R 4 - 4) % 4294967296) 4 (opV Ya9 (Yda.goOn 1) (Yam 0) 4)
def skS4 : St := Ydl.goOn 2
theorem sk_map : Mem.zero.mapB 0 1 7 = true := by decide +kernel
theorem sk_poke : skMap.pokeB 0 [64, 80, 205, 128] = true := by decide +kernel
theorem sk_1 : (Ya6 Ya9 0).k = true ∧ (Ya6 Ya9 0).i.eqB skI1 = true := by decide +kernel
theorem sk_2 : (Ya6 Ya9 1).k = true ∧ (Ya6 Ya9 1).i.eqB Yfy = true := by decide +kernel
theorem sk_4 : (Ya6 Ycv 2).k = true ∧ (Ya6 Ycv 2).i.op = 43 ∧ (Ya6 Ycv 2).i.len = 2 ∧ (0 ≤ (Ya6 Ycv 2).i.a.imm ∧ (Ya6 Ycv 2).i.a.imm < 4294967296) ∧ (0 ≤ (Ya6 Ycv 2).i.a.sc ∧ (Ya6 Ycv 2).i.a.sc < 4294967296) ∧ (0 ≤ (Ya6 Ycv 2).i.b.imm ∧ (Ya6 Ycv 2).i.b.imm < 4294967296) ∧ (0 ≤ (Ya6 Ycv 2).i.b.sc ∧ (Ya6 Ycv 2).i.b.sc < 4294967296) := by decide +kernel
theorem Yf8 : Yb1.R 0 = 1 ∧ Yb1.pc = 1 ∧ Yb1.R 4 = 0 := by decide +kernel
theorem sk_s3 : Ydl.R 4 = 96 ∧ Ydl.pc = 2 ∧ skS4.pc = 4 := by decide +kernel
theorem Yio : Ya9.writeK (((Yb1.goOn 1).R 4 - 4) % 4294967296) 4 = false ∧ (Ya9.wrF (((Yb1.goOn 1).R 4 - 4) % 4294967296) 4).k = 1 ∧ (Ya9.wrF (((Yb1.goOn 1).R 4 - 4) % 4294967296) 4).a = 4294967292 ∧ (Ya9.wrF (((Yb1.goOn 1).R 4 - 4) % 4294967296) 4).wt = 2 := by decide +kernel
theorem sk_k3 : Ya9.writeK (((Yda.goOn 1).R 4 - 4) % 4294967296) 4 = true := by decide +kernel
theorem sk_i2 : (Ya6 Ya9 1).i = Yfy := (Ins.eqB_iff _ _).1 sk_2.2
theorem sk_i1 : (Ya6 Ya9 0).i = skI1 := (Ins.eqB_iff _ _).1 sk_1.2
section
theorem Ypa {M : Mem} {x b v : Int} (h : M.writeK x b = false) : M.writeM x b v = M := by
 unfold Mem.writeK at h
 unfold Mem.writeM
 cases hb : M.bad x 2 (Yau b).toNat with
 |none => rw [hb] at h; simp at h
 |some k => rfl
theorem Yoc (r : Int) : (Yam r).Ok := ⟨show (0 : Int) ≤ 0 ∧ (0 : Int) < 4294967296 by decide, show (0 : Int) ≤ 0 ∧ (0 : Int) < 4294967296 by decide⟩
theorem sk_iok1 : skI1.Ok := ⟨Yoc 0, ⟨by decide, by decide⟩⟩
theorem Yn2 : Yfy.Ok := ⟨Yoc 0, ⟨by decide, by decide⟩⟩
theorem setFl_ok {s : St} (h : s.Ok) (f : Fl) : (s.setFl f).Ok := ⟨h.R, h.pc, h.f⟩
theorem sk_v1 : 0 ≤ Yby 12 (opV Ya9 (St.zero.goOn 1) (Yam 0) 4) 0 (St.zero.goOn 1).fl ∧ Yby 12 (opV Ya9 (St.zero.goOn 1) (Yam 0) 4) 0 (St.zero.goOn 1).fl < 4294967296 := by decide +kernel
theorem Yln : Yb1.Ok := Ylh (setFl_ok (St.goOn_ok St.zero_ok 1) _) _ _ sk_v1.1 sk_v1.2
theorem Ylb : Yda.Ok := St.setR_ok Yln 4 (by decide) (by decide)
theorem sk_x3 : 0 ≤ ((Yda.goOn 1).R 4 - 4) % 4294967296 ∧ ((Yda.goOn 1).R 4 - 4) % 4294967296 < 4294967296 := by omega
theorem sk_ok3 : Ydl.Ok := St.setR_ok (St.goOn_ok Ylb 1) 4 sk_x3.1 sk_x3.2
section
variable {w : World} {a pb : Nat}
theorem sk_step1 (hM : Yk w a pb Ya9) : Calls Tryz.prog 25 #[.pointer (some ⟨a, 0, none⟩), .agg St.zero.cells] w fun e w' => e = .returned (.tuple #[.agg Yb1.cells, Flt.zero.val, .bool true, .bool false]) ∧ Yk w' a pb Ya9 ∧ Upd [pb] w w' :=
 Yh8 a pb St.zero Yb1 skI1 Flt.zero Ya9 Ya9 w hM St.zero_ok sk_i1 sk_1.1 fun w1 h1 =>
  Do_ok a pb St.zero Yb1 skI1 Ya9 Ya9 w1 h1 St.zero_ok sk_iok1 fun d w2 _ hd =>
   (Ymm d a pb (St.zero.goOn 1) skI1 Ya9 w2 hd (by decide) rfl rfl rfl).mono fun e w' h => ⟨h.1, h.2.1, h.2.2⟩
theorem sk_step2 (hM : Yk w a pb Ya9) : Calls Tryz.prog 25 #[.pointer (some ⟨a, 0, none⟩), .agg Yb1.cells] w fun e w' => e = .returned (.tuple #[.agg Yb1.cells, ({ Ya9.wrF (((Yb1.goOn 1).R 4 - 4) % 4294967296) 4 with pc := Yb1.pc } : Flt).val, .bool false, .bool false]) ∧ Yk w' a pb Ya9 ∧ Upd [pb] w w' :=
 Step_bad a pb Yb1 Yb1 Yfy _ Ya9 Ya9 w hM Yln (by rw [Yf8.2.1]; exact sk_i2) (by rw [Yf8.2.1]; exact sk_2.1) fun w1 h1 =>
  Do_bad a pb Yb1 Yfy Ya9 Ya9 _ w1 h1 Yln Yn2 fun d w2 _ hd =>
   Yjw d a pb (Yb1.goOn 1) Yfy Ya9 Ya9 _ w2 hd (by decide) fun w3 h3 =>
    (Ymr d a pb (Yb1.goOn 1) Yfy Ya9 w3 h3 rfl rfl Yio.1).mono fun e w' h => ⟨h.1, by have := h.2.1; rwa [Ypa Yio.1] at this, h.2.2⟩
theorem sk_step3 (hM : Yk w a pb Ya9) : Calls Tryz.prog 25 #[.pointer (some ⟨a, 0, none⟩), .agg Yda.cells] w fun e w' => e = .returned (.tuple #[.agg Ydl.cells, Flt.zero.val, .bool true, .bool false]) ∧ Yk w' a pb Ycv ∧ Upd [pb] w w' :=
 Yh8 a pb Yda Ydl Yfy Flt.zero Ya9 Ycv w hM Ylb (by show (Ya6 Ya9 Yb1.pc).i = _; rw [Yf8.2.1]; exact sk_i2) (by show (Ya6 Ya9 Yb1.pc).k = _; rw [Yf8.2.1]; exact sk_2.1) fun w1 h1 =>
  Do_ok a pb Yda Ydl Yfy Ya9 Ycv w1 h1 Ylb Yn2 fun d w2 _ hd =>
   Yk5 d a pb (Yda.goOn 1) Ydl Yfy Ya9 Ycv w2 hd (by decide) fun w3 h3 =>
    Yov d a pb (Yda.goOn 1) Yfy Ya9 w3 h3 rfl rfl sk_k3
theorem sk_step4 (hM : Yk w a pb Ycv) : Calls Tryz.prog 25 #[.pointer (some ⟨a, 0, none⟩), .agg Ydl.cells] w fun e w' => e = .returned (.tuple #[.agg skS4.cells, Flt.zero.val, .bool true, .bool true]) ∧ Yk w' a pb Ycv ∧ Upd [pb] w w' := by
 obtain ⟨i, hi⟩ : ∃ i, (Ya6 Ycv 2).i = i := ⟨_, rfl⟩
 have h4 := sk_4
 rw [hi] at h4
 have hio : i.Ok := ⟨⟨h4.2.2.2.1, h4.2.2.2.2.1⟩, ⟨h4.2.2.2.2.2.1, h4.2.2.2.2.2.2⟩⟩
 have hs : Ydl.goOn i.len = skS4 := by rw [h4.2.2.1]; rfl
 have := Yh8 a pb Ydl skS4 i Flt.zero Ycv Ycv w hM sk_ok3 (by rw [sk_s3.2.1]; exact hi) (by rw [sk_s3.2.1]; exact h4.1) fun w1 h1 =>
  Do_ok a pb Ydl skS4 i Ycv Ycv w1 h1 sk_ok3 hio fun d w2 _ hd => hs ▸ does_43 d a pb (Ydl.goOn i.len) i Ycv w2 hd h4.2.1
 rw [h4.2.1] at this
 exact this
end
end
theorem Yje (M : Mem) (a pb : Nat) (p n r : Int) (w : World) (hM : Yk w a pb M) (hn : -9223372036854775808 ≤ n) :
  Calls Tryz.prog 14 #[.pointer (some ⟨a, 0, none⟩), .int .i64 p, .int .i64 n, .int .i64 r] w fun e w' => e = .returned (.int .i64 (errI (M.mapB p n r) 61)) ∧ Yk w' a pb (M.mapM p n r) ∧ Upd [pb] w w' := by
 cases h : M.mapB p n r
 ·refine (Map_no M a pb p n r w hM hn h).mono ?_
  rintro e w' ⟨h1, h2⟩
  exact ⟨h1, by rw [Mem.mapM, h]; exact hM.keep h2 (by simp) (by simp), h2.mono (by simp)⟩
 ·refine (Map_yes M a pb p n r w hM hn h).mono ?_
  rintro e w' ⟨h1, h2, h3⟩
  exact ⟨h1, by rw [Mem.mapM, h]; exact h2, h3⟩
end Go.Proofs.YthakgjpejhjaoaaGreat
