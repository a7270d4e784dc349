/-
  Parts of the proof (their names shortened by a program). No condition.
-/
import Derived.Test.YthakgjpejhjaoaaGreatMg01
import Derived.Test.YthakgjpejhjaoaaGreatMg21
import Derived.Test.YthakgjpejhjaoaaGreatMg17
import Derived.Test.YthakgjpejhjaoaaGreatMg18
import Derived.Test.YthakgjpejhjaoaaGreatMg20
import Derived.Test.YthakgjpejhjaoaaGreatMg16
import Derived.Maps.AppendAt
import Derived.OwnWalk
import Derived.ChangeSlices
import Derived.Test.YthakgjpejhjaoaaGreatMg03
import Derived.ChangeKeysEq
import Derived.Lib.SliceRun
import Derived.Test.YthakgjpejhjaoaaGreatMg06
import Derived.Test.YthakgjpejhjaoaaGreatMg08
namespace Go.Proofs.YthakgjpejhjaoaaGreat
open Go Go.RowKit
set_option linter.unusedVariables false
set_option linter.unusedSimpArgs false
set_option maxRecDepth 100000
set_option maxHeartbeats 16000000
theorem Ygd {tmps : Array Value} {w : World} (a : Tmp) (b : Nat) (s : St) (ha : tmps.getD a undef = .pointer (some ⟨b, 0, none⟩)) (hb : w.heap[b]? = some (.cells s.cells 28 (0, 0))) :
  (Ybs tmps (.cell a 28)).run Tryz.prog w = .ok (.agg s.cells) w :=
 Ybd a 28 b _ _ ha hb Tryz.underlying28 rfl Ybi
theorem Ykv {w : World} {a pb : Nat} {s : St} {i : Ins} {M : Mem} (hM : Yj w a pb M) (hs : s.Ok) (hi : i.Ok) : Yx ((doW w s i).alloc (.cells (Ybv a s i) 86)).drew (w.heap.size + 1 + 1 + 1 + 1 + 1) a pb s i M ∧ DoS w s i ((doW w s i).alloc (.cells (Ybv a s i) 86)).drew ∧ Upd [pb] w ((doW w s i).alloc (.cells (Ybv a s i) 86)).drew := by
 have u1 := ((Upd.refl [] (doW w s i)).alloc (.cells (Ybv a s i) 86)).drew
 have u := (doW_up w s i).also u1 (by simp)
 have ha : a < w.heap.size := by obtain ⟨C, _, hc⟩ := hM.hd; exact Yk hc
 have hp : pb < w.heap.size := by obtain ⟨C, _, hc⟩ := hM.pg; exact Yk hc
 have hn := heap_alloc_new (doW w s i) (.cells (Ybv a s i) 86)
 rw [show (doW w s i).heap.size = (w.heap.size + 1 + 1 + 1 + 1 + 1) from by simp [doW]] at hn
 exact ⟨⟨((Upd.refl [] _).drew).get hn (by simp), hM.keep u (by simp) (by simp), hs, hi, by omega, by omega⟩, (DoS.start w s i).keep u1 (by simp), u.mono (by simp)⟩
theorem Do_ok (a pb : Nat) (s s2 : St) (i : Ins) (M M2 : Mem) (w : World) (hM : Yj w a pb M) (hs : s.Ok) (hi : i.Ok)
  (hd : ∀ d w1, w.heap.size ≤ d → Yx w1 d a pb (s.goOn i.len) i M → Calls Tryz.prog 32 #[.pointer (some ⟨d, 0, none⟩)] w1 fun e w' => e = .returned (.tuple #[]) ∧ Yx w' d a pb s2 i M2 ∧ Upd [d, pb] w1 w') :
  Calls Tryz.prog 15 #[.pointer (some ⟨a, 0, none⟩), .agg s.cells, .agg i.cells] w fun e w' => e = .returned (.tuple #[.agg s2.cells, Flt.zero.val, .bool true]) ∧ Yj w' a pb M2 ∧ Upd [pb] w w' := by
 have HM := Yh_ (And.intro hM (And.intro hs hi))
 have HD := Yh_ hd
 have hpc : s.cells[8]? = some (.int .u32 s.pc) := rfl
 have HS := Yh_ (DoS.start w s i)
 have HB0 := Yh_ (Ykv hM hs hi)
 have HP := Yh_ (show pb < w.heap.size by obtain ⟨C, _, hc⟩ := hM.pg; exact Yk hc)
 clear hM hs hi hd
 have tokL : True := trivial
 have tokI : True := trivial
 go_enter_defers Tryz.func15, Tryz.ntmps15
 go_wp2_with (first | (have _t := tokL; clear _t tokL; refine Yr 28 rfl ?_; refine Yy s w.heap.size rfl _ rfl rfl HS.out.zs ?_) | (have _t := tokI; clear _t tokI; refine Yr 41 rfl ?_; refine Yan i (w.heap.size + 1) rfl _ rfl rfl HS.out.zi ?_) | (refine Yf7 rfl a s i _ _ _ rfl rfl rfl rfl ?_))
 refine Yam 12 (fun w1 => Yx w1 (w.heap.size + 1 + 1 + 1 + 1 + 1) a pb s i M ∧ DoS w s i w1 ∧ Upd [pb] w w1) (fun _ _ => False) (by kernel_rfl) (by decide +kernel) HB0.out (fun _ _ _ h => h.elim) ?_
 simp only [List.take_succ_cons, List.take_zero, List.drop_succ_cons, List.drop_zero]
 iterate 12
  apply Yo rfl rfl
  ·intro K hK w5 hB1
   have c9 : w5.cell? ⟨(w.heap.size + 1 + 1 + 1 + 1 + 1), 9, none⟩ = some (.int .u32 s.pc) := hB1.1.cell 9
   have c15 : w5.cell? ⟨w.heap.size + 1, 15, none⟩ = some (.int .i64 i.len) := Ya hB1.2.1.zi 15
   have HB := Yh_ hB1
   clear hB1
   go_wp2_with fail
   first
   |exact hK _ HB.out
   |exact HB.out
  ·exact ⟨_, rfl⟩
 refine Yaa (fun _ w5 hB1 => ?_)
 have c5 : w5.cell? ⟨(w.heap.size + 1 + 1 + 1 + 1 + 1), 9, none⟩ = some (.int .u32 s.pc) := hB1.1.cell 9
 have f5 := hB1.1.free
 have H5 := Yh_ (And.intro hB1.1 (And.intro hB1.2.1 (And.intro HP.out hB1.2.2)))
 clear hB1
 have tok6 : True := trivial
 have tok7 : True := trivial
 go_wp2_with (first | (have _t := H5; clear _t; go_at_call 32; refine (HD.out (w.heap.size + 1 + 1 + 1 + 1 + 1) _ (by simp [Nat.add_assoc]) (H5.out.1.set (s' := s.goOn i.len) (o := 9) rfl (St.goOn_ok HM.out.2.1 i.len))).mono ?_; rintro e w6 ⟨rfl, hd6, hu6⟩; have hpb := H5.out.2.2.1; have u6 := ((Upd.refl [(w.heap.size + 1 + 1 + 1 + 1 + 1), pb] w5).setCell (p := ⟨(w.heap.size + 1 + 1 + 1 + 1 + 1), 9, none⟩) (.inl (by simp)) (.int .u32 ((s.pc + i.len) % 4294967296))).also hu6 (fun x hx => .inl hx); have H6 := Yh_ (And.intro hd6 (And.intro (H5.out.2.1.keep u6 (by simp only [List.mem_cons, List.not_mem_nil, or_false]; intro x hx; omega)) (H5.out.2.2.2.also (S' := [(w.heap.size + 1 + 1 + 1 + 1 + 1), pb]) u6 (by simp only [List.mem_cons, List.not_mem_nil, or_false]; intro x hx; omega)))); clear hd6 hu6 u6 hpb H5 c5 f5) | (have _t := H6; have _t2 := tok6; clear _t _t2 tok6; refine Yr 28 rfl ?_; refine wpList_load_mid rfl 28 _ rfl (w.heap.size + 1 + 1 + 1 + 1 + 1) 1 rfl s2.cells.toList _ H6.out.1.rs Tryz.underlying28 rfl (by rw [Array.length_toList, St.size]; exact Ybi) ?_; rw [Array.toArray_toList]) | (have _t := H6; clear _t; refine Ye 28 rfl ?_; refine Yap s2 (w.heap.size + 1 + 1) rfl _ _ rfl rfl rfl H6.out.2.1.zo rfl ?_; intro w7 hw; have u7 : Upd [w.heap.size + 1 + 1] w6 w7 := hw ▸ (Upd.refl [w.heap.size + 1 + 1] w6).setCells (.inl (by simp)) _ _; have ho : w7.heap[w.heap.size + 1 + 1]? = some (.cells s2.cells 28 (0, 0)) := hw ▸ Ybg s2 H6.out.2.1.zo rfl; have hf7 := u7.get H6.out.2.1.zf (by simp); have hk7 := u7.get H6.out.2.1.zk (by simp <;> omega); have cf := Ya hf7; have ff := Yg hf7; have ck := Ya hk7; have fk := Yg hk7; have H7 := Yh_ (And.intro ho (And.intro hf7 (And.intro hk7 (And.intro (H6.out.1.m.keep u7 (by have := H6.out.1.na; obtain ⟨C, _, hc⟩ := HM.out.1.hd; have := Yk hc; simp; omega) (by have := HP.out; simp; omega)) (H6.out.2.2.also u7 (by simp <;> omega)))))); clear hw u7 ho hf7 hk7 H6))
 have u4 := Yax (S := [w.heap.size + 1 + 1 + 1]) (b := w.heap.size + 1 + 1 + 1) (Upd.refl _ w7) (.inl (by simp)) (.int .i64 0) (.int .u32 0) (.int .u32 0) (.int .i64 0)
 have hF := Yh (a := ⟨w.heap.size + 1 + 1 + 1 + 1, 0, none⟩) (.bool true) (by simp) (Yc1 H7.out.2.1 (.int .i64 0) (.int .u32 0) (.int .u32 0) (.int .i64 0))
 have hK := Yi (u4.get H7.out.2.2.1 (by simp)) 0 (.bool true)
 have u5 := (Yax (S := [w.heap.size + 1 + 1 + 1, w.heap.size + 1 + 1 + 1 + 1]) (b := w.heap.size + 1 + 1 + 1) (Upd.refl _ w7) (.inl (by simp)) (.int .i64 0) (.int .u32 0) (.int .u32 0) (.int .i64 0)).setCell (p := ⟨w.heap.size + 1 + 1 + 1 + 1, 0, none⟩) (.inl (by simp)) (.bool true)
 have ha : a < w.heap.size := by obtain ⟨C, _, hc⟩ := HM.out.1.hd; exact Yk hc
 have hp := HP.out
 refine Yo2 (.tuple #[.agg s2.cells, Flt.zero.val, .bool true]) hK ?_ ⟨rfl, H7.out.2.2.2.1.keep u5 (by simp <;> omega) (by simp <;> omega), H7.out.2.2.2.2.also u5 (by simp <;> omega)⟩
 exact Yas rfl (Ygd 6 (w.heap.size + 1 + 1) s2 rfl (u5.get H7.out.1 (by simp <;> omega))) (Ydj 7 (w.heap.size + 1 + 1 + 1) Flt.zero rfl hF) (Yey 8 (w.heap.size + 1 + 1 + 1 + 1) true rfl hK)
theorem Do_bad (a pb : Nat) (s : St) (i : Ins) (M M2 : Mem) (F : Flt) (w : World) (hM : Yj w a pb M) (hs : s.Ok) (hi : i.Ok)
  (hd : ∀ d w1, w.heap.size ≤ d → Yx w1 d a pb (s.goOn i.len) i M → Calls Tryz.prog 32 #[.pointer (some ⟨d, 0, none⟩)] w1 fun e w' => e = .panicked [{ v := .iface 35 F.val, recovered := false }] ∧ Yj w' a pb M2 ∧ Upd [d, pb] w1 w') :
  Calls Tryz.prog 15 #[.pointer (some ⟨a, 0, none⟩), .agg s.cells, .agg i.cells] w fun e w' => e = .returned (.tuple #[.agg s.cells, ({ F with pc := s.pc } : Flt).val, .bool false]) ∧ Yj w' a pb M2 ∧ Upd [pb] w w' := by
 have HM := Yh_ (And.intro hM (And.intro hs hi))
 have HD := Yh_ hd
 have hpc : s.cells[8]? = some (.int .u32 s.pc) := rfl
 have HS := Yh_ (DoS.start w s i)
 have HB0 := Yh_ (Ykv hM hs hi)
 have HP := Yh_ (show pb < w.heap.size by obtain ⟨C, _, hc⟩ := hM.pg; exact Yk hc)
 clear hM hs hi hd
 have tokL : True := trivial
 have tokI : True := trivial
 go_enter_defers Tryz.func15, Tryz.ntmps15
 go_wp2_with (first | (have _t := tokL; clear _t tokL; refine Yr 28 rfl ?_; refine Yy s w.heap.size rfl _ rfl rfl HS.out.zs ?_) | (have _t := tokI; clear _t tokI; refine Yr 41 rfl ?_; refine Yan i (w.heap.size + 1) rfl _ rfl rfl HS.out.zi ?_) | (refine Yf7 rfl a s i _ _ _ rfl rfl rfl rfl ?_))
 refine Yam 12 (fun w1 => Yx w1 (w.heap.size + 1 + 1 + 1 + 1 + 1) a pb s i M ∧ DoS w s i w1 ∧ Upd [pb] w w1) (fun _ _ => False) (by kernel_rfl) (by decide +kernel) HB0.out (fun _ _ _ h => h.elim) ?_
 simp only [List.take_succ_cons, List.take_zero, List.drop_succ_cons, List.drop_zero]
 iterate 12
  apply Yo rfl rfl
  ·intro K hK w5 hB1
   have c9 : w5.cell? ⟨(w.heap.size + 1 + 1 + 1 + 1 + 1), 9, none⟩ = some (.int .u32 s.pc) := hB1.1.cell 9
   have c15 : w5.cell? ⟨w.heap.size + 1, 15, none⟩ = some (.int .i64 i.len) := Ya hB1.2.1.zi 15
   have HB := Yh_ hB1
   clear hB1
   go_wp2_with fail
   first
   |exact hK _ HB.out
   |exact HB.out
  ·exact ⟨_, rfl⟩
 refine Yaa (fun _ w5 hB1 => ?_)
 have c5 : w5.cell? ⟨(w.heap.size + 1 + 1 + 1 + 1 + 1), 9, none⟩ = some (.int .u32 s.pc) := hB1.1.cell 9
 have f5 := hB1.1.free
 have H5 := Yh_ (And.intro hB1.1 (And.intro hB1.2.1 (And.intro HP.out hB1.2.2)))
 clear hB1
 have tok6 : True := trivial
 have tok7 : True := trivial
 go_wp2_with (first | (have _t := H5; clear _t; go_at_call 32; refine (HD.out (w.heap.size + 1 + 1 + 1 + 1 + 1) _ (by simp [Nat.add_assoc]) (H5.out.1.set (s' := s.goOn i.len) (o := 9) rfl (St.goOn_ok HM.out.2.1 i.len))).mono ?_; rintro e w6 ⟨rfl, hd6, hu6⟩; have hpb := H5.out.2.2.1; have u6 := ((Upd.refl [(w.heap.size + 1 + 1 + 1 + 1 + 1), pb] w5).setCell (p := ⟨(w.heap.size + 1 + 1 + 1 + 1 + 1), 9, none⟩) (.inl (by simp)) (.int .u32 ((s.pc + i.len) % 4294967296))).also hu6 (fun x hx => .inl hx); have H6 := Yh_ (And.intro hd6 (And.intro (H5.out.2.1.keep u6 (by simp only [List.mem_cons, List.not_mem_nil, or_false]; intro x hx; omega)) (H5.out.2.2.2.also (S' := [(w.heap.size + 1 + 1 + 1 + 1 + 1), pb]) u6 (by simp only [List.mem_cons, List.not_mem_nil, or_false]; intro x hx; omega)))); clear hd6 hu6 u6 hpb H5 c5 f5))
 have hp := HP.out
 have ha : a < w.heap.size := by obtain ⟨C, _, hc⟩ := HM.out.1.hd; exact Yk hc
 refine Ykz F (.tuple #[.agg s.cells, ({ F with pc := s.pc } : Flt).val, .bool false]) H6.out.2.1.zf H6.out.2.1.zk H6.out.2.1.zs H6.out.2.1.zo rfl (by omega) (fun w2 hf hk hu => ?_) (fun w2 hU => ⟨rfl, H6.out.1.keep hU (by simp <;> omega) (by simp <;> omega), H6.out.2.2.also hU (by simp <;> omega)⟩)
 exact Yas rfl (Ygd 6 (w.heap.size + 1 + 1) s rfl hu) (Ydj 7 (w.heap.size + 1 + 1 + 1) { F with pc := s.pc } rfl hf) (Yey 8 (w.heap.size + 1 + 1 + 1 + 1) false rfl hk)
section
structure DrC (w : World) (d a pb : Nat) (s : St) (i : Ins) (M : Mem) (dn : Nat → Bool) (r : Nat → Value) (w1 : World) : Prop where
 b : Yx w1 d a pb s i M
 u : Upd [] w w1
 x : dn 7 = true → ∃ g Z, r 7 = .pointer (some ⟨g, 0, none⟩) ∧ w.heap.size ≤ g ∧ w1.heap[g]? = some (.cells Z 41 (0, 0)) ∧ Z.size = 16 ∧ (dn 8 = true → Z = i.cells)
 xo : dn 8 = true → dn 7 = true
section
variable {w w1 w2 : World} {d a pb : Nat} {s : St} {i : Ins} {M : Mem} {dn : Nat → Bool} {r : Nat → Value}
theorem DrC.start (h : Yx w d a pb s i M) (r : Nat → Value) : DrC w d a pb s i M (fun _ => false) r w.drew :=
 ⟨h.keep (Upd.refl [] _).drew (by simp) (by simp) (by simp), (Upd.refl [] w).drew, fun h => (by cases h), fun h => (by cases h)⟩
theorem DrC.same (h : DrC w d a pb s i M dn r w1) (m : Nat) (h1 : 7 ≠ m) (h2 : 8 ≠ m) : DrC w d a pb s i M (Yai dn m) r w1 := by
 refine ⟨h.b, h.u, fun hx => ?_, fun hx => ?_⟩
 ·rw [Yp h1] at hx
  obtain ⟨g, Z, e1, e2, e3, e4, e5⟩ := h.x hx
  exact ⟨g, Z, e1, e2, e3, e4, fun hk => e5 (by rwa [Yp h2] at hk)⟩
 ·rw [Yp h2] at hx; rw [Yp h1]; exact h.xo hx
theorem DrC.lay (h : DrC w d a pb s i M dn r w1) (hd : dn 7 = false) : DrC w d a pb s i M (Yai dn 7) (Ycw r 7 (.pointer (some ⟨w1.heap.size, 0, none⟩))) (w1.alloc (.cells Ins.zero.cells 41)) := by
 have u := (Upd.refl [] w1).alloc (.cells Ins.zero.cells 41)
 refine ⟨h.b.keep u (by simp) (by simp) (by simp), h.u.also u (by simp), fun _ => ⟨_, _, Yfm, h.u.size, heap_alloc_new _ _, rfl, fun hk => ?_⟩, fun _ => Yda⟩
 rw [Yp (by decide)] at hk
 rw [h.xo hk] at hd; cases hd
theorem DrC.put (h : DrC w d a pb s i M dn r w1) {g : Nat} {Z : Array Value} (hg : r 7 = .pointer (some ⟨g, 0, none⟩)) (hl : w.heap.size ≤ g) (hdl : d < w.heap.size ∧ a < w.heap.size ∧ pb < w.heap.size) (hb : w1.heap[g]? = some (.cells Z 41 (0, 0))) (hZ : Z.size = 16) (hd : dn 7 = true) : DrC w d a pb s i M (Yai dn 8) r (w1.setCells g 0 i.cells.toList) := by
 obtain ⟨z1, z2⟩ := Ya7 (S := [g]) (w0 := w1) (w' := w1.setCells g 0 i.cells.toList) rfl hb hZ (Upd.refl _ _) (.inl (by simp))
 exact ⟨h.b.keep z2 (by simp; omega) (by simp; omega) (by simp; omega), h.u.also z2 (by simp; omega), fun _ => ⟨g, i.cells, hg, hl, z1, rfl, fun _ => rfl⟩, fun _ => by rw [Yp (by decide)]; exact hd⟩
end
theorem moves_43 (d a pb : Nat) (s : St) (i : Ins) (M : Mem) (w : World) (h : Yx w d a pb s i M) (hop : i.op = 43) :
  Calls Tryz.prog 54 #[.pointer (some ⟨d, 0, none⟩)] w fun e w' => e = .returned (.tuple #[]) ∧ Yx w' d a pb s i M ∧ Upd [d, pb] w w' := by
 have hlt : d < w.heap.size ∧ a < w.heap.size ∧ pb < w.heap.size := ⟨h.lt, by obtain ⟨C, _, hc⟩ := h.m.hd; exact Yk hc, by obtain ⟨C, _, hc⟩ := h.m.pg; exact Yk hc⟩
 have HD := Yh_ (And.intro h hlt)
 clear h hlt
 go_enter Tryz.func54, Tryz.ntmps54
 go_wp2_with fail
 refine Yaz 9 (DrC w d a pb s i M) (fun _ _ => False) (by kernel_rfl) (by decide +kernel) (fun r0 => DrC.start HD.out.1 r0) (fun _ _ _ h => h.elim) ?_
 simp only [List.take_succ_cons, List.take_zero, List.drop_succ_cons, List.drop_zero]
 iterate 3
  apply Yd rfl rfl
  ·intro dn r0 K hd hdep hK w5 hB1
   have HB := Yh_ hB1
   clear hB1 hdep
   go_wp2_with fail
   first
   |exact hK _ (HB.out.same _ (by decide) (by decide))
   |exact HB.out.same _ (by decide) (by decide)
  ·exact ⟨_, rfl⟩
 apply Yd rfl rfl
 ·intro dn r0 K hd hdep hK w5 hB1
  refine wp_load_mid 41 _ rfl d 18 rfl i.cells.toList _ hB1.b.ri Tryz.underlying41 rfl (by rw [Array.length_toList, Ins.size]; exact Yb0) ?_
  rw [Array.toArray_toList]
  exact hK _ (hB1.same _ (by decide) (by decide))
 ·exact ⟨_, rfl⟩
 iterate 3
  apply Yd rfl rfl
  ·intro dn r0 K hd hdep hK w5 hB1
   have HB := Yh_ hB1
   clear hB1 hdep
   go_wp2_with fail
   first
   |exact hK _ (HB.out.same _ (by decide) (by decide))
   |exact HB.out.same _ (by decide) (by decide)
  ·exact ⟨_, rfl⟩
 refine Yak rfl (fun _ => rfl) 2 rfl (by simp [Act.put]) ?_ ?_
 ·intro dn r0 K hd w5 hB1 hK
  have HB := Yh_ hB1
  clear hB1
  simp only [Yn]
  go_wp2_with fail
  first
  |exact hK (.pointer (some ⟨w5.heap.size, 0, none⟩)) _ (HB.out.lay hd)
  |exact HB.out.lay hd
 apply Ya4 rfl (fun _ => rfl)
 ·intro dn r0 K hd hdep hK w5 hB1
  have h8 : dn 7 = true := hdep ⟨7, .data⟩ (by simp) rfl
  obtain ⟨g, Z, e1, e2, e3, e4, _⟩ := hB1.x h8
  refine Yhk i g _ _ rfl (by show r0 7 = _; exact e1) rfl e3 e4 ?_
  intro w6 hw
  rw [← hw]
  exact hK _ (hB1.put e1 e2 HD.out.2 e3 e4 h8)
 ·exact ⟨_, fun _ => rfl, rfl⟩
 refine Yar (fun _ r0 w5 dn hall hB1 => ?_)
 obtain ⟨g, Z, e1, e2, e3, _, e5⟩ := hB1.x (hall 7 (by decide))
 rw [e5 (hall 8 (by decide))] at e3
 have ci := Ya e3
 unfold Ins.cells at ci
 have H3 := Yh_ (And.intro hB1.b (And.intro e3 (hB1.u.mono (T := [d, pb]) (by simp))))
 clear hB1 hall e2 e3 e5
 show wpList _ _ _ _ (Act.put (Yn _ _ [] _) (some 2) (r0 7)) _
 rw [e1]
 simp only [Yn]
 clear e1
 go_wp2_with fail
 go_end0
 exact ⟨rfl, H3.out.1, H3.out.2.2⟩
theorem does_43 (d a pb : Nat) (s : St) (i : Ins) (M : Mem) (w : World) (h : Yx w d a pb s i M) (hop : i.op = 43) :
  Calls Tryz.prog 32 #[.pointer (some ⟨d, 0, none⟩)] w fun e w' => e = .returned (.tuple #[]) ∧ Yx w' d a pb s i M ∧ Upd [d, pb] w w' := by
 have HD := Yh_ h
 have tokL : True := trivial
 have tokS : True := trivial
 have HO := Yh_ hop
 clear h
 go_enter Tryz.func32, Tryz.ntmps32
 go_wp2_with (first | (have _t := tokL; clear _t tokL; refine Yr 41 rfl ?_; refine wpList_load_mid rfl 41 _ rfl d 18 rfl i.cells.toList _ HD.out.ri Tryz.underlying41 rfl (by rw [Array.length_toList, Ins.size]; exact Yb0) ?_; rw [Array.toArray_toList]) | (have _t := tokS; clear _t tokS; refine Ye 41 rfl ?_; refine Yc i w.heap.size rfl _ _ rfl rfl rfl (heap_alloc_new w (.cells Ins.zero.cells 41)) rfl ?_; intro w3 hw; have h3 := Yej HD.out hw; have ci := Ya h3.2.1; unfold Ins.cells at ci; have H3 := Yh_ h3; clear hw h3) | (have _t := H3; clear _t; go_at_call 54; refine (moves_43 d a pb s i M _ H3.out.1 HO.out).mono ?_; rintro e w5 ⟨rfl, hd, hu⟩; have H5 := Yh_ (And.intro hd (H3.out.2.2.also hu (fun x hx => .inl hx))); clear hd hu H3 ci))
 go_end0
 exact ⟨rfl, H5.out.1, H5.out.2⟩
end
section
theorem lack3 {M : Mem} (hM : M.Ok) (y : Int) (h : M.lack y 3 = 0) : M.can y 1 = true ∧ M.can y 2 = true := by
 unfold Mem.lack Mem.rightAt at h
 unfold Mem.can
 by_cases hy : y < 16384
 ·rw [if_pos hy] at h
  rw [decide_eq_true hy, Bool.true_and, Bool.true_and]
  have hR := hM.R (y / 256).toNat
  generalize M.R (y / 256).toNat = q at *
  obtain ⟨q0, q7⟩ := hR
  have hq : q = 0 ∨ q = 1 ∨ q = 2 ∨ q = 3 ∨ q = 4 ∨ q = 5 ∨ q = 6 ∨ q = 7 := by omega
  revert h
  rcases hq with rfl | rfl | rfl | rfl | rfl | rfl | rfl | rfl <;> decide +kernel
 ·rw [if_neg hy] at h
  exact absurd h (by decide +kernel)
theorem Yiq {M : Mem} (hM : M.Ok) (s : St) (o : Opd) (h : Ybt M s o 4 3 = true) : opK M s o 4 = true ∧ Yc5 M s o 4 = true := by
 unfold Ybt at h
 unfold opK Yc5
 by_cases hk : o.k = 3
 ·rw [if_pos hk] at h ⊢
  rw [if_pos hk]
  have hc := (canK_iff _ _ _ _).1 h
  have e : (Ybh (wd 4)).toNat = (wd 4).toNat := by decide
  constructor
  ·show (M.bad _ (Ybm 1) _).isNone = true
   rw [e, Option.isNone_iff_eq_none, Yi2]
   exact fun t ht => (lack3 hM _ (hc t ht)).1
  ·show (M.bad _ 2 _).isNone = true
   rw [e, Option.isNone_iff_eq_none, Yi2]
   exact fun t ht => (lack3 hM _ (hc t ht)).2
 ·rw [if_neg hk, if_neg hk]; exact ⟨rfl, rfl⟩
structure Out where
 k : Bool
 s : St
 M : Mem
 F : Flt
def okO (s : St) (M : Mem) : Out := ⟨true, s, M, Flt.zero⟩
def badO (F : Flt) (M : Mem) : Out := ⟨false, St.zero, M, F⟩
def Ycj (d a pb : Nat) (i : Ins) (O : Out) (w : World) (e : Ending) (w' : World) : Prop :=
 (O.k = true → e = .returned (.tuple #[]) ∧ Yx w' d a pb O.s i O.M) ∧ (O.k = false → e = .panicked [{ v := .iface 35 O.F.val, recovered := false }] ∧ Yj w' a pb O.M) ∧ Upd [d, pb] w w'
section
variable {d a pb : Nat} {i : Ins} {w w' : World} {e : Ending} {s2 : St} {M2 : Mem} {F : Flt}
theorem Ycj.ok (h : e = .returned (.tuple #[]) ∧ Yx w' d a pb s2 i M2 ∧ Upd [d, pb] w w') : Ycj d a pb i (okO s2 M2) w e w' := ⟨fun _ => ⟨h.1, h.2.1⟩, fun h => (by cases h), h.2.2⟩
theorem Ycj.bad (h : e = .panicked [{ v := .iface 35 F.val, recovered := false }] ∧ Yj w' a pb M2 ∧ Upd [d, pb] w w') : Ycj d a pb i (badO F M2) w e w' := ⟨fun h => (by cases h), fun _ => ⟨h.1, h.2.1⟩, h.2.2⟩
end
def aluO (M : Mem) (s : St) (i : Ins) : Out :=
 if Ybt M s i.a 4 3 = true then if opK M s i.b 4 = true then okO (opS (s.setFl (Ya2 i.op (opV M s i.a 4) (opV M s i.b 4) s.fl)) i.a 4 (Ybl i.op (opV M s i.a 4) (opV M s i.b 4) s.fl)) (opM M (s.setFl (Ya2 i.op (opV M s i.a 4) (opV M s i.b 4) s.fl)) i.a 4 (Ybl i.op (opV M s i.a 4) (opV M s i.b 4) s.fl)) else badO (opF M s i.b 4) M else badO (Yct M s i.a 4 3) M
theorem alu_all (d a pb : Nat) (s : St) (i : Ins) (M : Mem) (w : World) (h : Yx w d a pb s i M) (hop : 3 ≤ i.op ∧ i.op ≤ 9) : Calls Tryz.prog 32 #[.pointer (some ⟨d, 0, none⟩)] w (Ycj d a pb i (aluO M s i) w) := by
 unfold aluO
 have hcb := Yiq h.m.ok s i.a
 by_cases hc : Ybt M s i.a 4 3 = true
 ·rw [if_pos hc]
  by_cases hb : opK M s i.b 4 = true
  ·rw [if_pos hb]
   exact (Yia d a pb s i M w h (⟨hop.1, by omega⟩) _ _ fun w1 h1 => alu_ok d a pb s i M w1 h1 hop hc (hcb hc).1 hb (hcb hc).2).mono fun e w' hh => Ycj.ok hh
  ·rw [if_neg hb]; rw [Bool.not_eq_true] at hb
   exact (Yep d a pb s i M w h (⟨hop.1, by omega⟩) _ _ fun w1 h1 => alu_none d a pb s i M w1 h1 hop hc (hcb hc).1 hb).mono fun e w' hh => Ycj.bad hh
 ·rw [if_neg hc]; rw [Bool.not_eq_true] at hc
  exact (Yep d a pb s i M w h (⟨hop.1, by omega⟩) _ _ fun w1 h1 => alu_both d a pb s i M w1 h1 hop hc).mono fun e w' hh => Ycj.bad hh
def Yh0 (M : Mem) (s : St) (i : Ins) : Out :=
 if opK M s i.a 4 = true then if opK M s i.b 4 = true then okO (s.setFl (Ya2 i.op (opV M s i.a 4) (opV M s i.b 4) s.fl)) M else badO (opF M s i.b 4) M else badO (opF M s i.a 4) M
theorem Yjf (d a pb : Nat) (s : St) (i : Ins) (M : Mem) (w : World) (h : Yx w d a pb s i M) (hop : i.op = 10) : Calls Tryz.prog 32 #[.pointer (some ⟨d, 0, none⟩)] w (Ycj d a pb i (Yh0 M s i) w) := by
 unfold Yh0
 by_cases ha : opK M s i.a 4 = true
 ·rw [if_pos ha]
  by_cases hb : opK M s i.b 4 = true
  ·rw [if_pos hb]
   exact (Yia d a pb s i M w h (by omega) _ _ fun w1 h1 => Ypq d a pb s i M w1 h1 hop ha hb).mono fun e w' hh => Ycj.ok hh
  ·rw [if_neg hb]; rw [Bool.not_eq_true] at hb
   exact (Yep d a pb s i M w h (by omega) _ _ fun w1 h1 => tell10_b d a pb s i M w1 h1 hop ha hb).mono fun e w' hh => Ycj.bad hh
 ·rw [if_neg ha]; rw [Bool.not_eq_true] at ha
  exact (Yep d a pb s i M w h (by omega) _ _ fun w1 h1 => tell10_a d a pb s i M w1 h1 hop ha).mono fun e w' hh => Ycj.bad hh
def incO (M : Mem) (s : St) (i : Ins) : Out :=
 if Ybt M s i.a 4 3 = true then okO (opS (s.setFl (Ya2 i.op (opV M s i.a 4) 0 s.fl)) i.a 4 (Ybl i.op (opV M s i.a 4) 0 s.fl)) (opM M (s.setFl (Ya2 i.op (opV M s i.a 4) 0 s.fl)) i.a 4 (Ybl i.op (opV M s i.a 4) 0 s.fl)) else badO (Yct M s i.a 4 3) M
theorem inc_all (d a pb : Nat) (s : St) (i : Ins) (M : Mem) (w : World) (h : Yx w d a pb s i M) (hop : 12 ≤ i.op ∧ i.op ≤ 15) : Calls Tryz.prog 32 #[.pointer (some ⟨d, 0, none⟩)] w (Ycj d a pb i (incO M s i) w) := by
 unfold incO
 have hcb := Yiq h.m.ok s i.a
 by_cases hc : Ybt M s i.a 4 3 = true
 ·rw [if_pos hc]
  exact (Yic d a pb s i M w h hop hc (hcb hc).1 (hcb hc).2).mono fun e w' hh => Ycj.ok hh
 ·rw [if_neg hc]; rw [Bool.not_eq_true] at hc
  exact (Ykc d a pb s i M w h hop hc).mono fun e w' hh => Ycj.bad hh
def shfO (M : Mem) (s : St) (i : Ins) : Out :=
 if Ybt M s i.a 4 3 = true then if opK M s i.b 1 = true then okO (opS (s.setFl (Yfa i.op (opV M s i.a 4) (opV M s i.b 1) s.fl)) i.a 4 (Yd8 i.op (opV M s i.a 4) (opV M s i.b 1))) (opM M (s.setFl (Yfa i.op (opV M s i.a 4) (opV M s i.b 1) s.fl)) i.a 4 (Yd8 i.op (opV M s i.a 4) (opV M s i.b 1))) else badO (opF M s i.b 1) M else badO (Yct M s i.a 4 3) M
theorem shf_all (d a pb : Nat) (s : St) (i : Ins) (M : Mem) (w : World) (h : Yx w d a pb s i M) (hop : 21 ≤ i.op ∧ i.op ≤ 25) : Calls Tryz.prog 32 #[.pointer (some ⟨d, 0, none⟩)] w (Ycj d a pb i (shfO M s i) w) := by
 unfold shfO
 have hcb := Yiq h.m.ok s i.a
 by_cases hc : Ybt M s i.a 4 3 = true
 ·rw [if_pos hc]
  by_cases hb : opK M s i.b 1 = true
  ·rw [if_pos hb]
   exact (Ypd d a pb s i M w h hop hc (hcb hc).1 hb (hcb hc).2).mono fun e w' hh => Ycj.ok hh
  ·rw [if_neg hb]; rw [Bool.not_eq_true] at hb
   exact (Ylx d a pb s i M w h hop hc (hcb hc).1 hb).mono fun e w' hh => Ycj.bad hh
 ·rw [if_neg hc]; rw [Bool.not_eq_true] at hc
  exact (Yll d a pb s i M w h hop hc).mono fun e w' hh => Ycj.bad hh
end
section
theorem Do_of (a pb : Nat) (s s2 : St) (i : Ins) (M M2 : Mem) (O : Out) (w : World) (hM : Yj w a pb M) (hs : s.Ok) (hi : i.Ok)
  (hd : ∀ d w1, Yx w1 d a pb (s.goOn i.len) i M → Calls Tryz.prog 32 #[.pointer (some ⟨d, 0, none⟩)] w1 (Ycj d a pb i O w1)) (hO : O = okO s2 M2) :
  Calls Tryz.prog 15 #[.pointer (some ⟨a, 0, none⟩), .agg s.cells, .agg i.cells] w fun e w' => e = .returned (.tuple #[.agg s2.cells, Flt.zero.val, .bool true]) ∧ Yj w' a pb M2 ∧ Upd [pb] w w' := by
 subst hO
 exact Do_ok a pb s s2 i M M2 w hM hs hi fun d w1 _ h1 => (hd d w1 h1).mono fun e w' hh => ⟨(hh.1 rfl).1, (hh.1 rfl).2, hh.2.2⟩
theorem Do_not (a pb : Nat) (s : St) (i : Ins) (M M2 : Mem) (F : Flt) (O : Out) (w : World) (hM : Yj w a pb M) (hs : s.Ok) (hi : i.Ok)
  (hd : ∀ d w1, Yx w1 d a pb (s.goOn i.len) i M → Calls Tryz.prog 32 #[.pointer (some ⟨d, 0, none⟩)] w1 (Ycj d a pb i O w1)) (hO : O = badO F M2) :
  Calls Tryz.prog 15 #[.pointer (some ⟨a, 0, none⟩), .agg s.cells, .agg i.cells] w fun e w' => e = .returned (.tuple #[.agg s.cells, ({ F with pc := s.pc } : Flt).val, .bool false]) ∧ Yj w' a pb M2 ∧ Upd [pb] w w' := by
 subst hO
 exact Do_bad a pb s i M M2 F w hM hs hi fun d w1 _ h1 => (hd d w1 h1).mono fun e w' hh => ⟨(hh.2.1 rfl).1, (hh.2.1 rfl).2, hh.2.2⟩
section
variable {M : Mem} {s : St} {i : Ins}
end
end
section
open Go.WideShapes Go.ChangeShapes
theorem BOk.app {L M : List Int} (h : BOk L) (k : BOk M) : BOk (L ++ M) := by
 intro i
 rw [List.getD_eq_getElem?_getD]
 by_cases hi : i < L.length
 ·rw [List.getElem?_append_left hi, ← List.getD_eq_getElem?_getD]; exact h i
 ·rw [List.getElem?_append_right (by omega), ← List.getD_eq_getElem?_getD]; exact k _
theorem BOk.take {L : List Int} (h : BOk L) (n : Nat) : BOk (L.take n) := by
 intro i
 rw [List.getD_eq_getElem?_getD, List.getElem?_take]
 split
 ·rw [← List.getD_eq_getElem?_getD]; exact h i
 ·simp
theorem BArg.keep {w w' : World} {v : Value} {L : List Int} {g : Nat} (h : BArg w v L g) (u : Upd [] w w') : BArg w' v L g :=
 ⟨h.b.keep u (by simp), h.n, h.r, h.c, Nat.le_trans h.g u.size⟩
def Own (w : World) (base : Nat) (v : Value) (L : List Int) : Prop := w.ownsRow base 5 1 v L.length (L.map (Value.int .u8))
theorem own_nil (w : World) (base : Nat) : Own w base (.slice none 0 0) [] := ⟨rfl, .inl ⟨rfl, rfl⟩⟩
theorem own_lit (w : World) (base : Nat) (L : List Int) (C : Array Value) (hC : C.toList = L.map (.int .u8)) (hb : base ≤ w.heap.size) (hn : L.length ≤ maxLen) :
  Own (w.alloc (.cells C 5)) base (.slice (some ⟨w.heap.size, 0, none⟩) L.length L.length) L := by
 have hs : C.size = L.length := by rw [← Array.length_toList, hC, List.length_map]
 refine ⟨by simp, .inr ⟨w.heap.size, L.length, C, rfl, hb, heap_alloc_new w _, Nat.le_refl _, hn, by omega, ?_⟩⟩
 rw [hC, Nat.mul_one, List.take_of_length_le (by simp)]
theorem Own.barg {w : World} {base : Nat} {v : Value} {L : List Int} (h : Own w base v L) (hr : BOk L) (hn : L.length ≤ maxLen) : ∃ g, BArg w v L g ∧ (v.ownBlock = none ∨ (v.ownBlock = some g ∧ base ≤ g ∧ g < w.heap.size)) := by
 rcases h.2 with ⟨rfl, h0⟩ | ⟨g, cap, cur, rfl, hb, hg, hnc, hcm, hs, ht⟩
 ·have : L = [] := List.eq_nil_of_length_eq_zero h0
  subst this
  exact ⟨0, ⟨.inl ⟨rfl, rfl⟩, Nat.zero_le _, hr, fun b n c e => by injection e; omega, Nat.zero_le _⟩, .inl rfl⟩
 ·refine ⟨g, ⟨.inr ⟨0, cap, cur, _, _, rfl, hg, fun i hi => ?_⟩, hn, hr, fun b n c e => by injection e; omega, Nat.le_of_lt (Yk hg)⟩, .inr ⟨rfl, hb, Yk hg⟩⟩
  have e : (cur.toList.take (L.length * 1))[i]? = some (.int .u8 (L.getD i 0)) := by
   rw [ht, List.getElem?_map, List.getD_eq_getElem?_getD, List.getElem?_eq_getElem hi]; rfl
  rw [Nat.mul_one, List.getElem?_take, if_pos hi, Array.getElem?_toList] at e
  rw [Nat.zero_add]; exact e
theorem Own.keep {w w' : World} {base : Nat} {v : Value} {L : List Int} {S : List Nat} (h : Own w base v L) (u : Upd S w w') (hS : ∀ g, v.ownBlock = some g → g ∉ S) : Own w' base v L := by
 refine ⟨h.1, ?_⟩
 rcases h.2 with h0 | ⟨g, cap, cur, rfl, hb, hg, hr⟩
 ·exact .inl h0
 ·exact .inr ⟨g, cap, cur, rfl, hb, u.get hg (hS g rfl), hr⟩
theorem Own.block {w : World} {base : Nat} {v : Value} {L : List Int} (h : Own w base v L) : ∀ g, v.ownBlock = some g → base ≤ g ∧ g < w.heap.size := by
 intro g e
 rcases h.2 with ⟨rfl, _⟩ | ⟨g', cap, cur, rfl, hb, hg, hr⟩
 ·cases e
 ·simp only [Value.ownBlock, Option.some.injEq] at e
  subst e
  exact ⟨hb, Yk hg⟩
theorem Yj2 {w : World} {base : Nat} {v : Value} {L : List Int} (h : Own w base v L) {b : Nat} {c : Array Value} {t : TypeId} {f : Nat × Nat} (hb : w.heap[b]? = some (.cells c t f)) (ht : t ≠ 5) : v.ownBlock ≠ some b := by
 intro e
 rcases h.2 with ⟨rfl, _⟩ | ⟨g', cap, cur, rfl, _, hg, hr⟩
 ·cases e
 ·simp only [Value.ownBlock, Option.some.injEq] at e
  subst e
  rw [hb] at hg
  injection hg with hg
  injection hg with _ h1
  exact ht h1
structure Grew (w : World) (base : Nat) (v : Value) (L : List Int) (v' : Value) (w' : World) : Prop where
 o : Own w' base v' L
 u : Upd v.ownBlock.toList w w'
 b : v'.ownBlock = v.ownBlock ∨ v'.ownBlock = some w.heap.size
theorem Yj7 (w : World) (base : Nat) (ty : TypeId) (v : Value) (L : List Int) (hown : Own w base v L) (vb : Value) (M : List Int) (g : Nat) (hb : Yev w vb M g) (hn : L.length + M.length ≤ 10000) (hbase : base ≤ w.heap.size) :
  ∃ v' w', (Builtin.append_ #[57, 57] ty #[v, vb]).run Tryz.prog w = .ok v' w' ∧ Grew w base v (L ++ M) v' w' := by
 obtain ⟨i, hi, hz0, hz1, hz2⟩ := info_parts info_u8
 have key : ∀ (a : Addr) (m c : Nat), M.length = m → (∀ j u, (M.map (Value.int .u8))[j]? = some u → w.cell? (a.add j) = some u) → ∃ v' w', (Builtin.append_ #[57, 57] ty #[v, .slice (some a) m c]).run Tryz.prog w = .ok v' w' ∧ Grew w base v (L ++ M) v' w' := by
  intro a m c hm hc
  subst hm
  obtain ⟨v', w', h1, h2, h3, _, h5⟩ := run_append_own_at (P := Tryz.prog) w base 57 ty 5 i _ 1 1 Tryz.underlying57 hi hz0 hz1 hz2 rfl (by decide) v L.length _ hown a M.length c (M.map (Value.int .u8)) (by simp) hc
   (by intro u hu; simp only [List.mem_map] at hu; obtain ⟨z, _, rfl⟩ := hu; rfl) (by unfold maxLen; omega) (by omega) hbase
  refine ⟨v', w', h1, ?_, Upd.of_grown h3, h5⟩
  unfold Own
  rw [List.length_append, List.map_append]
  exact h2
 rcases hb with ⟨rfl, rfl⟩ | ⟨o, c, C, T, f, rfl, hg, hc⟩
 ·refine ⟨v, w, ?_, ?_, Upd.refl _ _, .inl rfl⟩
  ·rcases hown.2 with ⟨rfl, h0⟩ | ⟨g, cap, cur, rfl, _, _, hnc, _⟩
   ·simp [Builtin.append_, run_underlying Tryz.underlying57, sizeOf, typeInfo, hi, Builtin.lenOf, Builtin.firstCells]
   ·simp [Builtin.append_, run_underlying Tryz.underlying57, sizeOf, typeInfo, hi, Builtin.lenOf, Builtin.firstCells, hnc, storeCells]
  ·rw [List.append_nil]; exact hown
 ·refine key _ _ _ rfl fun j u hu => ?_
  have hj : j < M.length := by
   have := (List.getElem?_eq_some_iff.1 hu).1
   simpa using this
  rw [Addr.add_lit, Ya hg, hc j hj]
  rw [List.getElem?_map, List.getElem?_eq_getElem hj] at hu
  simp only [Option.map_some, Option.some.injEq] at hu
  rw [List.getD_eq_getElem?_getD, List.getElem?_eq_getElem hj, Option.getD_some, hu]
theorem Yie {ops : Array Oper} {rest : List Oper} {o : Oper} {a : Act} {w : World} {Q : Exit → Act → World → Prop} (hgd : o.guard = none) (s x : Operand)
  (ho : o.op = .call { callee := .builtin .append, args := #[s, x], argTypes := #[57, 57] })
  (base : Nat) (v : Value) (L : List Int) (hs : a.eval s = v) (hown : Own w base v L) (vb : Value) (M : List Int) (g : Nat) (hx : a.eval x = vb) (hb : Yev w vb M g) (hn : L.length + M.length ≤ 10000) (hbase : base ≤ w.heap.size)
  (h : ∀ v' w', Grew w base v (L ++ M) v' w' → wpList Tryz.prog ops Q rest (a.put o.dst v') w') : wpList Tryz.prog ops Q (o :: rest) a w := by
 refine wpList_plain hgd fun _ hK => ?_
 obtain ⟨v', w', hr, h2⟩ := Yj7 w base o.type v L hown vb M g hb hn hbase
 unfold Oper.wp execOp
 simp only [ho, resolve, invoke, builtin, Sem.run_bind, Sem.run_pure, Result.andThen_ok, List.map_toArray, List.map_cons, List.map_nil, hs, hx, hr]
 exact hK _ _ (h v' w' h2)
end
theorem Yis {P : Program} {t : TypeId} {xs : Array Value} {off n : Nat} {i : TypeInfo} (w : World) (ht : (isAgg t).run P w = .ok true w) (hi : P.info? t = some i) (hn : i.size = n) : (part t xs off).run P w = .ok (.agg (xs.extract off (off + n))) w := by
 subst hn
 simp [part, ht, sizeOf, typeInfo, hi]
theorem Ybx {P : Program} {w : World} {d : Nat} {xs ys : Array Value} {f : Field} {fs : List Field} {u v : Value} {b c : Bool} (hne : (f.name ≠ "_") = True)
  (hx : (part f.type xs f.offset).run P w = .ok u w) (hy : (part f.type ys f.offset).run P w = .ok v w) (he : (Op.equalIn d f.type u v).run P w = .ok b w) (hr : (Op.eqFields d xs ys fs).run P w = .ok c w) :
  (Op.eqFields d xs ys (f :: fs)).run P w = .ok (b && c) w := by
 simp only [Op.eqFields, hne, if_true]
 rw [Sem.run_bind, hx, Result.andThen_ok, Sem.run_bind, hy, Result.andThen_ok, Sem.run_bind, he, Result.andThen_ok]
 cases b
 ·rfl
 ·simp only [Bool.not_true, Bool.false_eq_true, if_false]
  rw [hr]; rfl
theorem Yhn {P : Program} {w : World} {d : Nat} {xs ys : Array Value} : (Op.eqFields d xs ys []).run P w = .ok true w := rfl
theorem Ygl {P : Program} (w : World) (d : Nat) {e : TypeId} {k : IntKind} (he : P.underlying e = some (.int k)) (xs ys : Array Value) (f g : Nat → Int) :
  ∀ is : List Nat, (∀ i, i ∈ is → xs[i]? = some (.int k (f i)) ∧ ys[i]? = some (.int k (g i))) → (Op.eqItems (d + 1) e 1 xs ys is).run P w = .ok (is.all fun i => f i == g i) w
 |[], _ => by simp [Op.eqItems]
 |i :: is, h => by
  have h1 := h i (by simp)
  have ih := Ygl w d he xs ys f g is (fun j hj => h j (by simp [hj]))
  have hp : P.plainKey e = true := by simp [Program.plainKey, he]
  simp only [Op.eqItems, Nat.mul_one, Sem.run_bind, run_part_plain w hp h1.1, run_part_plain w hp h1.2, Result.andThen_ok, run_equalIn_int w d e k k _ _ he, List.all_cons]
  cases hb : f i == g i
  ·simp
  ·simpa using ih
def Opd.eqB (a b : Opd) : Bool := ((a.k == b.k) && ((a.r == b.r) && ((a.imm == b.imm) && ((a.b == b.b) && ((a.x == b.x) && ((a.sc == b.sc) && true))))))
def Ins.eqB (i j : Ins) : Bool := ((i.op == j.op) && ((i.cond == j.cond) && (i.a.eqB j.a && (i.b.eqB j.b && ((i.rep == j.rep) && ((i.len == j.len) && true))))))
theorem Opd.eqB_self (a : Opd) : a.eqB a = true := by simp [Opd.eqB]
theorem Ins.eqB_self (i : Ins) : i.eqB i = true := by simp [Ins.eqB, Opd.eqB_self]
theorem Opd.eqB_iff (a b : Opd) : a.eqB b = true ↔ a = b := by
 constructor
 ·intro h
  simp only [Opd.eqB, Bool.and_eq_true, beq_iff_eq, and_true] at h
  exact Opd.ext' h.1 h.2.1 h.2.2.1 h.2.2.2.1 h.2.2.2.2.1 h.2.2.2.2.2
 ·rintro rfl; exact a.eqB_self
theorem Ins.eqB_iff (i j : Ins) : i.eqB j = true ↔ i = j := by
 constructor
 ·intro h
  simp only [Ins.eqB, Bool.and_eq_true, beq_iff_eq, and_true, Opd.eqB_iff] at h
  obtain ⟨h1, h2, h3, h4, h5, h6⟩ := h
  cases i; cases j; simp_all
 ·rintro rfl; exact i.eqB_self
section
structure Gr (w : World) (bt : Nat) (o : Obj) (l : List (Nat × Ins)) (w1 : World) : Prop where
 t : w1.heap[bt]? = some o
 i : ∀ p, p ∈ l → w1.heap[p.1]? = some (.cells p.2.cells 41 (0, 0))
 u : Upd [] w w1
 n : w.heap.size ≤ bt
theorem Gr.step {w w1 w2 : World} {bt : Nat} {o : Obj} {l : List (Nat × Ins)} (h : Gr w bt o l w1) (u : Upd [] w1 w2) : Gr w bt o l w2 :=
 ⟨u.get h.t (by simp), fun p hp => u.get (h.i p hp) (by simp), h.u.also u (by simp), h.n⟩
theorem Gr.lay {w w1 w2 : World} {bt : Nat} {o : Obj} {l : List (Nat × Ins)} (h : Gr w bt o l w1) (j : Ins) (hw : (w1.alloc (.cells Ins.zero.cells 41)).setCells w1.heap.size 0 j.cells.toList = w2) : Gr w bt o ((w1.heap.size, j) :: l) w2 := by
 obtain ⟨z1, z2⟩ := Ya7 (S := []) (w0 := w1) hw (heap_alloc_new w1 (.cells Ins.zero.cells 41)) rfl ((Upd.refl [] w1).alloc _) (.inr (Nat.le_refl _))
 have h2 := h.step z2
 refine ⟨h2.t, fun p hp => ?_, h2.u, h.n⟩
 rcases List.mem_cons.1 hp with rfl | hp
 ·exact z1
 ·exact h2.i p hp
theorem Gr.lt {w w1 : World} {bt : Nat} {o : Obj} {l : List (Nat × Ins)} (h : Gr w bt o l w1) : bt < w1.heap.size := Yk h.t
structure GrD (w : World) (bt : Nat) (o : Obj) (l : List (Nat × Ins)) (I : Ins) (i k : Nat) (d : Nat → Bool) (r : Nat → Value) (w1 : World) : Prop where
 b : Gr w bt o l w1
 x : d i = true → ∃ g Z, r i = .pointer (some ⟨g, 0, none⟩) ∧ w1.heap[g]? = some (.cells Z 41 (0, 0)) ∧ Z.size = 16 ∧ (d k = true → Z = I.cells) ∧ g ≠ bt ∧ w.heap.size ≤ g ∧ ∀ p, p ∈ l → p.1 ≠ g
 o : d k = true → d i = true
 ne : i ≠ k
section
variable {w w1 w2 : World} {bt : Nat} {o : Obj} {l : List (Nat × Ins)} {I : Ins} {i k : Nat} {d : Nat → Bool} {r : Nat → Value}
theorem GrD.start (h : Gr w bt o l w1) (ne : i ≠ k) (r : Nat → Value) : GrD w bt o l I i k (fun _ => false) r w1 :=
 ⟨h, fun h => (by cases h), fun h => (by cases h), ne⟩
theorem GrD.quiet (h : GrD w bt o l I i k d r w1) (hu : Upd [] w1 w2) (m : Nat) (h1 : i ≠ m) (h2 : k ≠ m) : GrD w bt o l I i k (Yai d m) r w2 := by
 refine ⟨h.b.step hu, fun hx => ?_, fun ho => ?_, h.ne⟩
 ·rw [Ydb h1] at hx
  obtain ⟨g, Z, e1, e2, e3, e4, e5⟩ := h.x hx
  exact ⟨g, Z, e1, hu.get e2 (by simp), e3, fun hk => e4 (by rwa [Ydb h2] at hk), e5⟩
 ·rw [Ydb h2] at ho; rw [Ydb h1]; exact h.o ho
theorem GrD.same (h : GrD w bt o l I i k d r w1) (m : Nat) (h1 : i ≠ m) (h2 : k ≠ m) : GrD w bt o l I i k (Yai d m) r w1 := h.quiet (Upd.refl [] w1) m h1 h2
theorem GrD.lay (h : GrD w bt o l I i k d r w1) (hd : d i = false) : GrD w bt o l I i k (Yai d i) (Ycw r i (.pointer (some ⟨w1.heap.size, 0, none⟩))) (w1.alloc (.cells Ins.zero.cells 41)) := by
 refine ⟨h.b.step ((Upd.refl [] w1).alloc _), fun _ => ⟨_, _, bV_eq, heap_alloc_new _ _, rfl, fun hk => ?_, ?_, h.b.u.size, fun p hp e => ?_⟩, fun _ => bD_eq, h.ne⟩
 ·rw [Ydb h.ne.symm] at hk
  rw [h.o hk] at hd; cases hd
 ·have := h.b.lt; omega
 ·have := Yk (h.b.i p hp); omega
theorem GrD.store (h : GrD w bt o l I i k d r w1) (hd : d i = true) {g : Nat} {Z : Array Value} (hg : r i = .pointer (some ⟨g, 0, none⟩)) (hb : w1.heap[g]? = some (.cells Z 41 (0, 0))) (hZ : Z.size = 16) (hn : g ≠ bt ∧ w.heap.size ≤ g ∧ ∀ p, p ∈ l → p.1 ≠ g) :
  GrD w bt o l I i k (Yai d k) r (w1.setCells g 0 I.cells.toList) := by
 have hu : Upd [g] w1 (w1.setCells g 0 I.cells.toList) := (Upd.refl [g] w1).setCells (.inl (by simp)) _ _
 refine ⟨⟨hu.get h.b.t (by simp; exact fun e => hn.1 e.symm), fun p hp => hu.get (h.b.i p hp) (by simp; exact hn.2.2 p hp), h.b.u.also hu (by simp; exact hn.2.1), h.b.n⟩, fun _ => ⟨g, I.cells, hg, ?_, I.size, fun _ => rfl, hn⟩, fun _ => by rw [Ydb h.ne]; exact hd, h.ne⟩
 rw [Yaf _ _ _ _ hb, Yl6 Z I hZ]
theorem GrD.fin (h : GrD w bt o l I i k d r w1) (hi : d i = true) (hk : d k = true) : ∃ g, r i = .pointer (some ⟨g, 0, none⟩) ∧ Gr w bt o ((g, I) :: l) w1 := by
 obtain ⟨g, Z, e1, e2, e3, e4, e5⟩ := h.x hi
 rw [e4 hk] at e2
 refine ⟨g, e1, h.b.t, fun p hp => ?_, h.b.u, h.b.n⟩
 rcases List.mem_cons.1 hp with rfl | hp
 ·exact e2
 ·exact h.b.i p hp
end
end
section
theorem BOk.cons {c : Int} {L : List Int} (hc : 0 ≤ c ∧ c ≤ 255) (h : BOk L) : BOk (c :: L) := by
 intro i
 cases i with
 |zero => simpa using hc
 |succ i => simpa using h i
theorem BOk.nil : BOk [] := fun i => by simp
structure Dn (w : World) (v : Value) (L : List Int) (w1 : World) : Prop where
 u : Upd [] w w1
 o : Own w1 w.heap.size v L
section
variable {w w1 w2 : World} {v v' : Value} {L N : List Int}
theorem Dn.start (h : Upd [] w w1) : Dn w (.slice none 0 0) [] w1 := ⟨h, own_nil _ _⟩
theorem Dn.step (h : Dn w v L w1) (u : Upd [] w1 w2) : Dn w v L w2 := ⟨h.u.also u (by simp), h.o.keep u (by simp)⟩
theorem Dn.ins (h : Dn w v L w1) {j : Ins} (hw : (w1.alloc (.cells Ins.zero.cells 41)).setCells w1.heap.size 0 j.cells.toList = w2) : Dn w v L w2 := by
 obtain ⟨_, z2⟩ := Ya7 (S := []) (w0 := w1) hw (heap_alloc_new w1 (.cells Ins.zero.cells 41)) rfl ((Upd.refl [] w1).alloc _) (.inr (Nat.le_refl _))
 exact h.step z2
theorem Dn.lit (h : Dn w v L w1) (C : Array Value) (N : List Int) (hC : C.toList = N.map (.int .u8)) (hn : N.length ≤ maxLen) :
  Own (w1.alloc (.cells C 5)) w.heap.size (.slice (some ⟨w1.heap.size, 0, none⟩) N.length N.length) N := own_lit w1 _ N C hC h.u.size hn
theorem Dn.app (h : Dn w v L w1) {C : Array Value} {n : Nat} (hg : Grew (w1.alloc (.cells C 5)) w.heap.size (.slice (some ⟨w1.heap.size, 0, none⟩) n n) N v' w2) : Dn w v L w2 := by
 have hu : Upd [] w w2 := (h.u.alloc _).also hg.u (by intro x hx; simp [Value.ownBlock] at hx; subst hx; exact .inr h.u.size)
 exact ⟨hu, (h.o.keep ((Upd.refl [] w1).alloc _) (by simp)).keep hg.u (by intro g e hx; simp [Value.ownBlock] at hx; have := (h.o.block g e).2; omega)⟩
theorem Dn.grow (h : Dn w v L w1) (hg : Grew w1 w.heap.size v N v' w2) : Dn w v' N w2 :=
 ⟨h.u.also hg.u (by intro x hx; cases hv : v.ownBlock with | none => rw [hv] at hx; simp at hx | some g => rw [hv] at hx; simp at hx; exact .inr (by have := (h.o.block g hv).1; omega)), hg.o⟩
theorem Dn.take (h : Dn w v L w1) {C : Array Value} {n : Nat} (hg : Grew (w1.alloc (.cells C 5)) w.heap.size (.slice (some ⟨w1.heap.size, 0, none⟩) n n) N v' w2) : Dn w v' N w2 := ⟨(h.app hg).u, hg.o⟩
end
end
section
structure Fm (w : World) (v : Value) (L : List Int) (ob : Nat) (o : Opd) (w1 : World) : Prop where
 d : Dn w v L w1
 o : w1.heap[ob]? = some (.cells o.cells 39 (0, 0))
 n : w.heap.size ≤ ob
section
variable {w w1 w2 : World} {v v' : Value} {L N : List Int} {ob : Nat} {o o' : Opd}
theorem Fm.step (h : Fm w v L ob o w1) (u : Upd [] w1 w2) : Fm w v L ob o w2 := ⟨h.d.step u, u.get h.o (by simp), h.n⟩
theorem Fm.grow (h : Fm w v L ob o w1) (hg : Grew w1 w.heap.size v N v' w2) : Fm w v' N ob o w2 := by
 refine ⟨h.d.grow hg, hg.u.get h.o ?_, h.n⟩
 intro hx
 have := Yj2 h.d.o h.o (by decide)
 cases hv : v.ownBlock with
 |none => rw [hv] at hx; simp at hx
 |some g => rw [hv] at hx this; simp at hx; subst hx; exact this rfl
theorem Fm.touch (h : Fm w v L ob o w1) (u : Upd [ob] w1 w2) (ho : w2.heap[ob]? = some (.cells o'.cells 39 (0, 0))) : Fm w v L ob o' w2 := by
 refine ⟨⟨h.d.u.also u (by simp; exact h.n), h.d.o.keep u ?_⟩, ho, h.n⟩
 intro g hg hx
 simp at hx
 subst hx
 exact Yj2 h.d.o h.o (by decide) hg
theorem Fm.set (h : Fm w v L ob o w1) (j : Nat) (x : Value) (ho : o.cells.setIfInBounds j x = o'.cells) : Fm w v L ob o' (w1.setCell ⟨ob, j, none⟩ x) := by
 have u : Upd [ob] w1 (w1.setCell ⟨ob, j, none⟩ x) := (Upd.refl _ w1).setCell (by simp) _
 have ho' := Yi h.o j x
 rw [ho] at ho'
 exact h.touch u ho'
theorem Fm.all (h : Fm w v L ob o w1) (hw : w1.setCells ob 0 o'.cells.toList = w2) : Fm w v L ob o' w2 := by
 obtain ⟨z1, z2⟩ := Ych hw h.o rfl
 exact h.touch z2 z1
theorem Fm.start {w0 : World} (h : Upd [] w w0) (C : Array Value) (N : List Int) (hC : C.toList = N.map (.int .u8)) (hn : N.length ≤ maxLen) :
  Fm w (.slice (some ⟨w0.heap.size, 0, none⟩) N.length N.length) N (w0.heap.size + 1) o ((w0.alloc (.cells C 5)).alloc (.cells o.cells 39)) := by
 have h1 := heap_alloc_new (w0.alloc (.cells C 5)) (.cells o.cells 39)
 rw [show (w0.alloc (.cells C 5)).heap.size = w0.heap.size + 1 by simp] at h1
 exact ⟨⟨(h.alloc _).alloc _, ((Dn.start h).lit C N hC hn).keep ((Upd.refl [] _).alloc _) (by simp)⟩, h1, by have := h.size; omega⟩
end
theorem Grew.form {w : World} {base : Nat} {v : Value} {L : List Int} {v' : Value} {w' : World} (h : Grew w base v L v' w') (n : Nat) (hn : L.length = n) : ∃ b c, v' = .slice b n c := by
 subst hn
 exact Yl4 h.o
theorem Yox (w : World) (M : List Int) (C : Array Value) (T : TypeId) (hC : C.toList = M.map (.int .u8)) : Yev (w.alloc (.cells C T)) (.slice (some ⟨w.heap.size, 0, none⟩) M.length M.length) M w.heap.size := by
 refine .inr ⟨0, M.length, C, T, _, rfl, heap_alloc_new w _, fun i hi => ?_⟩
 rw [Nat.zero_add, ← Array.getElem?_toList, hC, List.getElem?_map, List.getD_eq_getElem?_getD, List.getElem?_eq_getElem hi]
 rfl
end
section
structure FeR where
 i : Ins
 f : Flt
 k : Bool
def Yea (M : Mem) (pc : Int) : Nat → List Int → FeR
 |0, _ => ⟨Ins.zero, ⟨4, pc, 0, 0⟩, false⟩
 |n + 1, L =>
  if Yew L = 0 then ⟨decI L, Flt.zero, true⟩
  else if Yew L = 90 then ⟨Ins.zero, ⟨3, pc, 0, 0⟩, false⟩
  else if Yew L = 12 then ⟨Ins.zero, ⟨4, pc, 0, 0⟩, false⟩
  else if M.readK (Yah pc L.length) 1 4 then Yea M pc n (L ++ [M.readV (Yah pc L.length) 1 4])
  else ⟨Ins.zero, { M.rdF (Yah pc L.length) 1 4 with pc := pc }, false⟩
def Ya3 (M : Mem) (pc : Int) : FeR := Yea M pc 16 []
def feW (w : World) : World := ((w.alloc (.cells Ins.zero.cells 41)).alloc (.cells #[.int .i64 0, .int .u32 0, .int .u32 0, .int .i64 0] 35)).alloc (.cells #[.bool false] 4)
theorem feW_up (w : World) : Upd [] w (feW w) := (((Upd.refl [] w).alloc _).alloc _).alloc _
theorem feW_i (w : World) : (feW w).heap[w.heap.size]? = some (.cells Ins.zero.cells 41 (0, 0)) := Ym _ (heap_alloc2_old _ _ _)
theorem feW_f (w : World) : (feW w).heap[w.heap.size + 1]? = some (.cells #[.int .i64 0, .int .u32 0, .int .u32 0, .int .i64 0] 35 (0, 0)) := Ym _ (heap_alloc2_new _ _ _)
theorem feW_k (w : World) : (feW w).heap[w.heap.size + 1 + 1]? = some (.cells #[.bool false] 4 (0, 0)) := by
 have := heap_alloc_new ((w.alloc (.cells Ins.zero.cells 41)).alloc (.cells #[.int .i64 0, .int .u32 0, .int .u32 0, .int .i64 0] 35)) (.cells #[.bool false] 4)
 rwa [show ((w.alloc (.cells Ins.zero.cells 41)).alloc (.cells #[.int .i64 0, .int .u32 0, .int .u32 0, .int .i64 0] 35)).heap.size = w.heap.size + 2 from by simp] at this
theorem plus_lt' (x : Int) (k : Nat) : Yah x k < 4294967296 := by unfold Yah; omega
theorem Ym8 {M : Mem} (h : M.Ok) (x r : Int) : 0 ≤ M.readV x 1 r ∧ M.readV x 1 r ≤ 255 := by
 unfold Mem.readV
 rw [show (Ybh 1).toNat = 1 from rfl]
 split
 ·have := h.B (Yah x 0).toNat
  simp only [Mem.get]
  simp
  omega
 ·decide
theorem byl_lit2 (w : World) (O : Obj) (x : Int) (T : TypeId) : Yev ((w.alloc O).alloc (.cells #[.int .u8 x] T)) (.slice (some ⟨w.heap.size + 1, 0, none⟩) 1 1) [x] (w.heap.size + 1) := by
 have h := Yox (w.alloc O) [x] #[.int .u8 x] T rfl
 rwa [show (w.alloc O).heap.size = w.heap.size + 1 from by simp] at h
structure FeS (w : World) (v : Value) (L : List Int) (wr : World) : Prop where
 d : Dn (feW w) v L wr
 r : BOk L
 n : L.length ≤ 16
section
variable {w w1 w2 : World} {v : Value} {L : List Int}
theorem FeS.up (h : FeS w v L w1) : Upd [] w w1 := (feW_up w).also h.d.u (by simp)
theorem FeS.i (h : FeS w v L w1) : w1.heap[w.heap.size]? = some (.cells Ins.zero.cells 41 (0, 0)) := h.d.u.get (feW_i w) (by simp)
theorem FeS.f (h : FeS w v L w1) : w1.heap[w.heap.size + 1]? = some (.cells #[.int .i64 0, .int .u32 0, .int .u32 0, .int .i64 0] 35 (0, 0)) := h.d.u.get (feW_f w) (by simp)
theorem FeS.k (h : FeS w v L w1) : w1.heap[w.heap.size + 1 + 1]? = some (.cells #[.bool false] 4 (0, 0)) := h.d.u.get (feW_k w) (by simp)
theorem FeS.step (h : FeS w v L w1) (u : Upd [] w1 w2) : FeS w v L w2 := ⟨h.d.step u, h.r, h.n⟩
theorem FeS.ins (h : FeS w v L w1) {j : Ins} (hw : (w1.alloc (.cells Ins.zero.cells 41)).setCells w1.heap.size 0 j.cells.toList = w2) : FeS w v L w2 ∧ w2.heap[w1.heap.size]? = some (.cells j.cells 41 (0, 0)) := by
 obtain ⟨z1, z2⟩ := Ya7 (S := []) (w0 := w1) hw (heap_alloc_new w1 (.cells Ins.zero.cells 41)) rfl ((Upd.refl [] w1).alloc _) (.inr (Nat.le_refl _))
 exact ⟨h.step z2, z1⟩
theorem FeS.grow {v' : Value} {x : Int} (h : FeS w v L w1) (hg : Grew w1 (feW w).heap.size v (L ++ [x]) v' w2) (hx : 0 ≤ x ∧ x ≤ 255) (hn : L.length < 16) : FeS w v' (L ++ [x]) w2 :=
 ⟨h.d.grow hg, BOk.app h.r (fun i => by cases i with | zero => simpa using hx | succ i => simp), by simp; omega⟩
theorem FeS.form (h : FeS w v L w1) : ∃ b c, v = .slice b L.length c := by
 obtain ⟨g, hb, _⟩ := h.d.o.barg h.r (by have := h.n; unfold maxLen; omega)
 exact hb.b.form
theorem FeS.bad (h : FeS w v L w1) {fn : Func} {tmps : Array Value} (hr : fn.results = Tryz.f21.results) (F : Flt) (pc : Int) (h4 : tmps.getD 4 undef = .pointer (some ⟨w.heap.size, 0, none⟩)) (h5 : tmps.getD 5 undef = .pointer (some ⟨w.heap.size + 1, 0, none⟩)) (h6 : tmps.getD 6 undef = .pointer (some ⟨w.heap.size + 1 + 1, 0, none⟩)) :
  Leaves Tryz.prog fn tmps (fun e w' => e = .returned (.tuple #[Ins.zero.val, ({ F with pc := pc } : Flt).val, .bool false]) ∧ Upd [] w w') (Yjo pc (w.heap.size + 1) (w.heap.size + 1 + 1)) (.panicking [{ v := .iface 35 F.val, recovered := false }]) w1 := by
 refine Ym5 F (.tuple #[Ins.zero.val, ({ F with pc := pc } : Flt).val, .bool false]) (fun w2 hf hk hU => ?_) h.f h.k (by omega) (fun w2 hU => ⟨rfl, h.up.also hU (by simp <;> omega)⟩)
 exact Yas hr (Yq 4 w.heap.size Ins.zero h4 (hU.get h.i (by simp <;> omega))) (Ydj 5 (w.heap.size + 1) { F with pc := pc } h5 hf) (Yey 6 (w.heap.size + 1 + 1) false h6 hk)
end
theorem Yju (M : Mem) (a pb : Nat) (pc : Int) (w : World) (hM : Yj w a pb M) (h0 : 0 ≤ pc ∧ pc < 4294967296) :
  Calls Tryz.prog 21 #[.pointer (some ⟨a, 0, none⟩), .int .u32 pc] w fun e w' => e = .returned (.tuple #[(Ya3 M pc).i.val, (Ya3 M pc).f.val, .bool (Ya3 M pc).k]) ∧ Upd [] w w' := by
 have HM := Yh_ (And.intro hM h0)
 have HS := Yh_ (show FeS w (.slice none 0 0) [] (feW w) from ⟨Dn.start (Upd.refl [] _), fun i => by simp, by simp⟩)
 clear hM h0
 go_enter_defers Tryz.func21, Tryz.ntmps21
 go_wp2_with fail
 go_loopw [7] (fun v wr => ∃ L, FeS w v L wr ∧ Ya3 M pc = Yea M pc (16 - L.length) L) (fun v _ => 16 - (match v with | .slice _ n _ => n | _ => 0))
 case atStart => exact ⟨[], HS.out, rfl⟩
 case round =>
  obtain ⟨L, hB, hR⟩ := hrel
  obtain ⟨b, c, rfl⟩ := hB.form
  have HB := Yh_ hB
  have HR := Yh_ hR
  have hn := hB.n
  clear hB hR
  by_cases hlt : L.length < 16
  ·have d1 : decide ((L.length : Int) ≤ 15) = true := by simp; omega
   have d2 : decide (L.length ≤ 15) = true := by simp; omega
   have q1 : (L.length : Int) % 4294967296 = L.length := by omega
   have q2 : (pc + (L.length : Int)) % 4294967296 = Yah pc L.length := rfl
   have hs : 16 - L.length = (15 - L.length) + 1 := by omega
   have tokD : True := trivial
   have tokS : True := trivial
   obtain ⟨J, hJ⟩ : ∃ J, decI L = J := ⟨_, rfl⟩
   have HI_ := Yh_ hJ
   have HR2 := Yh_ (show Ya3 M pc = Yea M pc ((15 - L.length) + 1) L by rw [← hs]; exact HR.out)
   have HN := Yh_ hlt
   clear HR hs
   by_cases e0 : Yew L = 0
   ·have HE := Yh_ e0
    have HV := Yh_ (show Ya3 M pc = ⟨J, Flt.zero, true⟩ by rw [HR2.out, Yea, if_pos e0, hJ])
    clear e0 hJ hlt hn
    go_wp2_with (first | (have _t := tokD; clear _t; go_at_call 37; obtain ⟨g3, hb3, _⟩ := HB.out.d.o.barg HB.out.r (by have := HB.out.n; unfold maxLen; omega); have HB3 := Yh_ hb3; clear hb3; refine (Yeo (.slice b L.length c) L g3 _ HB3.out).mono ?_; rintro e w2 ⟨rfl, hu⟩; rw [HE.out, HI_.out]; have B2 := Yh_ (HB.out.step hu); clear hu tokD HB) | (have _t := B2; clear _t; refine Ye 41 rfl ?_; refine Yc J w2.heap.size rfl _ _ rfl rfl rfl (heap_alloc_new w2 (.cells Ins.zero.cells 41)) rfl ?_; intro w3 hw; have B3 := Yh_ (B2.out.ins hw); clear hw B2) | (have _t := B3; clear _t; refine Yr 41 rfl ?_; refine Yan J w2.heap.size rfl _ rfl rfl B3.out.2 ?_) | (have _t := tokS; have _t2 := B3; clear _t _t2; refine Ye 41 rfl ?_; refine Yc J w.heap.size rfl _ _ rfl rfl rfl B3.out.1.i rfl ?_; intro w5 hw; have h5 := Ya7 hw B3.out.1.i rfl (Upd.refl [w.heap.size] w3) (.inl (by simp)); have B5 := Yh_ (And.intro h5.1 (And.intro (h5.2.get B3.out.1.f (by simp <;> omega)) (And.intro (h5.2.get B3.out.1.k (by simp <;> omega)) (B3.out.1.up.also h5.2 (by simp <;> omega))))); clear hw h5 B3 tokS; have cf := Ya B5.out.2.1; have ff := Yg B5.out.2.1; have ck := Ya B5.out.2.2.1; have fk := Yg B5.out.2.2.1))
    have hF := Yh (a := ⟨w.heap.size + 1 + 1, 0, none⟩) (.bool true) (by simp) (Yc1 B5.out.2.1 (.int .i64 0) (.int .u32 0) (.int .u32 0) (.int .i64 0))
    have UK := Yax (S := [w.heap.size + 1, w.heap.size + 1 + 1]) (b := w.heap.size + 1) (Upd.refl _ w5) (.inl (by simp)) (.int .i64 0) (.int .u32 0) (.int .u32 0) (.int .i64 0)
    have hK := Yi ((Yax (S := [w.heap.size + 1]) (b := w.heap.size + 1) (Upd.refl _ w5) (.inl (by simp)) (.int .i64 0) (.int .u32 0) (.int .u32 0) (.int .i64 0)).get B5.out.2.2.1 (by simp)) 0 (.bool true)
    have U2 := UK.setCell (p := ⟨w.heap.size + 1 + 1, 0, none⟩) (.inl (by simp)) (.bool true)
    rw [HV.out]
    refine Yps (.tuple #[J.val, Flt.zero.val, .bool true]) ?_ ⟨rfl, B5.out.2.2.2.also U2 (by simp <;> omega)⟩
    exact Yas rfl (Yq 4 w.heap.size J rfl (U2.get B5.out.1 (by simp <;> omega))) (Ydj 5 (w.heap.size + 1) Flt.zero rfl hF) (Yey 6 (w.heap.size + 1 + 1) true rfl hK)
   have hd0 : (Yew L == 0) = false := by simpa using e0
   by_cases e1 : Yew L = 90
   ·have HE := Yh_ e1
    have HV := Yh_ (show Ya3 M pc = ⟨Ins.zero, ⟨3, pc, 0, 0⟩, false⟩ by rw [HR2.out, Yea, if_neg e0, if_pos e1])
    clear e0 e1 hJ hlt hn hd0
    go_wp2_with (first | (have _t := tokD; clear _t; go_at_call 37; obtain ⟨g3, hb3, _⟩ := HB.out.d.o.barg HB.out.r (by have := HB.out.n; unfold maxLen; omega); have HB3 := Yh_ hb3; clear hb3; refine (Yeo (.slice b L.length c) L g3 _ HB3.out).mono ?_; rintro e w2 ⟨rfl, hu⟩; rw [HE.out, HI_.out]; have B2 := Yh_ (HB.out.step hu); clear hu tokD HB) | (have _t := B2; clear _t; refine Ye 41 rfl ?_; refine Yc J w2.heap.size rfl _ _ rfl rfl rfl (heap_alloc_new w2 (.cells Ins.zero.cells 41)) rfl ?_; intro w3 hw; have B3 := Yh_ (B2.out.ins hw); clear hw B2))
    rw [HV.out]
    exact B3.out.1.bad rfl ⟨3, 0, 0, 0⟩ pc rfl rfl rfl
   by_cases e2 : Yew L = 12
   ·have HE := Yh_ e2
    have HV := Yh_ (show Ya3 M pc = ⟨Ins.zero, ⟨4, pc, 0, 0⟩, false⟩ by rw [HR2.out, Yea, if_neg e0, if_neg e1, if_pos e2])
    clear e0 e1 e2 hJ hlt hn hd0
    go_wp2_with (first | (have _t := tokD; clear _t; go_at_call 37; obtain ⟨g3, hb3, _⟩ := HB.out.d.o.barg HB.out.r (by have := HB.out.n; unfold maxLen; omega); have HB3 := Yh_ hb3; clear hb3; refine (Yeo (.slice b L.length c) L g3 _ HB3.out).mono ?_; rintro e w2 ⟨rfl, hu⟩; rw [HE.out, HI_.out]; have B2 := Yh_ (HB.out.step hu); clear hu tokD HB) | (have _t := B2; clear _t; refine Ye 41 rfl ?_; refine Yc J w2.heap.size rfl _ _ rfl rfl rfl (heap_alloc_new w2 (.cells Ins.zero.cells 41)) rfl ?_; intro w3 hw; have B3 := Yh_ (B2.out.ins hw); clear hw B2))
    rw [HV.out]
    exact B3.out.1.bad rfl ⟨4, 0, 0, 0⟩ pc rfl rfl rfl
   have hd1 : (Yew L == 90) = false := by simpa using e1
   have hd2 : (Yew L == 12) = false := by simpa using e2
   obtain ⟨ee, hee⟩ : ∃ ee, Yew L = ee := ⟨_, rfl⟩
   rw [hee] at hd0 hd1 hd2
   have HE := Yh_ hee
   obtain ⟨x, hx⟩ : ∃ x, M.readV (Yah pc L.length) 1 4 = x := ⟨_, rfl⟩
   have HX := Yh_ hx
   have hxr := Ym8 HM.out.1.ok (Yah pc L.length) 4
   rw [hx] at hxr
   have q3 : x % 256 = x := by omega
   obtain ⟨⟨fk, fp, fa, fw⟩, hF⟩ : ∃ F, M.rdF (Yah pc L.length) 1 4 = F := ⟨_, rfl⟩
   have HF := Yh_ hF
   cases hk : M.readK (Yah pc L.length) 1 4
   ·have HK := Yh_ hk
    have HV := Yh_ (show Ya3 M pc = ⟨Ins.zero, ⟨fk, pc, fa, fw⟩, false⟩ by rw [HR2.out, Yea, if_neg e0, if_neg e1, if_neg e2, if_neg (by rw [hk]; simp), hF])
    clear e0 e1 e2 hJ hlt hn hk hF hx hee
    go_wp2_with (first | (have _t := tokD; clear _t; go_at_call 37; obtain ⟨g3, hb3, _⟩ := HB.out.d.o.barg HB.out.r (by have := HB.out.n; unfold maxLen; omega); have HB3 := Yh_ hb3; clear hb3; refine (Yeo (.slice b L.length c) L g3 _ HB3.out).mono ?_; rintro e w2 ⟨rfl, hu⟩; rw [HE.out, HI_.out]; have B2 := Yh_ (HB.out.step hu); clear hu tokD HB) | (have _t := B2; clear _t; refine Ye 41 rfl ?_; refine Yc J w2.heap.size rfl _ _ rfl rfl rfl (heap_alloc_new w2 (.cells Ins.zero.cells 41)) rfl ?_; intro w3 hw; have B3 := Yh_ (B2.out.ins hw); clear hw B2) | (have _t := B3; clear _t; go_at_call 38; refine (Yhc M a pb (Yah pc L.length) 1 4 _ (HM.out.1.keep B3.out.1.up (by simp) (by simp)) (Ybb _ _) (plus_lt' _ _)).mono ?_; rintro e w4 ⟨rfl, hu⟩; rw [Mem.readF_val, HF.out, HK.out, HX.out]; unfold Flt.val; have B4 := Yh_ (B3.out.1.step hu); clear hu B3))
    rw [HV.out]
    exact (B4.out.step ((Upd.refl [] w4).alloc (.cells #[.int .i64 fk, .int .u32 fp, .int .u32 fa, .int .i64 fw] 35))).bad rfl ⟨fk, fp, fa, fw⟩ pc rfl rfl rfl
   ·have HK := Yh_ hk
    have HV := Yh_ (show Ya3 M pc = Yea M pc (15 - L.length) (L ++ [x]) by rw [HR2.out, Yea, if_neg e0, if_neg e1, if_neg e2, if_pos hk, hx])
    clear e0 e1 e2 hJ hlt hn hk hF hx hee
    have HXR := Yh_ hxr
    go_wp2_with (first | (have _t := tokD; clear _t; go_at_call 37; obtain ⟨g3, hb3, _⟩ := HB.out.d.o.barg HB.out.r (by have := HB.out.n; unfold maxLen; omega); have HB3 := Yh_ hb3; clear hb3; refine (Yeo (.slice b L.length c) L g3 _ HB3.out).mono ?_; rintro e w2 ⟨rfl, hu⟩; rw [HE.out, HI_.out]; have B2 := Yh_ (HB.out.step hu); clear hu tokD HB) | (have _t := B2; clear _t; refine Ye 41 rfl ?_; refine Yc J w2.heap.size rfl _ _ rfl rfl rfl (heap_alloc_new w2 (.cells Ins.zero.cells 41)) rfl ?_; intro w3 hw; have B3 := Yh_ (B2.out.ins hw); clear hw B2) | (have _t := B3; clear _t; go_at_call 38; refine (Yhc M a pb (Yah pc L.length) 1 4 _ (HM.out.1.keep B3.out.1.up (by simp) (by simp)) (Ybb _ _) (plus_lt _ _)).mono ?_; rintro e w4 ⟨rfl, hu⟩; rw [Mem.readF_val, HF.out, HK.out, HX.out]; unfold Flt.val; have B4 := Yh_ (B3.out.1.step hu); clear hu B3) | (have _t := B4; clear _t; at_builtin; refine Yie rfl _ _ rfl (feW w).heap.size (.slice b L.length c) L rfl ((B4.out.step (((Upd.refl [] w4).alloc (.cells #[.int .i64 fk, .int .u32 fp, .int .u32 fa, .int .i64 fw] 35)).alloc (.cells #[.int .u8 x] 5))).d.o) (.slice (some ⟨w4.heap.size + 1, 0, none⟩) 1 1) [x] (w4.heap.size + 1) rfl (byl_lit2 w4 (.cells #[.int .i64 fk, .int .u32 fp, .int .u32 fa, .int .i64 fw] 35) x _) (by have := HN.out; simp; omega) (by have := B4.out.d.u.size; simp; omega) ?_; intro v2 w6 hg; have B6 := Yh_ ((B4.out.step (((Upd.refl [] w4).alloc (.cells #[.int .i64 fk, .int .u32 fp, .int .u32 fa, .int .i64 fw] 35)).alloc (.cells #[.int .u8 x] 5))).grow hg HXR.out HN.out); clear hg B4))
    obtain ⟨b2, c2, hv2⟩ := B6.out.form
    subst hv2
    exact ⟨⟨L ++ [x], B6.out, by rw [HV.out, show 16 - (L ++ [x]).length = 15 - L.length from by rw [List.length_append]; simp only [List.length_cons, List.length_nil]; omega]⟩, by have := HN.out; rw [List.length_append]; simp only [List.length_cons, List.length_nil]; omega⟩
  ·obtain hlen : L.length = 16 := by omega
   have d1 : decide ((L.length : Int) ≤ 15) = false := by simp; omega
   have d2 : decide (L.length ≤ 15) = false := by simp; omega
   have HV := Yh_ (show Ya3 M pc = ⟨Ins.zero, ⟨4, pc, 0, 0⟩, false⟩ by rw [HR.out, hlen]; rfl)
   clear hlen hlt hn
   go_wp2_with fail
   rw [HV.out]
   exact HB.out.bad rfl ⟨4, 0, 0, 0⟩ pc rfl rfl rfl
end
end Go.Proofs.YthakgjpejhjaoaaGreat
