/-
  Parts of the proof (their names shortened by a program). No condition.
-/
import Derived.Test.YthakgjpejhjaoaaGreatMg01
import Derived.Test.YthakgjpejhjaoaaGreatMg17
import Derived.Test.YthakgjpejhjaoaaGreatMg19
import Derived.Test.YthakgjpejhjaoaaGreatMg20
import Derived.Test.YthakgjpejhjaoaaGreatMg16
import Derived.Maps.AppendAt
import Derived.OwnWalk
import Derived.ChangeSlices
import Derived.Test.YthakgjpejhjaoaaGreatMg03
import Derived.ChangeKeysEq
import Derived.Lib.SliceRun
import Derived.Test.YthakgjpejhjaoaaGreatMg06
import Derived.Test.YthakgjpejhjaoaaGreatMg08
namespace Go.Proofs.YthakgjpejhjaoaaGreat
open Go Go.RowKit
set_option linter.unusedVariables false
set_option linter.unusedSimpArgs false
set_option maxRecDepth 100000
set_option maxHeartbeats 16000000
theorem outs_yes (kb sb ub : Nat) (w : World) (hk : w.heap[kb]? = some (.cells #[.bool true] 4 (0, 0))) :
  CallsD Tryz.prog 30 #[.pointer (some ⟨kb, 0, none⟩), .pointer (some ⟨sb, 0, none⟩), .pointer (some ⟨ub, 0, none⟩)] .returning w fun e u' w' => e = .returned (.tuple #[]) ∧ u' = .returning ∧ w = w' := by
 refine callsD_of_wpS Tryz.func30 rfl fun c₀ cs hu => ?_
 simp only [Tryz.ntmps30, List.size_toArray, List.length_cons, List.length_nil, Nat.reduceAdd, Nat.reduceSub, Array.replicate_succ, Array.replicate_zero, List.push_toArray, List.append_toArray, List.nil_append, List.cons_append]
 refine wpS_of_wp ?_
 have ck := Ya hk
 have HU := Yh_ hu
 clear hu hk
 go_wp2_with fail
 refine ⟨rfl, .returning, ?_, _, results_none rfl _ _ _, rfl, rfl, rfl⟩
 rw [← HU.out]
theorem outs_no (kb sb ub : Nat) (s : St) (c : Array Value) (w : World) (hk : w.heap[kb]? = some (.cells #[.bool false] 4 (0, 0))) (hs : w.heap[sb]? = some (.cells s.cells 28 (0, 0))) (hb : w.heap[ub]? = some (.cells c 28 (0, 0))) (hc : c.size = 17) :
  CallsD Tryz.prog 30 #[.pointer (some ⟨kb, 0, none⟩), .pointer (some ⟨sb, 0, none⟩), .pointer (some ⟨ub, 0, none⟩)] .returning w fun e u' w' => e = .returned (.tuple #[]) ∧ u' = .returning ∧ w' = w.setCells ub 0 s.cells.toList := by
 refine callsD_of_wpS Tryz.func30 rfl fun c₀ cs hu => ?_
 simp only [Tryz.ntmps30, List.size_toArray, List.length_cons, List.length_nil, Nat.reduceAdd, Nat.reduceSub, Array.replicate_succ, Array.replicate_zero, List.push_toArray, List.append_toArray, List.nil_append, List.cons_append]
 refine wpS_of_wp ?_
 have ck := Ya hk
 have HU := Yh_ (And.intro hu (And.intro hs hb))
 clear hu hk hs hb
 have tokL : True := trivial
 have tokS : True := trivial
 go_wp2_with (first | (have _t := tokL; clear _t tokL; refine Yar 28 rfl ?_; refine Yae s sb rfl _ rfl rfl HU.out.2.1 ?_) | (have _t := tokS; clear _t tokS; refine Ye 28 rfl ?_; refine Yc5 s ub rfl _ _ rfl rfl rfl HU.out.2.2 hc ?_))
 refine ⟨rfl, .returning, ?_, _, results_none rfl _ _ _, rfl, rfl, rfl⟩
 rw [← HU.out.1]
theorem Yld (a : Nat) (s : St) (i : Ins) (w : World) : (Instr.build 86 #[(0, .pointer (some ⟨a, 0, none⟩)), (1, .agg s.cells), (2, .agg i.cells)]).run Tryz.prog w = .ok (.agg (Ybu a s i)) w := by
 unfold St.cells Ins.cells Ybu
 kernel_rfl
theorem Yf4 {ops : Array Oper} {rest : List Oper} {o : Oper} {a : Act} {w : World} {Q : Exit → Act → World → Prop} (hgd : o.guard = none) (p : Nat) (s : St) (i : Ins) (x y z : Operand) (ho : o.op = .build 86 #[(0, x), (1, y), (2, z)]) (hx : a.eval x = .pointer (some ⟨p, 0, none⟩)) (hy : a.eval y = .agg s.cells) (hz : a.eval z = .agg i.cells)
  (h : wpList Tryz.prog ops Q rest (a.put o.dst (.agg (Ybu p s i))) w) : wpList Tryz.prog ops Q (o :: rest) a w := by
 refine wpList_plain hgd fun _ hK => ?_
 unfold Oper.wp execOp
 simp only [ho, List.map_toArray, List.map_cons, List.map_nil, hx, hy, hz, Sem.run_bind, Yld, Result.andThen_ok, Sem.run_pure]
 exact hK _ _ h
def St.goOn (s : St) (n : Int) : St := { s with pc := (s.pc + n) % 4294967296 }
theorem St.goOn_ok {s : St} (h : s.Ok) (n : Int) : (s.goOn n).Ok := ⟨h.R, by simp only [St.goOn]; omega, h.f⟩
def Ylf (pc : Int) (fb kb sb ub : Nat) : List Deferred :=
 [{ target := .fn (.func 31) #[], args := #[.int .u32 pc, .pointer (some ⟨fb, 0, none⟩), .pointer (some ⟨kb, 0, none⟩)] },
  { target := .fn (.func 30) #[.pointer (some ⟨kb, 0, none⟩), .pointer (some ⟨sb, 0, none⟩), .pointer (some ⟨ub, 0, none⟩)], args := #[] }]
theorem Yoo {fn : Func} {tmps : Array Value} {R : Ending → World → Prop} {w1 : World} {pc : Int} {fb kb sb ub : Nat} (V : Value) (hk : w1.heap[kb]? = some (.cells #[.bool true] 4 (0, 0))) (hres : (results fn tmps).run Tryz.prog w1 = .ok V w1) (hR : R (.returned V) w1) :
  Leaves Tryz.prog fn tmps R (Ylf pc fb kb sb ub) .returning w1 := by
 refine leaves_cons (f := 31) (args := #[.int .u32 pc, .pointer (some ⟨fb, 0, none⟩), .pointer (some ⟨kb, 0, none⟩)]) (by simp) (by simp [go_sem]) ?_
 refine (Yhk _ _ _ w1).mono ?_
 rintro e u' w2 ⟨rfl, rfl, rfl⟩
 simp only [settle]
 refine leaves_cons (f := 30) (args := #[.pointer (some ⟨kb, 0, none⟩), .pointer (some ⟨sb, 0, none⟩), .pointer (some ⟨ub, 0, none⟩)]) (by simp) (by simp [go_sem]) ?_
 refine (outs_yes kb sb ub _ hk).mono ?_
 rintro e u' w2 ⟨rfl, rfl, rfl⟩
 simp only [settle]
 exact ⟨_, hres, hR⟩
theorem Yk8 {fn : Func} {tmps : Array Value} {R : Ending → World → Prop} {w1 : World} {pc : Int} {fb kb sb ub : Nat} {y0 y1 y2 y3 k0 : Value} {s : St} {c : Array Value} (F : Flt) (V : Value)
  (hf : w1.heap[fb]? = some (.cells #[y0, y1, y2, y3] 35 (0, 0))) (hk : w1.heap[kb]? = some (.cells #[k0] 4 (0, 0))) (hs : w1.heap[sb]? = some (.cells s.cells 28 (0, 0))) (hu : w1.heap[ub]? = some (.cells c 28 (0, 0))) (hc : c.size = 17)
  (hne : fb ≠ kb ∧ fb ≠ sb ∧ fb ≠ ub ∧ kb ≠ sb ∧ kb ≠ ub ∧ sb ≠ ub)
  (hres : ∀ w2, w2.heap[fb]? = some (.cells #[.int .i64 F.k, .int .u32 pc, .int .u32 F.a, .int .i64 F.wt] 35 (0, 0)) → w2.heap[kb]? = some (.cells #[.bool false] 4 (0, 0)) → w2.heap[ub]? = some (.cells s.cells 28 (0, 0)) → (results fn tmps).run Tryz.prog w2 = .ok V w2)
  (hR : ∀ w2, Upd [fb, kb, ub] w1 w2 → R (.returned V) w2) :
  Leaves Tryz.prog fn tmps R (Ylf pc fb kb sb ub) (.panicking [{ v := .iface 35 F.val, recovered := false }]) w1 := by
 refine leaves_cons (f := 31) (args := #[.int .u32 pc, .pointer (some ⟨fb, 0, none⟩), .pointer (some ⟨kb, 0, none⟩)]) (by simp) (by simp [go_sem]) ?_
 refine (Yfe pc fb kb _ _ _ _ _ _ _ _ _ [] w1 hf hk hne.1).mono ?_
 rintro e u' w2 ⟨rfl, rfl, hf2, hk2, hU⟩
 simp only [settle, List.dropWhile_nil]
 have hs2 := hU.get hs (by simp; omega)
 have hu2 := hU.get hu (by simp; omega)
 refine leaves_cons (f := 30) (args := #[.pointer (some ⟨kb, 0, none⟩), .pointer (some ⟨sb, 0, none⟩), .pointer (some ⟨ub, 0, none⟩)]) (by simp) (by simp [go_sem]) ?_
 refine (outs_no kb sb ub s c _ hk2 hs2 hu2 hc).mono ?_
 rintro e u' w3 ⟨rfl, rfl, rfl⟩
 simp only [settle]
 have u3 : Upd [ub] w2 (w2.setCells ub 0 s.cells.toList) := (Upd.refl [ub] w2).setCells (.inl (by simp)) _ _
 exact ⟨_, hres _ (u3.get hf2 (by simp; omega)) (u3.get hk2 (by simp; omega)) (Ybk s hu2 hc), hR _ ((hU.mono (by simp)).trans u3 (fun _ h => h) (fun x hx => .inl (by simp at hx; simp [hx])))⟩
structure DoS (w : World) (s : St) (i : Ins) (w1 : World) : Prop where
 zs : w1.heap[w.heap.size]? = some (.cells s.cells 28 (0, 0))
 zi : w1.heap[w.heap.size + 1]? = some (.cells i.cells 41 (0, 0))
 zo : w1.heap[w.heap.size + 1 + 1]? = some (.cells St.zero.cells 28 (0, 0))
 zf : w1.heap[w.heap.size + 1 + 1 + 1]? = some (.cells #[.int .i64 0, .int .u32 0, .int .u32 0, .int .i64 0] 35 (0, 0))
 zk : w1.heap[w.heap.size + 1 + 1 + 1 + 1]? = some (.cells #[.bool false] 4 (0, 0))
theorem DoS.keep {w w1 w2 : World} {s : St} {i : Ins} {S : List Nat} (h : DoS w s i w1) (u : Upd S w1 w2) (hS : ∀ x, x ∈ S → x < w.heap.size ∨ w.heap.size + 4 < x) : DoS w s i w2 := by
 have n : ∀ k, k ≤ 4 → w.heap.size + k ∉ S := fun k hk hh => by have := hS _ hh; omega
 exact ⟨u.get h.zs (n 0 (by decide)), u.get h.zi (n 1 (by decide)), u.get h.zo (n 2 (by decide)), u.get h.zf (n 3 (by decide)), u.get h.zk (n 4 (by decide))⟩
def doW (w : World) (s : St) (i : Ins) : World := ((((w.alloc (.cells s.cells 28)).alloc (.cells i.cells 41)).alloc (.cells St.zero.cells 28)).alloc (.cells #[.int .i64 0, .int .u32 0, .int .u32 0, .int .i64 0] 35)).alloc (.cells #[.bool false] 4)
theorem doW_up (w : World) (s : St) (i : Ins) : Upd [] w (doW w s i) := (((((Upd.refl [] w).alloc _).alloc _).alloc _).alloc _).alloc _
theorem DoS.start (w : World) (s : St) (i : Ins) : DoS w s i (doW w s i) := by
 have h2 := heap_alloc_new ((w.alloc (.cells s.cells 28)).alloc (.cells i.cells 41)) (.cells St.zero.cells 28)
 have h3 := heap_alloc_new (((w.alloc (.cells s.cells 28)).alloc (.cells i.cells 41)).alloc (.cells St.zero.cells 28)) (.cells #[.int .i64 0, .int .u32 0, .int .u32 0, .int .i64 0] 35)
 have h4 := heap_alloc_new ((((w.alloc (.cells s.cells 28)).alloc (.cells i.cells 41)).alloc (.cells St.zero.cells 28)).alloc (.cells #[.int .i64 0, .int .u32 0, .int .u32 0, .int .i64 0] 35)) (.cells #[.bool false] 4)
 rw [show ((w.alloc (.cells s.cells 28)).alloc (.cells i.cells 41)).heap.size = w.heap.size + 1 + 1 from by simp] at h2
 rw [show (((w.alloc (.cells s.cells 28)).alloc (.cells i.cells 41)).alloc (.cells St.zero.cells 28)).heap.size = w.heap.size + 1 + 1 + 1 from by simp] at h3
 rw [show ((((w.alloc (.cells s.cells 28)).alloc (.cells i.cells 41)).alloc (.cells St.zero.cells 28)).alloc (.cells #[.int .i64 0, .int .u32 0, .int .u32 0, .int .i64 0] 35)).heap.size = w.heap.size + 1 + 1 + 1 + 1 from by simp] at h4
 exact ⟨Ym _ (Ym _ (Ym _ (heap_alloc2_old _ _ _))), Ym _ (Ym _ (Ym _ (heap_alloc2_new _ _ _))), Ym _ (Ym _ h2), Ym _ h3, h4⟩
theorem Yf5 {tmps : Array Value} {w : World} (a : Tmp) (b : Nat) (s : St) (ha : tmps.getD a undef = .pointer (some ⟨b, 0, none⟩)) (hb : w.heap[b]? = some (.cells s.cells 28 (0, 0))) :
  (Ybt tmps (.cell a 28)).run Tryz.prog w = .ok (.agg s.cells) w :=
 Ybe a 28 b _ _ ha hb Tryz.underlying28 rfl Ya8
theorem Yk3 {w : World} {a pb : Nat} {s : St} {i : Ins} {M : Mem} (hM : Yk w a pb M) (hs : s.Ok) (hi : i.Ok) : Yq ((doW w s i).alloc (.cells (Ybu a s i) 86)).drew (w.heap.size + 1 + 1 + 1 + 1 + 1) a pb s i M ∧ DoS w s i ((doW w s i).alloc (.cells (Ybu a s i) 86)).drew ∧ Upd [pb] w ((doW w s i).alloc (.cells (Ybu a s i) 86)).drew := by
 have u1 := ((Upd.refl [] (doW w s i)).alloc (.cells (Ybu a s i) 86)).drew
 have u := (doW_up w s i).also u1 (by simp)
 have ha : a < w.heap.size := by obtain ⟨C, _, hc⟩ := hM.hd; exact Yj hc
 have hp : pb < w.heap.size := by obtain ⟨C, _, hc⟩ := hM.pg; exact Yj hc
 have hn := heap_alloc_new (doW w s i) (.cells (Ybu a s i) 86)
 rw [show (doW w s i).heap.size = (w.heap.size + 1 + 1 + 1 + 1 + 1) from by simp [doW]] at hn
 exact ⟨⟨((Upd.refl [] _).drew).get hn (by simp), hM.keep u (by simp) (by simp), hs, hi, by omega, by omega⟩, (DoS.start w s i).keep u1 (by simp), u.mono (by simp)⟩
theorem Do_ok (a pb : Nat) (s s2 : St) (i : Ins) (M M2 : Mem) (w : World) (hM : Yk w a pb M) (hs : s.Ok) (hi : i.Ok)
  (hd : ∀ d w1, w.heap.size ≤ d → Yq w1 d a pb (s.goOn i.len) i M → Calls Tryz.prog 32 #[.pointer (some ⟨d, 0, none⟩)] w1 fun e w' => e = .returned (.tuple #[]) ∧ Yq w' d a pb s2 i M2 ∧ Upd [d, pb] w1 w') :
  Calls Tryz.prog 15 #[.pointer (some ⟨a, 0, none⟩), .agg s.cells, .agg i.cells] w fun e w' => e = .returned (.tuple #[.agg s2.cells, Flt.zero.val, .bool true]) ∧ Yk w' a pb M2 ∧ Upd [pb] w w' := by
 have HM := Yh_ (And.intro hM (And.intro hs hi))
 have HD := Yh_ hd
 have hpc : s.cells[8]? = some (.int .u32 s.pc) := rfl
 have HS := Yh_ (DoS.start w s i)
 have HB0 := Yh_ (Yk3 hM hs hi)
 have HP := Yh_ (show pb < w.heap.size by obtain ⟨C, _, hc⟩ := hM.pg; exact Yj hc)
 clear hM hs hi hd
 have tokL : True := trivial
 have tokI : True := trivial
 go_enter_defers Tryz.func15, Tryz.ntmps15
 go_wp2_with (first | (have _t := tokL; clear _t tokL; refine Yar 28 rfl ?_; refine Yae s w.heap.size rfl _ rfl rfl HS.out.zs ?_) | (have _t := tokI; clear _t tokI; refine Yar 41 rfl ?_; refine Yaw i (w.heap.size + 1) rfl _ rfl rfl HS.out.zi ?_) | (refine Yf4 rfl a s i _ _ _ rfl rfl rfl rfl ?_))
 refine Yan 12 (fun w1 => Yq w1 (w.heap.size + 1 + 1 + 1 + 1 + 1) a pb s i M ∧ DoS w s i w1 ∧ Upd [pb] w w1) (fun _ _ => False) (by kernel_rfl) (by decide +kernel) HB0.out (fun _ _ _ h => h.elim) ?_
 simp only [List.take_succ_cons, List.take_zero, List.drop_succ_cons, List.drop_zero]
 iterate 12
  apply Yu rfl rfl
  ·intro K hK w5 hB1
   have c9 : w5.cell? ⟨(w.heap.size + 1 + 1 + 1 + 1 + 1), 9, none⟩ = some (.int .u32 s.pc) := hB1.1.cell 9
   have c15 : w5.cell? ⟨w.heap.size + 1, 15, none⟩ = some (.int .i64 i.len) := Ya hB1.2.1.zi 15
   have HB := Yh_ hB1
   clear hB1
   go_wp2_with fail
   first
   |exact hK _ HB.out
   |exact HB.out
  ·exact ⟨_, rfl⟩
 refine Yaf (fun _ w5 hB1 => ?_)
 have c5 : w5.cell? ⟨(w.heap.size + 1 + 1 + 1 + 1 + 1), 9, none⟩ = some (.int .u32 s.pc) := hB1.1.cell 9
 have f5 := hB1.1.free
 have H5 := Yh_ (And.intro hB1.1 (And.intro hB1.2.1 (And.intro HP.out hB1.2.2)))
 clear hB1
 have tok6 : True := trivial
 have tok7 : True := trivial
 go_wp2_with (first | (have _t := H5; clear _t; go_at_call 32; refine (HD.out (w.heap.size + 1 + 1 + 1 + 1 + 1) _ (by simp [Nat.add_assoc]) (H5.out.1.set (s' := s.goOn i.len) (o := 9) rfl (St.goOn_ok HM.out.2.1 i.len))).mono ?_; rintro e w6 ⟨rfl, hd6, hu6⟩; have hpb := H5.out.2.2.1; have u6 := ((Upd.refl [(w.heap.size + 1 + 1 + 1 + 1 + 1), pb] w5).setCell (p := ⟨(w.heap.size + 1 + 1 + 1 + 1 + 1), 9, none⟩) (.inl (by simp)) (.int .u32 ((s.pc + i.len) % 4294967296))).also hu6 (fun x hx => .inl hx); have H6 := Yh_ (And.intro hd6 (And.intro (H5.out.2.1.keep u6 (by simp only [List.mem_cons, List.not_mem_nil, or_false]; intro x hx; omega)) (H5.out.2.2.2.also (S' := [(w.heap.size + 1 + 1 + 1 + 1 + 1), pb]) u6 (by simp only [List.mem_cons, List.not_mem_nil, or_false]; intro x hx; omega)))); clear hd6 hu6 u6 hpb H5 c5 f5) | (have _t := H6; have _t2 := tok6; clear _t _t2 tok6; refine Yar 28 rfl ?_; refine wpList_load_mid rfl 28 _ rfl (w.heap.size + 1 + 1 + 1 + 1 + 1) 1 rfl s2.cells.toList _ H6.out.1.rs Tryz.underlying28 rfl (by rw [Array.length_toList, St.size]; exact Ya8) ?_; rw [Array.toArray_toList]) | (have _t := H6; clear _t; refine Ye 28 rfl ?_; refine Ya5 s2 (w.heap.size + 1 + 1) rfl _ _ rfl rfl rfl H6.out.2.1.zo rfl ?_; intro w7 hw; have u7 : Upd [w.heap.size + 1 + 1] w6 w7 := hw ▸ (Upd.refl [w.heap.size + 1 + 1] w6).setCells (.inl (by simp)) _ _; have ho : w7.heap[w.heap.size + 1 + 1]? = some (.cells s2.cells 28 (0, 0)) := hw ▸ Ybk s2 H6.out.2.1.zo rfl; have hf7 := u7.get H6.out.2.1.zf (by simp); have hk7 := u7.get H6.out.2.1.zk (by simp <;> omega); have cf := Ya hf7; have ff := Yn hf7; have ck := Ya hk7; have fk := Yn hk7; have H7 := Yh_ (And.intro ho (And.intro hf7 (And.intro hk7 (And.intro (H6.out.1.m.keep u7 (by have := H6.out.1.na; obtain ⟨C, _, hc⟩ := HM.out.1.hd; have := Yj hc; simp; omega) (by have := HP.out; simp; omega)) (H6.out.2.2.also u7 (by simp <;> omega)))))); clear hw u7 ho hf7 hk7 H6))
 have u4 := Ya0 (S := [w.heap.size + 1 + 1 + 1]) (b := w.heap.size + 1 + 1 + 1) (Upd.refl _ w7) (.inl (by simp)) (.int .i64 0) (.int .u32 0) (.int .u32 0) (.int .i64 0)
 have hF := Yg (a := ⟨w.heap.size + 1 + 1 + 1 + 1, 0, none⟩) (.bool true) (by simp) (Ycu H7.out.2.1 (.int .i64 0) (.int .u32 0) (.int .u32 0) (.int .i64 0))
 have hK := Yh (u4.get H7.out.2.2.1 (by simp)) 0 (.bool true)
 have u5 := (Ya0 (S := [w.heap.size + 1 + 1 + 1, w.heap.size + 1 + 1 + 1 + 1]) (b := w.heap.size + 1 + 1 + 1) (Upd.refl _ w7) (.inl (by simp)) (.int .i64 0) (.int .u32 0) (.int .u32 0) (.int .i64 0)).setCell (p := ⟨w.heap.size + 1 + 1 + 1 + 1, 0, none⟩) (.inl (by simp)) (.bool true)
 have ha : a < w.heap.size := by obtain ⟨C, _, hc⟩ := HM.out.1.hd; exact Yj hc
 have hp := HP.out
 refine Yoo (.tuple #[.agg s2.cells, Flt.zero.val, .bool true]) hK ?_ ⟨rfl, H7.out.2.2.2.1.keep u5 (by simp <;> omega) (by simp <;> omega), H7.out.2.2.2.2.also u5 (by simp <;> omega)⟩
 exact Yao rfl (Yf5 6 (w.heap.size + 1 + 1) s2 rfl (u5.get H7.out.1 (by simp <;> omega))) (Ydf 7 (w.heap.size + 1 + 1 + 1) Flt.zero rfl hF) (Yeq 8 (w.heap.size + 1 + 1 + 1 + 1) true rfl hK)
theorem Do_bad (a pb : Nat) (s : St) (i : Ins) (M M2 : Mem) (F : Flt) (w : World) (hM : Yk w a pb M) (hs : s.Ok) (hi : i.Ok)
  (hd : ∀ d w1, w.heap.size ≤ d → Yq w1 d a pb (s.goOn i.len) i M → Calls Tryz.prog 32 #[.pointer (some ⟨d, 0, none⟩)] w1 fun e w' => e = .panicked [{ v := .iface 35 F.val, recovered := false }] ∧ Yk w' a pb M2 ∧ Upd [d, pb] w1 w') :
  Calls Tryz.prog 15 #[.pointer (some ⟨a, 0, none⟩), .agg s.cells, .agg i.cells] w fun e w' => e = .returned (.tuple #[.agg s.cells, ({ F with pc := s.pc } : Flt).val, .bool false]) ∧ Yk w' a pb M2 ∧ Upd [pb] w w' := by
 have HM := Yh_ (And.intro hM (And.intro hs hi))
 have HD := Yh_ hd
 have hpc : s.cells[8]? = some (.int .u32 s.pc) := rfl
 have HS := Yh_ (DoS.start w s i)
 have HB0 := Yh_ (Yk3 hM hs hi)
 have HP := Yh_ (show pb < w.heap.size by obtain ⟨C, _, hc⟩ := hM.pg; exact Yj hc)
 clear hM hs hi hd
 have tokL : True := trivial
 have tokI : True := trivial
 go_enter_defers Tryz.func15, Tryz.ntmps15
 go_wp2_with (first | (have _t := tokL; clear _t tokL; refine Yar 28 rfl ?_; refine Yae s w.heap.size rfl _ rfl rfl HS.out.zs ?_) | (have _t := tokI; clear _t tokI; refine Yar 41 rfl ?_; refine Yaw i (w.heap.size + 1) rfl _ rfl rfl HS.out.zi ?_) | (refine Yf4 rfl a s i _ _ _ rfl rfl rfl rfl ?_))
 refine Yan 12 (fun w1 => Yq w1 (w.heap.size + 1 + 1 + 1 + 1 + 1) a pb s i M ∧ DoS w s i w1 ∧ Upd [pb] w w1) (fun _ _ => False) (by kernel_rfl) (by decide +kernel) HB0.out (fun _ _ _ h => h.elim) ?_
 simp only [List.take_succ_cons, List.take_zero, List.drop_succ_cons, List.drop_zero]
 iterate 12
  apply Yu rfl rfl
  ·intro K hK w5 hB1
   have c9 : w5.cell? ⟨(w.heap.size + 1 + 1 + 1 + 1 + 1), 9, none⟩ = some (.int .u32 s.pc) := hB1.1.cell 9
   have c15 : w5.cell? ⟨w.heap.size + 1, 15, none⟩ = some (.int .i64 i.len) := Ya hB1.2.1.zi 15
   have HB := Yh_ hB1
   clear hB1
   go_wp2_with fail
   first
   |exact hK _ HB.out
   |exact HB.out
  ·exact ⟨_, rfl⟩
 refine Yaf (fun _ w5 hB1 => ?_)
 have c5 : w5.cell? ⟨(w.heap.size + 1 + 1 + 1 + 1 + 1), 9, none⟩ = some (.int .u32 s.pc) := hB1.1.cell 9
 have f5 := hB1.1.free
 have H5 := Yh_ (And.intro hB1.1 (And.intro hB1.2.1 (And.intro HP.out hB1.2.2)))
 clear hB1
 have tok6 : True := trivial
 have tok7 : True := trivial
 go_wp2_with (first | (have _t := H5; clear _t; go_at_call 32; refine (HD.out (w.heap.size + 1 + 1 + 1 + 1 + 1) _ (by simp [Nat.add_assoc]) (H5.out.1.set (s' := s.goOn i.len) (o := 9) rfl (St.goOn_ok HM.out.2.1 i.len))).mono ?_; rintro e w6 ⟨rfl, hd6, hu6⟩; have hpb := H5.out.2.2.1; have u6 := ((Upd.refl [(w.heap.size + 1 + 1 + 1 + 1 + 1), pb] w5).setCell (p := ⟨(w.heap.size + 1 + 1 + 1 + 1 + 1), 9, none⟩) (.inl (by simp)) (.int .u32 ((s.pc + i.len) % 4294967296))).also hu6 (fun x hx => .inl hx); have H6 := Yh_ (And.intro hd6 (And.intro (H5.out.2.1.keep u6 (by simp only [List.mem_cons, List.not_mem_nil, or_false]; intro x hx; omega)) (H5.out.2.2.2.also (S' := [(w.heap.size + 1 + 1 + 1 + 1 + 1), pb]) u6 (by simp only [List.mem_cons, List.not_mem_nil, or_false]; intro x hx; omega)))); clear hd6 hu6 u6 hpb H5 c5 f5))
 have hp := HP.out
 have ha : a < w.heap.size := by obtain ⟨C, _, hc⟩ := HM.out.1.hd; exact Yj hc
 refine Yk8 F (.tuple #[.agg s.cells, ({ F with pc := s.pc } : Flt).val, .bool false]) H6.out.2.1.zf H6.out.2.1.zk H6.out.2.1.zs H6.out.2.1.zo rfl (by omega) (fun w2 hf hk hu => ?_) (fun w2 hU => ⟨rfl, H6.out.1.keep hU (by simp <;> omega) (by simp <;> omega), H6.out.2.2.also hU (by simp <;> omega)⟩)
 exact Yao rfl (Yf5 6 (w.heap.size + 1 + 1) s rfl hu) (Ydf 7 (w.heap.size + 1 + 1 + 1) { F with pc := s.pc } rfl hf) (Yeq 8 (w.heap.size + 1 + 1 + 1 + 1) false rfl hk)
section
structure DrC (w : World) (d a pb : Nat) (s : St) (i : Ins) (M : Mem) (dn : Nat → Bool) (r : Nat → Value) (w1 : World) : Prop where
 b : Yq w1 d a pb s i M
 u : Upd [] w w1
 x : dn 7 = true → ∃ g Z, r 7 = .pointer (some ⟨g, 0, none⟩) ∧ w.heap.size ≤ g ∧ w1.heap[g]? = some (.cells Z 41 (0, 0)) ∧ Z.size = 16 ∧ (dn 8 = true → Z = i.cells)
 xo : dn 8 = true → dn 7 = true
section
variable {w w1 w2 : World} {d a pb : Nat} {s : St} {i : Ins} {M : Mem} {dn : Nat → Bool} {r : Nat → Value}
theorem DrC.start (h : Yq w d a pb s i M) (r : Nat → Value) : DrC w d a pb s i M (fun _ => false) r w.drew :=
 ⟨h.keep (Upd.refl [] _).drew (by simp) (by simp) (by simp), (Upd.refl [] w).drew, fun h => (by cases h), fun h => (by cases h)⟩
theorem DrC.same (h : DrC w d a pb s i M dn r w1) (m : Nat) (h1 : 7 ≠ m) (h2 : 8 ≠ m) : DrC w d a pb s i M (Yah dn m) r w1 := by
 refine ⟨h.b, h.u, fun hx => ?_, fun hx => ?_⟩
 ·rw [Yp h1] at hx
  obtain ⟨g, Z, e1, e2, e3, e4, e5⟩ := h.x hx
  exact ⟨g, Z, e1, e2, e3, e4, fun hk => e5 (by rwa [Yp h2] at hk)⟩
 ·rw [Yp h2] at hx; rw [Yp h1]; exact h.xo hx
theorem DrC.lay (h : DrC w d a pb s i M dn r w1) (hd : dn 7 = false) : DrC w d a pb s i M (Yah dn 7) (Ycw r 7 (.pointer (some ⟨w1.heap.size, 0, none⟩))) (w1.alloc (.cells Ins.zero.cells 41)) := by
 have u := (Upd.refl [] w1).alloc (.cells Ins.zero.cells 41)
 refine ⟨h.b.keep u (by simp) (by simp) (by simp), h.u.also u (by simp), fun _ => ⟨_, _, Yf9, h.u.size, heap_alloc_new _ _, rfl, fun hk => ?_⟩, fun _ => Yc4⟩
 rw [Yp (by decide)] at hk
 rw [h.xo hk] at hd; cases hd
theorem DrC.put (h : DrC w d a pb s i M dn r w1) {g : Nat} {Z : Array Value} (hg : r 7 = .pointer (some ⟨g, 0, none⟩)) (hl : w.heap.size ≤ g) (hdl : d < w.heap.size ∧ a < w.heap.size ∧ pb < w.heap.size) (hb : w1.heap[g]? = some (.cells Z 41 (0, 0))) (hZ : Z.size = 16) (hd : dn 7 = true) : DrC w d a pb s i M (Yah dn 8) r (w1.setCells g 0 i.cells.toList) := by
 obtain ⟨z1, z2⟩ := Ya7 (S := [g]) (w0 := w1) (w' := w1.setCells g 0 i.cells.toList) rfl hb hZ (Upd.refl _ _) (.inl (by simp))
 exact ⟨h.b.keep z2 (by simp; omega) (by simp; omega) (by simp; omega), h.u.also z2 (by simp; omega), fun _ => ⟨g, i.cells, hg, hl, z1, rfl, fun _ => rfl⟩, fun _ => by rw [Yp (by decide)]; exact hd⟩
end
theorem moves_43 (d a pb : Nat) (s : St) (i : Ins) (M : Mem) (w : World) (h : Yq w d a pb s i M) (hop : i.op = 43) :
  Calls Tryz.prog 54 #[.pointer (some ⟨d, 0, none⟩)] w fun e w' => e = .returned (.tuple #[]) ∧ Yq w' d a pb s i M ∧ Upd [d, pb] w w' := by
 have hlt : d < w.heap.size ∧ a < w.heap.size ∧ pb < w.heap.size := ⟨h.lt, by obtain ⟨C, _, hc⟩ := h.m.hd; exact Yj hc, by obtain ⟨C, _, hc⟩ := h.m.pg; exact Yj hc⟩
 have HD := Yh_ (And.intro h hlt)
 clear h hlt
 go_enter Tryz.func54, Tryz.ntmps54
 go_wp2_with fail
 refine Yai 9 (DrC w d a pb s i M) (fun _ _ => False) (by kernel_rfl) (by decide +kernel) (fun r0 => DrC.start HD.out.1 r0) (fun _ _ _ h => h.elim) ?_
 simp only [List.take_succ_cons, List.take_zero, List.drop_succ_cons, List.drop_zero]
 iterate 3
  apply Yb rfl rfl
  ·intro dn r0 K hd hdep hK w5 hB1
   have HB := Yh_ hB1
   clear hB1 hdep
   go_wp2_with fail
   first
   |exact hK _ (HB.out.same _ (by decide) (by decide))
   |exact HB.out.same _ (by decide) (by decide)
  ·exact ⟨_, rfl⟩
 apply Yb rfl rfl
 ·intro dn r0 K hd hdep hK w5 hB1
  refine wp_load_mid 41 _ rfl d 18 rfl i.cells.toList _ hB1.b.ri Tryz.underlying41 rfl (by rw [Array.length_toList, Ins.size]; exact Ya1) ?_
  rw [Array.toArray_toList]
  exact hK _ (hB1.same _ (by decide) (by decide))
 ·exact ⟨_, rfl⟩
 iterate 3
  apply Yb rfl rfl
  ·intro dn r0 K hd hdep hK w5 hB1
   have HB := Yh_ hB1
   clear hB1 hdep
   go_wp2_with fail
   first
   |exact hK _ (HB.out.same _ (by decide) (by decide))
   |exact HB.out.same _ (by decide) (by decide)
  ·exact ⟨_, rfl⟩
 refine Yr rfl (fun _ => rfl) 2 rfl (by simp [Act.put]) ?_ ?_
 ·intro dn r0 K hd w5 hB1 hK
  have HB := Yh_ hB1
  clear hB1
  simp only [Yi]
  go_wp2_with fail
  first
  |exact hK (.pointer (some ⟨w5.heap.size, 0, none⟩)) _ (HB.out.lay hd)
  |exact HB.out.lay hd
 apply Yt rfl (fun _ => rfl)
 ·intro dn r0 K hd hdep hK w5 hB1
  have h8 : dn 7 = true := hdep ⟨7, .data⟩ (by simp) rfl
  obtain ⟨g, Z, e1, e2, e3, e4, _⟩ := hB1.x h8
  refine Ybp i g _ _ rfl (by show r0 7 = _; exact e1) rfl e3 e4 ?_
  intro w6 hw
  rw [← hw]
  exact hK _ (hB1.put e1 e2 HD.out.2 e3 e4 h8)
 ·exact ⟨_, fun _ => rfl, rfl⟩
 refine Yad (fun _ r0 w5 dn hall hB1 => ?_)
 obtain ⟨g, Z, e1, e2, e3, _, e5⟩ := hB1.x (hall 7 (by decide))
 rw [e5 (hall 8 (by decide))] at e3
 have ci := Ya e3
 unfold Ins.cells at ci
 have H3 := Yh_ (And.intro hB1.b (And.intro e3 (hB1.u.mono (T := [d, pb]) (by simp))))
 clear hB1 hall e2 e3 e5
 show wpList _ _ _ _ (Act.put (Yi _ _ [] _) (some 2) (r0 7)) _
 rw [e1]
 simp only [Yi]
 clear e1
 go_wp2_with fail
 go_end0
 exact ⟨rfl, H3.out.1, H3.out.2.2⟩
theorem does_43 (d a pb : Nat) (s : St) (i : Ins) (M : Mem) (w : World) (h : Yq w d a pb s i M) (hop : i.op = 43) :
  Calls Tryz.prog 32 #[.pointer (some ⟨d, 0, none⟩)] w fun e w' => e = .returned (.tuple #[]) ∧ Yq w' d a pb s i M ∧ Upd [d, pb] w w' := by
 have HD := Yh_ h
 have tokL : True := trivial
 have tokS : True := trivial
 have HO := Yh_ hop
 clear h
 go_enter Tryz.func32, Tryz.ntmps32
 go_wp2_with (first | (have _t := tokL; clear _t tokL; refine Yar 41 rfl ?_; refine wpList_load_mid rfl 41 _ rfl d 18 rfl i.cells.toList _ HD.out.ri Tryz.underlying41 rfl (by rw [Array.length_toList, Ins.size]; exact Ya1) ?_; rw [Array.toArray_toList]) | (have _t := tokS; clear _t tokS; refine Ye 41 rfl ?_; refine Yd i w.heap.size rfl _ _ rfl rfl rfl (heap_alloc_new w (.cells Ins.zero.cells 41)) rfl ?_; intro w3 hw; have h3 := Yev HD.out hw; have ci := Ya h3.2.1; unfold Ins.cells at ci; have H3 := Yh_ h3; clear hw h3) | (have _t := H3; clear _t; go_at_call 54; refine (moves_43 d a pb s i M _ H3.out.1 HO.out).mono ?_; rintro e w5 ⟨rfl, hd, hu⟩; have H5 := Yh_ (And.intro hd (H3.out.2.2.also hu (fun x hx => .inl hx))); clear hd hu H3 ci))
 go_end0
 exact ⟨rfl, H5.out.1, H5.out.2⟩
end
section
theorem lack3 {M : Mem} (hM : M.Ok) (y : Int) (h : M.lack y 3 = 0) : M.can y 1 = true ∧ M.can y 2 = true := by
 unfold Mem.lack Mem.rightAt at h
 unfold Mem.can
 by_cases hy : y < 16384
 ·rw [if_pos hy] at h
  rw [decide_eq_true hy, Bool.true_and, Bool.true_and]
  have hR := hM.R (y / 256).toNat
  generalize M.R (y / 256).toNat = q at *
  obtain ⟨q0, q7⟩ := hR
  have hq : q = 0 ∨ q = 1 ∨ q = 2 ∨ q = 3 ∨ q = 4 ∨ q = 5 ∨ q = 6 ∨ q = 7 := by omega
  revert h
  rcases hq with rfl | rfl | rfl | rfl | rfl | rfl | rfl | rfl <;> decide +kernel
 ·rw [if_neg hy] at h
  exact absurd h (by decide +kernel)
theorem can_both {M : Mem} (hM : M.Ok) (s : St) (o : Opd) (h : Ycm M s o 4 3 = true) : opK M s o 4 = true ∧ Ybg M s o 4 = true := by
 unfold Ycm at h
 unfold opK Ybg
 by_cases hk : o.k = 3
 ·rw [if_pos hk] at h ⊢
  rw [if_pos hk]
  have hc := (canK_iff _ _ _ _).1 h
  have e : (Yau (wd 4)).toNat = (wd 4).toNat := by decide
  constructor
  ·show (M.bad _ (Ybn 1) _).isNone = true
   rw [e, Option.isNone_iff_eq_none, Yiv]
   exact fun t ht => (lack3 hM _ (hc t ht)).1
  ·show (M.bad _ 2 _).isNone = true
   rw [e, Option.isNone_iff_eq_none, Yiv]
   exact fun t ht => (lack3 hM _ (hc t ht)).2
 ·rw [if_neg hk, if_neg hk]; exact ⟨rfl, rfl⟩
structure Out where
 k : Bool
 s : St
 M : Mem
 F : Flt
def okO (s : St) (M : Mem) : Out := ⟨true, s, M, Flt.zero⟩
def Yfq (F : Flt) (M : Mem) : Out := ⟨false, St.zero, M, F⟩
def Yb7 (d a pb : Nat) (i : Ins) (O : Out) (w : World) (e : Ending) (w' : World) : Prop :=
 (O.k = true → e = .returned (.tuple #[]) ∧ Yq w' d a pb O.s i O.M) ∧ (O.k = false → e = .panicked [{ v := .iface 35 O.F.val, recovered := false }] ∧ Yk w' a pb O.M) ∧ Upd [d, pb] w w'
section
variable {d a pb : Nat} {i : Ins} {w w' : World} {e : Ending} {s2 : St} {M2 : Mem} {F : Flt}
theorem Yb7.ok (h : e = .returned (.tuple #[]) ∧ Yq w' d a pb s2 i M2 ∧ Upd [d, pb] w w') : Yb7 d a pb i (okO s2 M2) w e w' := ⟨fun _ => ⟨h.1, h.2.1⟩, fun h => (by cases h), h.2.2⟩
theorem Yb7.bad (h : e = .panicked [{ v := .iface 35 F.val, recovered := false }] ∧ Yk w' a pb M2 ∧ Upd [d, pb] w w') : Yb7 d a pb i (Yfq F M2) w e w' := ⟨fun h => (by cases h), fun _ => ⟨h.1, h.2.1⟩, h.2.2⟩
end
def mov1O (M : Mem) (s : St) (i : Ins) : Out :=
 if opK M s i.b 4 = true then if Ybg M s i.a 4 = true then okO (opS s i.a 4 (opV M s i.b 4)) (opM M s i.a 4 (opV M s i.b 4)) else Yfq (Ycc M s i.a 4) (opM M s i.a 4 (opV M s i.b 4)) else Yfq (opF M s i.b 4) M
theorem Ylm (d a pb : Nat) (s : St) (i : Ins) (M : Mem) (w : World) (h : Yq w d a pb s i M) (hop : i.op = 1) : Calls Tryz.prog 32 #[.pointer (some ⟨d, 0, none⟩)] w (Yb7 d a pb i (mov1O M s i) w) := by
 unfold mov1O
 by_cases hb : opK M s i.b 4 = true
 ·rw [if_pos hb]
  by_cases hw : Ybg M s i.a 4 = true
  ·rw [if_pos hw]
   exact (Yn0 d a pb s i M w h (by omega) _ _ fun w1 h1 => Yon d a pb s i M w1 h1 hop hb hw).mono fun e w' hh => Yb7.ok hh
  ·rw [if_neg hw]; rw [Bool.not_eq_true] at hw
   exact (Yhe d a pb s i M w h (by omega) _ _ fun w1 h1 => Ynh d a pb s i M w1 h1 hop hb hw).mono fun e w' hh => Yb7.bad hh
 ·rw [if_neg hb]; rw [Bool.not_eq_true] at hb
  exact (Yhe d a pb s i M w h (by omega) _ _ fun w1 h1 => Yk0 d a pb s i M w1 h1 hop hb).mono fun e w' hh => Yb7.bad hh
def Ykj (M : Mem) (s : St) (i : Ins) : Out :=
 if opK M s i.b 1 = true then if Ybg M s i.a 4 = true then okO (opS s i.a 4 (Ybi 36 (opV M s i.b 1))) (opM M s i.a 4 (Ybi 36 (opV M s i.b 1))) else Yfq (Ycc M s i.a 4) (opM M s i.a 4 (Ybi 36 (opV M s i.b 1))) else Yfq (opF M s i.b 1) M
theorem Ypg (d a pb : Nat) (s : St) (i : Ins) (M : Mem) (w : World) (h : Yq w d a pb s i M) (hop : i.op = 36) : Calls Tryz.prog 32 #[.pointer (some ⟨d, 0, none⟩)] w (Yb7 d a pb i (Ykj M s i) w) := by
 unfold Ykj
 by_cases hb : opK M s i.b 1 = true
 ·rw [if_pos hb]
  by_cases hw : Ybg M s i.a 4 = true
  ·rw [if_pos hw]
   exact (Yhz d a pb s i M w h (by omega) _ _ fun w1 h1 => Ync d a pb s i M w1 h1 hop hb hw).mono fun e w' hh => Yb7.ok hh
  ·rw [if_neg hw]; rw [Bool.not_eq_true] at hw
   exact (Yej d a pb s i M w h (by omega) _ _ fun w1 h1 => Ykp d a pb s i M w1 h1 hop hb hw).mono fun e w' hh => Yb7.bad hh
 ·rw [if_neg hb]; rw [Bool.not_eq_true] at hb
  exact (Yej d a pb s i M w h (by omega) _ _ fun w1 h1 => Yg3.1 d a pb s i M w1 h1 hop hb).mono fun e w' hh => Yb7.bad hh
def Yks (M : Mem) (s : St) (i : Ins) : Out :=
 if opK M s i.b 1 = true then if Ybg M s i.a 4 = true then okO (opS s i.a 4 (Ybi 37 (opV M s i.b 1))) (opM M s i.a 4 (Ybi 37 (opV M s i.b 1))) else Yfq (Ycc M s i.a 4) (opM M s i.a 4 (Ybi 37 (opV M s i.b 1))) else Yfq (opF M s i.b 1) M
theorem Yo3 (d a pb : Nat) (s : St) (i : Ins) (M : Mem) (w : World) (h : Yq w d a pb s i M) (hop : i.op = 37) : Calls Tryz.prog 32 #[.pointer (some ⟨d, 0, none⟩)] w (Yb7 d a pb i (Yks M s i) w) := by
 unfold Yks
 by_cases hb : opK M s i.b 1 = true
 ·rw [if_pos hb]
  by_cases hw : Ybg M s i.a 4 = true
  ·rw [if_pos hw]
   exact (Yhz d a pb s i M w h (by omega) _ _ fun w1 h1 => Ymx d a pb s i M w1 h1 hop hb hw).mono fun e w' hh => Yb7.ok hh
  ·rw [if_neg hw]; rw [Bool.not_eq_true] at hw
   exact (Yej d a pb s i M w h (by omega) _ _ fun w1 h1 => Ykc d a pb s i M w1 h1 hop hb hw).mono fun e w' hh => Yb7.bad hh
 ·rw [if_neg hb]; rw [Bool.not_eq_true] at hb
  exact (Yej d a pb s i M w h (by omega) _ _ fun w1 h1 => Yg3.2 d a pb s i M w1 h1 hop hb).mono fun e w' hh => Yb7.bad hh
def leaO (M : Mem) (s : St) (i : Ins) : Out :=
 if Ybg M s i.a 4 = true then okO (opS s i.a 4 (s.place i.b)) (opM M s i.a 4 (s.place i.b)) else Yfq (Ycc M s i.a 4) (opM M s i.a 4 (s.place i.b))
theorem lea_all (d a pb : Nat) (s : St) (i : Ins) (M : Mem) (w : World) (h : Yq w d a pb s i M) (hop : i.op = 26) : Calls Tryz.prog 32 #[.pointer (some ⟨d, 0, none⟩)] w (Yb7 d a pb i (leaO M s i) w) := by
 unfold leaO
 by_cases hw : Ybg M s i.a 4 = true
 ·rw [if_pos hw]
  exact (Yh3 d a pb s i M w h (by omega) _ _ fun w1 h1 => Yl6 d a pb s i M w1 h1 hop  hw).mono fun e w' hh => Yb7.ok hh
 ·rw [if_neg hw]; rw [Bool.not_eq_true] at hw
  exact (Yei d a pb s i M w h (by omega) _ _ fun w1 h1 => Ylk d a pb s i M w1 h1 hop  hw).mono fun e w' hh => Yb7.bad hh
def xchgO (M : Mem) (s : St) (i : Ins) : Out :=
 if Ycm M s i.a 4 3 = true then if opK M s i.b 4 = true then if Ybg (opM M s i.a 4 (opV M s i.b 4)) (opS s i.a 4 (opV M s i.b 4)) i.b 4 = true then okO (opS (opS s i.a 4 (opV M s i.b 4)) i.b 4 (opV M s i.a 4)) (opM (opM M s i.a 4 (opV M s i.b 4)) (opS s i.a 4 (opV M s i.b 4)) i.b 4 (opV M s i.a 4)) else Yfq (Ycc (opM M s i.a 4 (opV M s i.b 4)) (opS s i.a 4 (opV M s i.b 4)) i.b 4) (opM (opM M s i.a 4 (opV M s i.b 4)) (opS s i.a 4 (opV M s i.b 4)) i.b 4 (opV M s i.a 4)) else Yfq (opF M s i.b 4) M else Yfq (Yd5 M s i.a 4 3) M
theorem xchg_all (d a pb : Nat) (s : St) (i : Ins) (M : Mem) (w : World) (h : Yq w d a pb s i M) (hop : i.op = 27) : Calls Tryz.prog 32 #[.pointer (some ⟨d, 0, none⟩)] w (Yb7 d a pb i (xchgO M s i) w) := by
 unfold xchgO
 have hcb := can_both h.m.ok s i.a
 by_cases hc : Ycm M s i.a 4 3 = true
 ·rw [if_pos hc]
  by_cases hb : opK M s i.b 4 = true
  ·rw [if_pos hb]
   by_cases hw : Ybg (opM M s i.a 4 (opV M s i.b 4)) (opS s i.a 4 (opV M s i.b 4)) i.b 4 = true
   ·rw [if_pos hw]
    exact (Yh3 d a pb s i M w h (by omega) _ _ fun w1 h1 => Yl9 d a pb s i M w1 h1 hop _ _ fun w2 h2 => exch_ok d a pb s i M w2 h2 hc (hcb hc).1 hb (hcb hc).2 hw).mono fun e w' hh => Yb7.ok hh
   ·rw [if_neg hw]; rw [Bool.not_eq_true] at hw
    exact (Yei d a pb s i M w h (by omega) _ _ fun w1 h1 => Yfo d a pb s i M w1 h1 hop _ _ fun w2 h2 => exch_bad d a pb s i M w2 h2 hc (hcb hc).1 hb (hcb hc).2 hw).mono fun e w' hh => Yb7.bad hh
  ·rw [if_neg hb]; rw [Bool.not_eq_true] at hb
   exact (Yei d a pb s i M w h (by omega) _ _ fun w1 h1 => Yfo d a pb s i M w1 h1 hop _ _ fun w2 h2 => Ypo d a pb s i M w2 h2 hc (hcb hc).1 hb).mono fun e w' hh => Yb7.bad hh
 ·rw [if_neg hc]; rw [Bool.not_eq_true] at hc
  exact (Yei d a pb s i M w h (by omega) _ _ fun w1 h1 => Yfo d a pb s i M w1 h1 hop _ _ fun w2 h2 => Ypi d a pb s i M w2 h2 hc).mono fun e w' hh => Yb7.bad hh
end
section
theorem Yhq (a pb : Nat) (s s2 : St) (i : Ins) (M M2 : Mem) (O : Out) (w : World) (hM : Yk w a pb M) (hs : s.Ok) (hi : i.Ok)
  (hd : ∀ d w1, Yq w1 d a pb (s.goOn i.len) i M → Calls Tryz.prog 32 #[.pointer (some ⟨d, 0, none⟩)] w1 (Yb7 d a pb i O w1)) (hO : O = okO s2 M2) :
  Calls Tryz.prog 15 #[.pointer (some ⟨a, 0, none⟩), .agg s.cells, .agg i.cells] w fun e w' => e = .returned (.tuple #[.agg s2.cells, Flt.zero.val, .bool true]) ∧ Yk w' a pb M2 ∧ Upd [pb] w w' := by
 subst hO
 exact Do_ok a pb s s2 i M M2 w hM hs hi fun d w1 _ h1 => (hd d w1 h1).mono fun e w' hh => ⟨(hh.1 rfl).1, (hh.1 rfl).2, hh.2.2⟩
section
variable {M : Mem} {s : St} {i : Ins}
end
end
section
open Go.WideShapes Go.ChangeShapes
theorem BOk.app {L M : List Int} (h : BOk L) (k : BOk M) : BOk (L ++ M) := by
 intro i
 rw [List.getD_eq_getElem?_getD]
 by_cases hi : i < L.length
 ·rw [List.getElem?_append_left hi, ← List.getD_eq_getElem?_getD]; exact h i
 ·rw [List.getElem?_append_right (by omega), ← List.getD_eq_getElem?_getD]; exact k _
theorem BOk.take {L : List Int} (h : BOk L) (n : Nat) : BOk (L.take n) := by
 intro i
 rw [List.getD_eq_getElem?_getD, List.getElem?_take]
 split
 ·rw [← List.getD_eq_getElem?_getD]; exact h i
 ·simp
theorem BArg.keep {w w' : World} {v : Value} {L : List Int} {g : Nat} (h : BArg w v L g) (u : Upd [] w w') : BArg w' v L g :=
 ⟨h.b.keep u (by simp), h.n, h.r, h.c, Nat.le_trans h.g u.size⟩
def Own (w : World) (base : Nat) (v : Value) (L : List Int) : Prop := w.ownsRow base 5 1 v L.length (L.map (Value.int .u8))
theorem own_nil (w : World) (base : Nat) : Own w base (.slice none 0 0) [] := ⟨rfl, .inl ⟨rfl, rfl⟩⟩
theorem own_lit (w : World) (base : Nat) (L : List Int) (C : Array Value) (hC : C.toList = L.map (.int .u8)) (hb : base ≤ w.heap.size) (hn : L.length ≤ maxLen) :
  Own (w.alloc (.cells C 5)) base (.slice (some ⟨w.heap.size, 0, none⟩) L.length L.length) L := by
 have hs : C.size = L.length := by rw [← Array.length_toList, hC, List.length_map]
 refine ⟨by simp, .inr ⟨w.heap.size, L.length, C, rfl, hb, heap_alloc_new w _, Nat.le_refl _, hn, by omega, ?_⟩⟩
 rw [hC, Nat.mul_one, List.take_of_length_le (by simp)]
theorem Own.barg {w : World} {base : Nat} {v : Value} {L : List Int} (h : Own w base v L) (hr : BOk L) (hn : L.length ≤ maxLen) : ∃ g, BArg w v L g ∧ (v.ownBlock = none ∨ (v.ownBlock = some g ∧ base ≤ g ∧ g < w.heap.size)) := by
 rcases h.2 with ⟨rfl, h0⟩ | ⟨g, cap, cur, rfl, hb, hg, hnc, hcm, hs, ht⟩
 ·have : L = [] := List.eq_nil_of_length_eq_zero h0
  subst this
  exact ⟨0, ⟨.inl ⟨rfl, rfl⟩, Nat.zero_le _, hr, fun b n c e => by injection e; omega, Nat.zero_le _⟩, .inl rfl⟩
 ·refine ⟨g, ⟨.inr ⟨0, cap, cur, _, _, rfl, hg, fun i hi => ?_⟩, hn, hr, fun b n c e => by injection e; omega, Nat.le_of_lt (Yj hg)⟩, .inr ⟨rfl, hb, Yj hg⟩⟩
  have e : (cur.toList.take (L.length * 1))[i]? = some (.int .u8 (L.getD i 0)) := by
   rw [ht, List.getElem?_map, List.getD_eq_getElem?_getD, List.getElem?_eq_getElem hi]; rfl
  rw [Nat.mul_one, List.getElem?_take, if_pos hi, Array.getElem?_toList] at e
  rw [Nat.zero_add]; exact e
theorem Own.keep {w w' : World} {base : Nat} {v : Value} {L : List Int} {S : List Nat} (h : Own w base v L) (u : Upd S w w') (hS : ∀ g, v.ownBlock = some g → g ∉ S) : Own w' base v L := by
 refine ⟨h.1, ?_⟩
 rcases h.2 with h0 | ⟨g, cap, cur, rfl, hb, hg, hr⟩
 ·exact .inl h0
 ·exact .inr ⟨g, cap, cur, rfl, hb, u.get hg (hS g rfl), hr⟩
theorem Own.block {w : World} {base : Nat} {v : Value} {L : List Int} (h : Own w base v L) : ∀ g, v.ownBlock = some g → base ≤ g ∧ g < w.heap.size := by
 intro g e
 rcases h.2 with ⟨rfl, _⟩ | ⟨g', cap, cur, rfl, hb, hg, hr⟩
 ·cases e
 ·simp only [Value.ownBlock, Option.some.injEq] at e
  subst e
  exact ⟨hb, Yj hg⟩
theorem Yjp {w : World} {base : Nat} {v : Value} {L : List Int} (h : Own w base v L) {b : Nat} {c : Array Value} {t : TypeId} {f : Nat × Nat} (hb : w.heap[b]? = some (.cells c t f)) (ht : t ≠ 5) : v.ownBlock ≠ some b := by
 intro e
 rcases h.2 with ⟨rfl, _⟩ | ⟨g', cap, cur, rfl, _, hg, hr⟩
 ·cases e
 ·simp only [Value.ownBlock, Option.some.injEq] at e
  subst e
  rw [hb] at hg
  injection hg with hg
  injection hg with _ h1
  exact ht h1
structure Grew (w : World) (base : Nat) (v : Value) (L : List Int) (v' : Value) (w' : World) : Prop where
 o : Own w' base v' L
 u : Upd v.ownBlock.toList w w'
 b : v'.ownBlock = v.ownBlock ∨ v'.ownBlock = some w.heap.size
theorem Yjv (w : World) (base : Nat) (ty : TypeId) (v : Value) (L : List Int) (hown : Own w base v L) (vb : Value) (M : List Int) (g : Nat) (hb : Yes w vb M g) (hn : L.length + M.length ≤ 10000) (hbase : base ≤ w.heap.size) :
  ∃ v' w', (Builtin.append_ #[57, 57] ty #[v, vb]).run Tryz.prog w = .ok v' w' ∧ Grew w base v (L ++ M) v' w' := by
 obtain ⟨i, hi, hz0, hz1, hz2⟩ := info_parts info_u8
 have key : ∀ (a : Addr) (m c : Nat), M.length = m → (∀ j u, (M.map (Value.int .u8))[j]? = some u → w.cell? (a.add j) = some u) → ∃ v' w', (Builtin.append_ #[57, 57] ty #[v, .slice (some a) m c]).run Tryz.prog w = .ok v' w' ∧ Grew w base v (L ++ M) v' w' := by
  intro a m c hm hc
  subst hm
  obtain ⟨v', w', h1, h2, h3, _, h5⟩ := run_append_own_at (P := Tryz.prog) w base 57 ty 5 i _ 1 1 Tryz.underlying57 hi hz0 hz1 hz2 rfl (by decide) v L.length _ hown a M.length c (M.map (Value.int .u8)) (by simp) hc
   (by intro u hu; simp only [List.mem_map] at hu; obtain ⟨z, _, rfl⟩ := hu; rfl) (by unfold maxLen; omega) (by omega) hbase
  refine ⟨v', w', h1, ?_, Upd.of_grown h3, h5⟩
  unfold Own
  rw [List.length_append, List.map_append]
  exact h2
 rcases hb with ⟨rfl, rfl⟩ | ⟨o, c, C, T, f, rfl, hg, hc⟩
 ·refine ⟨v, w, ?_, ?_, Upd.refl _ _, .inl rfl⟩
  ·rcases hown.2 with ⟨rfl, h0⟩ | ⟨g, cap, cur, rfl, _, _, hnc, _⟩
   ·simp [Builtin.append_, run_underlying Tryz.underlying57, sizeOf, typeInfo, hi, Builtin.lenOf, Builtin.firstCells]
   ·simp [Builtin.append_, run_underlying Tryz.underlying57, sizeOf, typeInfo, hi, Builtin.lenOf, Builtin.firstCells, hnc, storeCells]
  ·rw [List.append_nil]; exact hown
 ·refine key _ _ _ rfl fun j u hu => ?_
  have hj : j < M.length := by
   have := (List.getElem?_eq_some_iff.1 hu).1
   simpa using this
  rw [Addr.add_lit, Ya hg, hc j hj]
  rw [List.getElem?_map, List.getElem?_eq_getElem hj] at hu
  simp only [Option.map_some, Option.some.injEq] at hu
  rw [List.getD_eq_getElem?_getD, List.getElem?_eq_getElem hj, Option.getD_some, hu]
theorem Yif {ops : Array Oper} {rest : List Oper} {o : Oper} {a : Act} {w : World} {Q : Exit → Act → World → Prop} (hgd : o.guard = none) (s x : Operand)
  (ho : o.op = .call { callee := .builtin .append, args := #[s, x], argTypes := #[57, 57] })
  (base : Nat) (v : Value) (L : List Int) (hs : a.eval s = v) (hown : Own w base v L) (vb : Value) (M : List Int) (g : Nat) (hx : a.eval x = vb) (hb : Yes w vb M g) (hn : L.length + M.length ≤ 10000) (hbase : base ≤ w.heap.size)
  (h : ∀ v' w', Grew w base v (L ++ M) v' w' → wpList Tryz.prog ops Q rest (a.put o.dst v') w') : wpList Tryz.prog ops Q (o :: rest) a w := by
 refine wpList_plain hgd fun _ hK => ?_
 obtain ⟨v', w', hr, h2⟩ := Yjv w base o.type v L hown vb M g hb hn hbase
 unfold Oper.wp execOp
 simp only [ho, resolve, invoke, builtin, Sem.run_bind, Sem.run_pure, Result.andThen_ok, List.map_toArray, List.map_cons, List.map_nil, hs, hx, hr]
 exact hK _ _ (h v' w' h2)
end
theorem Ycz {P : Program} {w : World} {d : Nat} {xs ys : Array Value} {f : Field} {fs : List Field} {u v : Value} {b c : Bool} (hne : (f.name ≠ "_") = True)
  (hx : (part f.type xs f.offset).run P w = .ok u w) (hy : (part f.type ys f.offset).run P w = .ok v w) (he : (Op.equalIn d f.type u v).run P w = .ok b w) (hr : (Op.eqFields d xs ys fs).run P w = .ok c w) :
  (Op.eqFields d xs ys (f :: fs)).run P w = .ok (b && c) w := by
 simp only [Op.eqFields, hne, if_true]
 rw [Sem.run_bind, hx, Result.andThen_ok, Sem.run_bind, hy, Result.andThen_ok, Sem.run_bind, he, Result.andThen_ok]
 cases b
 ·rfl
 ·simp only [Bool.not_true, Bool.false_eq_true, if_false]
  rw [hr]; rfl
theorem Yj3 {P : Program} {w : World} {d : Nat} {xs ys : Array Value} : (Op.eqFields d xs ys []).run P w = .ok true w := rfl
def Opd.eqB (a b : Opd) : Bool := ((a.k == b.k) && ((a.r == b.r) && ((a.imm == b.imm) && ((a.b == b.b) && ((a.x == b.x) && ((a.sc == b.sc) && true))))))
def Ins.eqB (i j : Ins) : Bool := ((i.op == j.op) && ((i.cond == j.cond) && (i.a.eqB j.a && (i.b.eqB j.b && ((i.rep == j.rep) && ((i.len == j.len) && true))))))
theorem Opd.eqB_self (a : Opd) : a.eqB a = true := by simp [Opd.eqB]
theorem Ins.eqB_self (i : Ins) : i.eqB i = true := by simp [Ins.eqB, Opd.eqB_self]
theorem Opd.eqB_iff (a b : Opd) : a.eqB b = true ↔ a = b := by
 constructor
 ·intro h
  simp only [Opd.eqB, Bool.and_eq_true, beq_iff_eq, and_true] at h
  exact Opd.ext' h.1 h.2.1 h.2.2.1 h.2.2.2.1 h.2.2.2.2.1 h.2.2.2.2.2
 ·rintro rfl; exact a.eqB_self
theorem Ins.eqB_iff (i j : Ins) : i.eqB j = true ↔ i = j := by
 constructor
 ·intro h
  simp only [Ins.eqB, Bool.and_eq_true, beq_iff_eq, and_true, Opd.eqB_iff] at h
  obtain ⟨h1, h2, h3, h4, h5, h6⟩ := h
  cases i; cases j; simp_all
 ·rintro rfl; exact i.eqB_self
section
structure Gr (w : World) (bt : Nat) (o : Obj) (l : List (Nat × Ins)) (w1 : World) : Prop where
 t : w1.heap[bt]? = some o
 i : ∀ p, p ∈ l → w1.heap[p.1]? = some (.cells p.2.cells 41 (0, 0))
 u : Upd [] w w1
 n : w.heap.size ≤ bt
theorem Gr.step {w w1 w2 : World} {bt : Nat} {o : Obj} {l : List (Nat × Ins)} (h : Gr w bt o l w1) (u : Upd [] w1 w2) : Gr w bt o l w2 :=
 ⟨u.get h.t (by simp), fun p hp => u.get (h.i p hp) (by simp), h.u.also u (by simp), h.n⟩
theorem Gr.lay {w w1 w2 : World} {bt : Nat} {o : Obj} {l : List (Nat × Ins)} (h : Gr w bt o l w1) (j : Ins) (hw : (w1.alloc (.cells Ins.zero.cells 41)).setCells w1.heap.size 0 j.cells.toList = w2) : Gr w bt o ((w1.heap.size, j) :: l) w2 := by
 obtain ⟨z1, z2⟩ := Ya7 (S := []) (w0 := w1) hw (heap_alloc_new w1 (.cells Ins.zero.cells 41)) rfl ((Upd.refl [] w1).alloc _) (.inr (Nat.le_refl _))
 have h2 := h.step z2
 refine ⟨h2.t, fun p hp => ?_, h2.u, h.n⟩
 rcases List.mem_cons.1 hp with rfl | hp
 ·exact z1
 ·exact h2.i p hp
theorem Gr.lt {w w1 : World} {bt : Nat} {o : Obj} {l : List (Nat × Ins)} (h : Gr w bt o l w1) : bt < w1.heap.size := Yj h.t
structure GrD (w : World) (bt : Nat) (o : Obj) (l : List (Nat × Ins)) (I : Ins) (i k : Nat) (d : Nat → Bool) (r : Nat → Value) (w1 : World) : Prop where
 b : Gr w bt o l w1
 x : d i = true → ∃ g Z, r i = .pointer (some ⟨g, 0, none⟩) ∧ w1.heap[g]? = some (.cells Z 41 (0, 0)) ∧ Z.size = 16 ∧ (d k = true → Z = I.cells) ∧ g ≠ bt ∧ w.heap.size ≤ g ∧ ∀ p, p ∈ l → p.1 ≠ g
 o : d k = true → d i = true
 ne : i ≠ k
section
variable {w w1 w2 : World} {bt : Nat} {o : Obj} {l : List (Nat × Ins)} {I : Ins} {i k : Nat} {d : Nat → Bool} {r : Nat → Value}
theorem GrD.start (h : Gr w bt o l w1) (ne : i ≠ k) (r : Nat → Value) : GrD w bt o l I i k (fun _ => false) r w1 :=
 ⟨h, fun h => (by cases h), fun h => (by cases h), ne⟩
theorem GrD.quiet (h : GrD w bt o l I i k d r w1) (hu : Upd [] w1 w2) (m : Nat) (h1 : i ≠ m) (h2 : k ≠ m) : GrD w bt o l I i k (Yah d m) r w2 := by
 refine ⟨h.b.step hu, fun hx => ?_, fun ho => ?_, h.ne⟩
 ·rw [Yc3 h1] at hx
  obtain ⟨g, Z, e1, e2, e3, e4, e5⟩ := h.x hx
  exact ⟨g, Z, e1, hu.get e2 (by simp), e3, fun hk => e4 (by rwa [Yc3 h2] at hk), e5⟩
 ·rw [Yc3 h2] at ho; rw [Yc3 h1]; exact h.o ho
theorem GrD.same (h : GrD w bt o l I i k d r w1) (m : Nat) (h1 : i ≠ m) (h2 : k ≠ m) : GrD w bt o l I i k (Yah d m) r w1 := h.quiet (Upd.refl [] w1) m h1 h2
theorem GrD.lay (h : GrD w bt o l I i k d r w1) (hd : d i = false) : GrD w bt o l I i k (Yah d i) (Ycw r i (.pointer (some ⟨w1.heap.size, 0, none⟩))) (w1.alloc (.cells Ins.zero.cells 41)) := by
 refine ⟨h.b.step ((Upd.refl [] w1).alloc _), fun _ => ⟨_, _, bV_eq, heap_alloc_new _ _, rfl, fun hk => ?_, ?_, h.b.u.size, fun p hp e => ?_⟩, fun _ => bD_eq, h.ne⟩
 ·rw [Yc3 h.ne.symm] at hk
  rw [h.o hk] at hd; cases hd
 ·have := h.b.lt; omega
 ·have := Yj (h.b.i p hp); omega
theorem GrD.store (h : GrD w bt o l I i k d r w1) (hd : d i = true) {g : Nat} {Z : Array Value} (hg : r i = .pointer (some ⟨g, 0, none⟩)) (hb : w1.heap[g]? = some (.cells Z 41 (0, 0))) (hZ : Z.size = 16) (hn : g ≠ bt ∧ w.heap.size ≤ g ∧ ∀ p, p ∈ l → p.1 ≠ g) :
  GrD w bt o l I i k (Yah d k) r (w1.setCells g 0 I.cells.toList) := by
 have hu : Upd [g] w1 (w1.setCells g 0 I.cells.toList) := (Upd.refl [g] w1).setCells (.inl (by simp)) _ _
 refine ⟨⟨hu.get h.b.t (by simp; exact fun e => hn.1 e.symm), fun p hp => hu.get (h.b.i p hp) (by simp; exact hn.2.2 p hp), h.b.u.also hu (by simp; exact hn.2.1), h.b.n⟩, fun _ => ⟨g, I.cells, hg, ?_, I.size, fun _ => rfl, hn⟩, fun _ => by rw [Yc3 h.ne]; exact hd, h.ne⟩
 rw [Yag _ _ _ _ hb, Yc8 Z I hZ]
theorem GrD.fin (h : GrD w bt o l I i k d r w1) (hi : d i = true) (hk : d k = true) : ∃ g, r i = .pointer (some ⟨g, 0, none⟩) ∧ Gr w bt o ((g, I) :: l) w1 := by
 obtain ⟨g, Z, e1, e2, e3, e4, e5⟩ := h.x hi
 rw [e4 hk] at e2
 refine ⟨g, e1, h.b.t, fun p hp => ?_, h.b.u, h.b.n⟩
 rcases List.mem_cons.1 hp with rfl | hp
 ·exact e2
 ·exact h.b.i p hp
end
end
section
theorem BOk.cons {c : Int} {L : List Int} (hc : 0 ≤ c ∧ c ≤ 255) (h : BOk L) : BOk (c :: L) := by
 intro i
 cases i with
 |zero => simpa using hc
 |succ i => simpa using h i
theorem BOk.nil : BOk [] := fun i => by simp
structure Dn (w : World) (v : Value) (L : List Int) (w1 : World) : Prop where
 u : Upd [] w w1
 o : Own w1 w.heap.size v L
section
variable {w w1 w2 : World} {v v' : Value} {L N : List Int}
theorem Dn.start (h : Upd [] w w1) : Dn w (.slice none 0 0) [] w1 := ⟨h, own_nil _ _⟩
theorem Dn.step (h : Dn w v L w1) (u : Upd [] w1 w2) : Dn w v L w2 := ⟨h.u.also u (by simp), h.o.keep u (by simp)⟩
theorem Dn.ins (h : Dn w v L w1) {j : Ins} (hw : (w1.alloc (.cells Ins.zero.cells 41)).setCells w1.heap.size 0 j.cells.toList = w2) : Dn w v L w2 := by
 obtain ⟨_, z2⟩ := Ya7 (S := []) (w0 := w1) hw (heap_alloc_new w1 (.cells Ins.zero.cells 41)) rfl ((Upd.refl [] w1).alloc _) (.inr (Nat.le_refl _))
 exact h.step z2
theorem Dn.lit (h : Dn w v L w1) (C : Array Value) (N : List Int) (hC : C.toList = N.map (.int .u8)) (hn : N.length ≤ maxLen) :
  Own (w1.alloc (.cells C 5)) w.heap.size (.slice (some ⟨w1.heap.size, 0, none⟩) N.length N.length) N := own_lit w1 _ N C hC h.u.size hn
theorem Dn.app (h : Dn w v L w1) {C : Array Value} {n : Nat} (hg : Grew (w1.alloc (.cells C 5)) w.heap.size (.slice (some ⟨w1.heap.size, 0, none⟩) n n) N v' w2) : Dn w v L w2 := by
 have hu : Upd [] w w2 := (h.u.alloc _).also hg.u (by intro x hx; simp [Value.ownBlock] at hx; subst hx; exact .inr h.u.size)
 exact ⟨hu, (h.o.keep ((Upd.refl [] w1).alloc _) (by simp)).keep hg.u (by intro g e hx; simp [Value.ownBlock] at hx; have := (h.o.block g e).2; omega)⟩
theorem Dn.grow (h : Dn w v L w1) (hg : Grew w1 w.heap.size v N v' w2) : Dn w v' N w2 :=
 ⟨h.u.also hg.u (by intro x hx; cases hv : v.ownBlock with | none => rw [hv] at hx; simp at hx | some g => rw [hv] at hx; simp at hx; exact .inr (by have := (h.o.block g hv).1; omega)), hg.o⟩
theorem Dn.take (h : Dn w v L w1) {C : Array Value} {n : Nat} (hg : Grew (w1.alloc (.cells C 5)) w.heap.size (.slice (some ⟨w1.heap.size, 0, none⟩) n n) N v' w2) : Dn w v' N w2 := ⟨(h.app hg).u, hg.o⟩
end
end
section
structure Fm (w : World) (v : Value) (L : List Int) (ob : Nat) (o : Opd) (w1 : World) : Prop where
 d : Dn w v L w1
 o : w1.heap[ob]? = some (.cells o.cells 39 (0, 0))
 n : w.heap.size ≤ ob
section
variable {w w1 w2 : World} {v v' : Value} {L N : List Int} {ob : Nat} {o o' : Opd}
theorem Fm.step (h : Fm w v L ob o w1) (u : Upd [] w1 w2) : Fm w v L ob o w2 := ⟨h.d.step u, u.get h.o (by simp), h.n⟩
theorem Fm.grow (h : Fm w v L ob o w1) (hg : Grew w1 w.heap.size v N v' w2) : Fm w v' N ob o w2 := by
 refine ⟨h.d.grow hg, hg.u.get h.o ?_, h.n⟩
 intro hx
 have := Yjp h.d.o h.o (by decide)
 cases hv : v.ownBlock with
 |none => rw [hv] at hx; simp at hx
 |some g => rw [hv] at hx this; simp at hx; subst hx; exact this rfl
theorem Fm.touch (h : Fm w v L ob o w1) (u : Upd [ob] w1 w2) (ho : w2.heap[ob]? = some (.cells o'.cells 39 (0, 0))) : Fm w v L ob o' w2 := by
 refine ⟨⟨h.d.u.also u (by simp; exact h.n), h.d.o.keep u ?_⟩, ho, h.n⟩
 intro g hg hx
 simp at hx
 subst hx
 exact Yjp h.d.o h.o (by decide) hg
theorem Fm.set (h : Fm w v L ob o w1) (j : Nat) (x : Value) (ho : o.cells.setIfInBounds j x = o'.cells) : Fm w v L ob o' (w1.setCell ⟨ob, j, none⟩ x) := by
 have u : Upd [ob] w1 (w1.setCell ⟨ob, j, none⟩ x) := (Upd.refl _ w1).setCell (by simp) _
 have ho' := Yh h.o j x
 rw [ho] at ho'
 exact h.touch u ho'
theorem Fm.all (h : Fm w v L ob o w1) (hw : w1.setCells ob 0 o'.cells.toList = w2) : Fm w v L ob o' w2 := by
 obtain ⟨z1, z2⟩ := Yca hw h.o rfl
 exact h.touch z2 z1
theorem Fm.start {w0 : World} (h : Upd [] w w0) (C : Array Value) (N : List Int) (hC : C.toList = N.map (.int .u8)) (hn : N.length ≤ maxLen) :
  Fm w (.slice (some ⟨w0.heap.size, 0, none⟩) N.length N.length) N (w0.heap.size + 1) o ((w0.alloc (.cells C 5)).alloc (.cells o.cells 39)) := by
 have h1 := heap_alloc_new (w0.alloc (.cells C 5)) (.cells o.cells 39)
 rw [show (w0.alloc (.cells C 5)).heap.size = w0.heap.size + 1 by simp] at h1
 exact ⟨⟨(h.alloc _).alloc _, ((Dn.start h).lit C N hC hn).keep ((Upd.refl [] _).alloc _) (by simp)⟩, h1, by have := h.size; omega⟩
end
theorem Grew.form {w : World} {base : Nat} {v : Value} {L : List Int} {v' : Value} {w' : World} (h : Grew w base v L v' w') (n : Nat) (hn : L.length = n) : ∃ b c, v' = .slice b n c := by
 subst hn
 exact Yla h.o
theorem Yn9 (w : World) (M : List Int) (C : Array Value) (T : TypeId) (hC : C.toList = M.map (.int .u8)) : Yes (w.alloc (.cells C T)) (.slice (some ⟨w.heap.size, 0, none⟩) M.length M.length) M w.heap.size := by
 refine .inr ⟨0, M.length, C, T, _, rfl, heap_alloc_new w _, fun i hi => ?_⟩
 rw [Nat.zero_add, ← Array.getElem?_toList, hC, List.getElem?_map, List.getD_eq_getElem?_getD, List.getElem?_eq_getElem hi]
 rfl
end
end Go.Proofs.YthakgjpejhjaoaaGreat
