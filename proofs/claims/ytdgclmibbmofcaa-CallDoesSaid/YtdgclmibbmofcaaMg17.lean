/-
  The law CallDoes: its walk. No condition. Printed by gen_rcm.py.
-/
import Derived.Test.YtdgclmibbmofcaaMg16
import Derived.Test.YtdgclmibbmofcaaMg12
import Derived.Test.YtdgclmibbmofcaaMg03
import Derived.Test.YtdgclmibbmofcaaMg05
import Derived.Test.YtdgclmibbmofcaaMg11
import Derived.Test.YtdgclmibbmofcaaMg04
import Derived.Test.YtdgclmibbmofcaaMg01
namespace Go.Proofs.Ytdgclmibbmofcaa
open Go Go.RowKit Go.Maps
set_option linter.unusedVariables false
set_option linter.unusedSimpArgs false

theorem st_range {w : World} {g o : Nat} {s : St} (h : ∀ j, j < 17 → w.cell? ⟨g, o + j, none⟩ = some (s.cells.getD j undef)) : w.rangeAt g o s.cells.toList := by
  intro j u hu
  have hj : j < 17 := by have := (List.getElem?_eq_some_iff.1 hu).1; simpa [St.size] using this
  rw [h j hj]
  rw [Array.getElem?_toList] at hu
  rw [Array.getD_eq_getD_getElem?, hu]; rfl
theorem wpList_load_stateAt {ops : Array Oper} {rest : List Oper} {op : Oper} {a : Act} {w : World} {Q : Exit → Act → World → Prop} (s : St) (b off : Nat) (hgd : op.guard = none) (x : Operand) (ho : op.op = .load 39 x) (hx : a.eval x = .pointer (some ⟨b, off, none⟩))
    (hb : w.rangeAt b off s.cells.toList) (h : wpList Try.prog ops Q rest (a.put op.dst (.agg s.cells)) w) : wpList Try.prog ops Q (op :: rest) a w :=
  wpList_plain hgd fun _ hK => wp_load_mid 39 x ho b off hx s.cells.toList _ hb Try.underlying39 rfl (by rw [Array.length_toList, St.size]; exact state_info) (by rw [Array.toArray_toList]; exact hK _ _ h)
section
variable {w w1 w2 : World} {a pb c b : Nat} {M : Mem} {C E : Cd} {rv ev : Value} {L : List (Nat × Obj)} {T : St}
theorem Kd.one (h : Kd w a pb M c b C rv ev E L w1) (hw : (w1.alloc (.cells St.zero.cells 39)).setCells w1.heap.size 0 T.cells.toList = w2) : Kd w a pb M c b C rv ev E ((w1.heap.size, .cells T.cells 39 (0, 0)) :: L) w2 := by
  subst hw
  exact h.add (((Upd.refl [] w1).alloc _).setCells (.inr (Nat.le_refl _)) _ _) (heap_store_state T (heap_alloc_new w1 _) (St.size _))
theorem Copy_kd (h : Kd w a pb M c b C rv ev E L w1) (hl : C.l.length ≤ 1000) :
    Calls Try.prog 19 #[.pointer (some ⟨c, 0, none⟩)] w1 fun e w' => ∃ c' b' g', e = .returned (.pointer (some ⟨c', 0, none⟩)) ∧ IsC w' c' b' g' C ∧ (w1.heap.size ≤ c' ∧ w1.heap.size ≤ b' ∧ w1.heap.size ≤ g') ∧ Upd [] w1 w' := by
  obtain ⟨g, hC, _⟩ := h.k.cc
  exact Copy_any' c b g C w1 hC hl
theorem DoCopy_kd {c' b' g' : Nat} (h : Kd w a pb M c b C rv ev E L w1) (hC : IsC w2 c' b' g' C) (hle : w1.heap.size ≤ c' ∧ w1.heap.size ≤ b' ∧ w1.heap.size ≤ g') (u : Upd [] w1 w2) (hn : C.L.length < 1000000) :
    Calls Try.prog 8 #[.pointer (some ⟨c', 0, none⟩), .pointer (some ⟨a, 0, none⟩), .agg St.zero.cells] w2 fun e w' => ∃ x y, e = .returned (.tuple #[x, y]) ∧ Kd w a pb M c b C rv ev E L w' := by
  have lts := h.k.lts
  have oo := h.k.o
  refine (Do_any M a pb c' b' g' C St.zero w2 (h.k.m.keep u (by simp) (by simp)) hC (by omega) St.zero_ok hn).mono ?_
  rintro e w3 ⟨q1, q2, q3, u2⟩
  rw [doM_zero] at q2
  have u3 : Upd [pb] w1 w3 := (u.mono (by simp)).also u2 (fun z hz => by
    simp only [List.mem_cons, List.not_mem_nil, or_false] at hz
    rcases hz with rfl | rfl | rfl
    · exact .inr hle.1
    · exact .inr hle.2.1
    · exact .inl (by simp))
  have hS : ∀ s ∈ [pb], s = a ∨ s = pb ∨ s = c ∨ s = b ∨ ∃ p ∈ L, p.1 = s := fun s hs => .inr (.inl (List.mem_singleton.1 hs))
  exact ⟨_, _, q1, h.k.step q2 u3, h.r.upd (Sit.rp _ _) u3 hS, h.e.upd (Sit.es _ _) u3 hS⟩
end
theorem Events_kd {w w1 : World} {a pb c b : Nat} {M : Mem} {C E : Cd} {rv ev : Value} {L : List (Nat × Obj)} (h : Kd w a pb M c b C rv ev E L w1) (hl : C.L.length ≤ 200) : Calls Try.prog 18 #[.pointer (some ⟨c, 0, none⟩)] w1 fun e w' => ∃ v g', e = .returned v ∧ ESl w' v C.L g' ∧ Upd [] w1 w' := by
  have h2 := Events_kc h.k
  rw [last_all C hl] at h2
  exact h2
set_option maxRecDepth 100000 in
set_option maxHeartbeats 16000000 in
theorem CallDoes_few (v0 v1 v2 : Value) (SL : List SpanV) (g0 : Nat) (n : Nat) (T : Nat → St) (lr : List Int) (g2 : Nat) (inp : ByteArray) (w : World) (h0 : SArg w v0 SL g0) (h1 : Rws w v1 17 n (fun i j => (T i).cells.getD j undef)) (hT : ∀ i, i < n → (T i).Ok) (h2 : Rp w v2 lr g2) (q : fewB SL = false) : Calls Try.prog 4 #[v0, v1, v2, .string inp] w fun e w' => e = .returned (.bool true) ∧ Upd [] w w' := by
  obtain ⟨va, vc, rfl⟩ := h1.shape
  obtain ⟨ra, rc, rfl⟩ := h2.form
  obtain ⟨ln, hln⟩ : ∃ ln : Int, ln = (n : Int) := ⟨_, rfl⟩
  obtain ⟨lrn, hlr⟩ : ∃ lrn : Int, lrn = (lr.length : Int) := ⟨_, rfl⟩
  obtain ⟨li, hli⟩ : ∃ li : Int, li = (inp.size : Int) := ⟨_, rfl⟩
  have ec : ((n : Nat) : Int) = ln := hln.symm
  have ec2 : ((lr.length : Nat) : Int) = lrn := hlr.symm
  have ec3 : ((inp.size : Nat) : Int) = li := hli.symm
  have H := Lib.hid (And.intro h0 (And.intro h1 (And.intro hT h2)))
  have HL := Lib.hid (And.intro hln (And.intro hlr hli))
  have tok : True := trivial
  clear h0 h1 hT h2 hln hlr hli
  go_enter Try.func4, Try.ntmps4
  go_wp2_with (first | (have _t := tok; clear _t; go_at_call 5; refine (known14_any _).mono ?_; rintro e w0 ⟨rfl, hu0⟩; clear tok) | (have _t := hu0; clear _t; go_at_call 13; refine (both14_any v0 SL g0 _ (H.out.1.keep hu0)).mono ?_; rintro e w1 ⟨ma, pb, rb, rfl, hM, hR, hu1, n1, n2, l1, l2, l3⟩; have H1 := Lib.hid (And.intro hM (And.intro hR (And.intro (hu0.also hu1 (by simp)) (And.intro n1 (And.intro n2 (And.intro (Nat.le_trans hu0.size l1) (And.intro (Nat.le_trans hu0.size l2) (Nat.le_trans hu0.size l3)))))))); clear hM hR hu0 hu1 n1 n2 l1 l2 l3) | (have _t := H1; clear _t; go_at_call 14; refine (few14_any v0 SL g0 _ (H.out.1.keep H1.out.2.2.1)).mono ?_; rintro e w2 ⟨rfl, rfl⟩))
  go_ret
  exact ⟨rfl, H1.out.2.2.1⟩
set_option maxRecDepth 100000 in
set_option maxHeartbeats 16000000 in
theorem CallDoes_load (v0 v1 v2 : Value) (SL : List SpanV) (g0 : Nat) (n : Nat) (T : Nat → St) (lr : List Int) (g2 : Nat) (inp : ByteArray) (w : World) (h0 : SArg w v0 SL g0) (h1 : Rws w v1 17 n (fun i j => (T i).cells.getD j undef)) (hT : ∀ i, i < n → (T i).Ok) (h2 : Rp w v2 lr g2) (q1 : fewB SL = true) (q : loadB SL = false) : Calls Try.prog 4 #[v0, v1, v2, .string inp] w fun e w' => e = .returned (.bool true) ∧ Upd [] w w' := by
  obtain ⟨va, vc, rfl⟩ := h1.shape
  obtain ⟨ra, rc, rfl⟩ := h2.form
  obtain ⟨ln, hln⟩ : ∃ ln : Int, ln = (n : Int) := ⟨_, rfl⟩
  obtain ⟨lrn, hlr⟩ : ∃ lrn : Int, lrn = (lr.length : Int) := ⟨_, rfl⟩
  obtain ⟨li, hli⟩ : ∃ li : Int, li = (inp.size : Int) := ⟨_, rfl⟩
  have ec : ((n : Nat) : Int) = ln := hln.symm
  have ec2 : ((lr.length : Nat) : Int) = lrn := hlr.symm
  have ec3 : ((inp.size : Nat) : Int) = li := hli.symm
  have H := Lib.hid (And.intro h0 (And.intro h1 (And.intro hT h2)))
  have HL := Lib.hid (And.intro hln (And.intro hlr hli))
  have tok : True := trivial
  clear h0 h1 hT h2 hln hlr hli
  go_enter Try.func4, Try.ntmps4
  go_wp2_with (first | (have _t := tok; clear _t; go_at_call 5; refine (known14_any _).mono ?_; rintro e w0 ⟨rfl, hu0⟩; clear tok) | (have _t := hu0; clear _t; go_at_call 13; refine (both14_any v0 SL g0 _ (H.out.1.keep hu0)).mono ?_; rintro e w1 ⟨ma, pb, rb, rfl, hM, hR, hu1, n1, n2, l1, l2, l3⟩; have H1 := Lib.hid (And.intro hM (And.intro hR (And.intro (hu0.also hu1 (by simp)) (And.intro n1 (And.intro n2 (And.intro (Nat.le_trans hu0.size l1) (And.intro (Nat.le_trans hu0.size l2) (Nat.le_trans hu0.size l3)))))))); clear hM hR hu0 hu1 n1 n2 l1 l2 l3) | (have _t := H1; clear _t; go_at_call 14; refine (few14_any v0 SL g0 _ (H.out.1.keep H1.out.2.2.1)).mono ?_; rintro e w2 ⟨rfl, rfl⟩))
  go_ret
  exact ⟨rfl, H1.out.2.2.1⟩
set_option maxRecDepth 100000 in
set_option maxHeartbeats 16000000 in
theorem CallDoes_long (v0 v1 v2 : Value) (SL : List SpanV) (g0 : Nat) (n : Nat) (T : Nat → St) (lr : List Int) (g2 : Nat) (inp : ByteArray) (w : World) (h0 : SArg w v0 SL g0) (h1 : Rws w v1 17 n (fun i j => (T i).cells.getD j undef)) (hT : ∀ i, i < n → (T i).Ok) (h2 : Rp w v2 lr g2) (q1 : fewB SL = true) (q2 : loadB SL = true) (q : 20 < (n : Int)) : Calls Try.prog 4 #[v0, v1, v2, .string inp] w fun e w' => e = .returned (.bool true) ∧ Upd [] w w' := by
  obtain ⟨va, vc, rfl⟩ := h1.shape
  obtain ⟨ra, rc, rfl⟩ := h2.form
  obtain ⟨ln, hln⟩ : ∃ ln : Int, ln = (n : Int) := ⟨_, rfl⟩
  obtain ⟨lrn, hlr⟩ : ∃ lrn : Int, lrn = (lr.length : Int) := ⟨_, rfl⟩
  obtain ⟨li, hli⟩ : ∃ li : Int, li = (inp.size : Int) := ⟨_, rfl⟩
  have ec : ((n : Nat) : Int) = ln := hln.symm
  have ec2 : ((lr.length : Nat) : Int) = lrn := hlr.symm
  have ec3 : ((inp.size : Nat) : Int) = li := hli.symm
  have H := Lib.hid (And.intro h0 (And.intro h1 (And.intro hT h2)))
  have HL := Lib.hid (And.intro hln (And.intro hlr hli))
  have tok : True := trivial
  rw [← hln] at q
  have d0 : decide (20 < ln) = true := by simp; omega
  clear q
  clear h0 h1 hT h2 hln hlr hli
  go_enter Try.func4, Try.ntmps4
  go_wp2_with (first | (have _t := tok; clear _t; go_at_call 5; refine (known14_any _).mono ?_; rintro e w0 ⟨rfl, hu0⟩; clear tok) | (have _t := hu0; clear _t; go_at_call 13; refine (both14_any v0 SL g0 _ (H.out.1.keep hu0)).mono ?_; rintro e w1 ⟨ma, pb, rb, rfl, hM, hR, hu1, n1, n2, l1, l2, l3⟩; have H1 := Lib.hid (And.intro hM (And.intro hR (And.intro (hu0.also hu1 (by simp)) (And.intro n1 (And.intro n2 (And.intro (Nat.le_trans hu0.size l1) (And.intro (Nat.le_trans hu0.size l2) (Nat.le_trans hu0.size l3)))))))); clear hM hR hu0 hu1 n1 n2 l1 l2 l3) | (have _t := H1; clear _t; go_at_call 14; refine (few14_any v0 SL g0 _ (H.out.1.keep H1.out.2.2.1)).mono ?_; rintro e w2 ⟨rfl, rfl⟩))
  go_ret
  exact ⟨rfl, H1.out.2.2.1⟩
set_option maxRecDepth 100000 in
set_option maxHeartbeats 16000000 in
theorem CallDoes_reps (v0 v1 v2 : Value) (SL : List SpanV) (g0 : Nat) (n : Nat) (T : Nat → St) (lr : List Int) (g2 : Nat) (inp : ByteArray) (w : World) (h0 : SArg w v0 SL g0) (h1 : Rws w v1 17 n (fun i j => (T i).cells.getD j undef)) (hT : ∀ i, i < n → (T i).Ok) (h2 : Rp w v2 lr g2) (q1 : fewB SL = true) (q2 : loadB SL = true) (q3 : ¬ 20 < (n : Int)) (q : 20 < (lr.length : Int)) : Calls Try.prog 4 #[v0, v1, v2, .string inp] w fun e w' => e = .returned (.bool true) ∧ Upd [] w w' := by
  obtain ⟨va, vc, rfl⟩ := h1.shape
  obtain ⟨ra, rc, rfl⟩ := h2.form
  obtain ⟨ln, hln⟩ : ∃ ln : Int, ln = (n : Int) := ⟨_, rfl⟩
  obtain ⟨lrn, hlr⟩ : ∃ lrn : Int, lrn = (lr.length : Int) := ⟨_, rfl⟩
  obtain ⟨li, hli⟩ : ∃ li : Int, li = (inp.size : Int) := ⟨_, rfl⟩
  have ec : ((n : Nat) : Int) = ln := hln.symm
  have ec2 : ((lr.length : Nat) : Int) = lrn := hlr.symm
  have ec3 : ((inp.size : Nat) : Int) = li := hli.symm
  have H := Lib.hid (And.intro h0 (And.intro h1 (And.intro hT h2)))
  have HL := Lib.hid (And.intro hln (And.intro hlr hli))
  have tok : True := trivial
  rw [← hln] at q3
  have d0 : decide (20 < ln) = false := by simp; omega
  rw [← hlr] at q
  have d1 : decide (20 < lrn) = true := by simp; omega
  clear q q3
  clear h0 h1 hT h2 hln hlr hli
  go_enter Try.func4, Try.ntmps4
  go_wp2_with (first | (have _t := tok; clear _t; go_at_call 5; refine (known14_any _).mono ?_; rintro e w0 ⟨rfl, hu0⟩; clear tok) | (have _t := hu0; clear _t; go_at_call 13; refine (both14_any v0 SL g0 _ (H.out.1.keep hu0)).mono ?_; rintro e w1 ⟨ma, pb, rb, rfl, hM, hR, hu1, n1, n2, l1, l2, l3⟩; have H1 := Lib.hid (And.intro hM (And.intro hR (And.intro (hu0.also hu1 (by simp)) (And.intro n1 (And.intro n2 (And.intro (Nat.le_trans hu0.size l1) (And.intro (Nat.le_trans hu0.size l2) (Nat.le_trans hu0.size l3)))))))); clear hM hR hu0 hu1 n1 n2 l1 l2 l3) | (have _t := H1; clear _t; go_at_call 14; refine (few14_any v0 SL g0 _ (H.out.1.keep H1.out.2.2.1)).mono ?_; rintro e w2 ⟨rfl, rfl⟩))
  go_ret
  exact ⟨rfl, H1.out.2.2.1⟩
set_option maxRecDepth 100000 in
set_option maxHeartbeats 16000000 in
theorem CallDoes_inp (v0 v1 v2 : Value) (SL : List SpanV) (g0 : Nat) (n : Nat) (T : Nat → St) (lr : List Int) (g2 : Nat) (inp : ByteArray) (w : World) (h0 : SArg w v0 SL g0) (h1 : Rws w v1 17 n (fun i j => (T i).cells.getD j undef)) (hT : ∀ i, i < n → (T i).Ok) (h2 : Rp w v2 lr g2) (q1 : fewB SL = true) (q2 : loadB SL = true) (q3 : ¬ 20 < (n : Int)) (q4 : ¬ 20 < (lr.length : Int)) (q : 300 < (inp.size : Int)) : Calls Try.prog 4 #[v0, v1, v2, .string inp] w fun e w' => e = .returned (.bool true) ∧ Upd [] w w' := by
  obtain ⟨va, vc, rfl⟩ := h1.shape
  obtain ⟨ra, rc, rfl⟩ := h2.form
  obtain ⟨ln, hln⟩ : ∃ ln : Int, ln = (n : Int) := ⟨_, rfl⟩
  obtain ⟨lrn, hlr⟩ : ∃ lrn : Int, lrn = (lr.length : Int) := ⟨_, rfl⟩
  obtain ⟨li, hli⟩ : ∃ li : Int, li = (inp.size : Int) := ⟨_, rfl⟩
  have ec : ((n : Nat) : Int) = ln := hln.symm
  have ec2 : ((lr.length : Nat) : Int) = lrn := hlr.symm
  have ec3 : ((inp.size : Nat) : Int) = li := hli.symm
  have H := Lib.hid (And.intro h0 (And.intro h1 (And.intro hT h2)))
  have HL := Lib.hid (And.intro hln (And.intro hlr hli))
  have tok : True := trivial
  rw [← hln] at q3
  have d0 : decide (20 < ln) = false := by simp; omega
  rw [← hlr] at q4
  have d1 : decide (20 < lrn) = false := by simp; omega
  rw [← hli] at q
  have d2 : decide (300 < li) = true := by simp; omega
  clear q q3 q4
  clear h0 h1 hT h2 hln hlr hli
  go_enter Try.func4, Try.ntmps4
  go_wp2_with (first | (have _t := tok; clear _t; go_at_call 5; refine (known14_any _).mono ?_; rintro e w0 ⟨rfl, hu0⟩; clear tok) | (have _t := hu0; clear _t; go_at_call 13; refine (both14_any v0 SL g0 _ (H.out.1.keep hu0)).mono ?_; rintro e w1 ⟨ma, pb, rb, rfl, hM, hR, hu1, n1, n2, l1, l2, l3⟩; have H1 := Lib.hid (And.intro hM (And.intro hR (And.intro (hu0.also hu1 (by simp)) (And.intro n1 (And.intro n2 (And.intro (Nat.le_trans hu0.size l1) (And.intro (Nat.le_trans hu0.size l2) (Nat.le_trans hu0.size l3)))))))); clear hM hR hu0 hu1 n1 n2 l1 l2 l3) | (have _t := H1; clear _t; go_at_call 14; refine (few14_any v0 SL g0 _ (H.out.1.keep H1.out.2.2.1)).mono ?_; rintro e w2 ⟨rfl, rfl⟩))
  go_ret
  exact ⟨rfl, H1.out.2.2.1⟩
set_option maxRecDepth 100000 in
set_option maxHeartbeats 16000000 in
theorem CallDoes_main (v0 v1 v2 : Value) (SL : List SpanV) (g0 : Nat) (n : Nat) (T : Nat → St) (lr : List Int) (g2 : Nat) (inp : ByteArray) (w : World) (h0 : SArg w v0 SL g0) (h1 : Rws w v1 17 n (fun i j => (T i).cells.getD j undef)) (hT : ∀ i, i < n → (T i).Ok) (h2 : Rp w v2 lr g2) (q1 : fewB SL = true) (q2 : loadB SL = true) (q3 : ¬ 20 < (n : Int)) (q4 : ¬ 20 < (lr.length : Int)) (q5 : ¬ 300 < (inp.size : Int)) : Calls Try.prog 4 #[v0, v1, v2, .string inp] w fun e w' => e = .returned (.bool true) ∧ Upd [] w w' := by
  obtain ⟨va, vc, rfl⟩ := h1.shape
  obtain ⟨ra, rc, rfl⟩ := h2.form
  obtain ⟨ln, hln⟩ : ∃ ln : Int, ln = (n : Int) := ⟨_, rfl⟩
  obtain ⟨lrn, hlr⟩ : ∃ lrn : Int, lrn = (lr.length : Int) := ⟨_, rfl⟩
  obtain ⟨li, hli⟩ : ∃ li : Int, li = (inp.size : Int) := ⟨_, rfl⟩
  have ec : ((n : Nat) : Int) = ln := hln.symm
  have ec2 : ((lr.length : Nat) : Int) = lrn := hlr.symm
  have ec3 : ((inp.size : Nat) : Int) = li := hli.symm
  have H := Lib.hid (And.intro h0 (And.intro h1 (And.intro hT h2)))
  have HL := Lib.hid (And.intro hln (And.intro hlr hli))
  have tok : True := trivial
  rw [← hln] at q3
  rw [← hlr] at q4
  rw [← hli] at q5
  have d0 : decide (20 < ln) = false := by simp; omega
  have d1 : decide (20 < lrn) = false := by simp; omega
  have d2 : decide (300 < li) = false := by simp; omega
  have HQ := Lib.hid (And.intro q3 (show lr.length ≤ 20 by omega))
  clear q3 q4 q5
  clear h0 h1 hT h2 hln hlr hli
  have tkA : True := trivial
  go_enter Try.func4, Try.ntmps4
  go_upto_region 6 with (first | (have _t := tok; clear _t; go_at_call 5; refine (known14_any _).mono ?_; rintro e w0 ⟨rfl, hu0⟩; clear tok) | (have _t := hu0; clear _t; go_at_call 13; refine (both14_any v0 SL g0 _ (H.out.1.keep hu0)).mono ?_; rintro e w1 ⟨ma, pb, rb, rfl, hM, hR, hu1, n1, n2, l1, l2, l3⟩; have H1 := Lib.hid (And.intro hM (And.intro hR (And.intro (hu0.also hu1 (by simp)) (And.intro n1 (And.intro n2 (And.intro (Nat.le_trans hu0.size l1) (And.intro (Nat.le_trans hu0.size l2) (Nat.le_trans hu0.size l3)))))))); clear hM hR hu0 hu1 n1 n2 l1 l2 l3) | (have _t := H1; clear _t; go_at_call 14; refine (few14_any v0 SL g0 _ (H.out.1.keep H1.out.2.2.1)).mono ?_; rintro e w2 ⟨rfl, rfl⟩))
  clear q1 q2 d0 d1 d2
  obtain ⟨⟨CR0, hh0, hob⟩, hok0⟩ := H1.out.2.1
  have HO := Lib.hid hob
  have HR0 := Lib.hid (And.intro hh0 hok0)
  clear hob hh0 hok0
  go_wp2_with (first
    | (have _t := H1; clear _t; go_at_call 7; refine (New_kr (rb := rb) (l := lr) H1.out.2.2.1 H1.out.1 ⟨H1.out.2.2.2.2.2.1, H1.out.2.2.2.2.2.2.1, H1.out.2.2.2.2.2.2.2⟩ ⟨H1.out.2.2.2.1, H1.out.2.2.2.2.1⟩ HO.out (H.out.2.2.2.keep H1.out.2.2.1 (by simp)) (by have := HQ.out.2; omega)).mono ?_; rintro e w2 ⟨c, b, rfl, hk0⟩; have K0 := Lib.hid hk0; clear hk0 H1 HO)
    | (have _t := tkA; clear _t; at_builtin; refine wpList_append_rp rfl _ _ rfl rfl _ lr g2 rfl (H.out.2.2.2.keep K0.out.u (by simp)) (by have := HQ.out.2; omega) ?_; intro sb sc w3 g3 hrp hg3 hu3; have D1 := Lib.hid (show Kd w ma pb (loadR SL Mem.zero) c b ⟨lr, inp, []⟩ (.slice sb lr.length sc) (.slice none 0 0) ⟨lr, inp, []⟩ [(rb, .cells CR0 30 (0, 0))] w3 from ⟨K0.out.quiet hu3, Kp.fresh K0.out hu3 hrp hg3, Kp.fresh K0.out hu3 (.inl ⟨rfl, rfl⟩) (Nat.le_refl _)⟩); clear hrp hg3 hu3 K0 tkA))
  have D2 := Lib.hid (D1.out.add ((Upd.refl [] w3).alloc (.cells #[.slice sb lr.length sc, .string inp, .slice none 0 0] 57)) (heap_alloc_new w3 _))
  clear D1
  generalize w3.heap.size = d at D2 ⊢
  generalize loadR SL Mem.zero = M0 at *
  go_loopw [14, 15, 16, 17, 18, 19, 20] (fun i _ _ _ _ _ _ wr => ∃ (q : Int) (M : Mem) (C : Cd) (CR : Array Value) (rv ev : Value), i = .int .i64 q ∧ Hid (0 ≤ q ∧ q ≤ ln) ∧ Hid (C.L.length = q.toNat ∧ C.l.length ≤ 20) ∧ Hid (HoldsR CR M ∧ M.Ok) ∧ Hid (Kd w ma pb M c b C rv ev C [(d, .cells #[rv, .string (C).i, ev] 57 (0, 0)), (rb, .cells CR 30 (0, 0))] wr)) (fun i _ _ _ _ _ _ _ => (ln - intOf i).toNat)
  case atStart => exact ⟨0, M0, ⟨lr, inp, []⟩, CR0, _, _, rfl, Lib.hid (by have := HL.out.1; omega), Lib.hid ⟨rfl, HQ.out.2⟩, HR0, D2⟩
  case round =>
    clear D2 HR0
    obtain ⟨q, M, C, CR, rv, ev, rfl, hq, HN, HR, D1⟩ := hrel
    by_cases hlt : q < ln
    · have dlt : decide (q < ln) = true := by simp [hlt]
      have hqq := hq.out
      have hll := HL.out.1
      have hss := HQ.out.1
      have HB1 := Lib.hid (show (0 ≤ q ∧ q < ln) ∧ C.L.length < 20 by have := HN.out.1; omega)
      have ewq : wrap64 (q + 1) = q + 1 := by unfold wrap64; omega
      have HI := Lib.hid (show q.toNat < n by omega)
      obtain ⟨gl, ol, rfl, _, hc4⟩ := H.out.2.1.cell (by omega)
      obtain ⟨S, hS⟩ : ∃ S, T q.toNat = S := ⟨_, rfl⟩
      have HSO := Lib.hid (show S.Ok by rw [← hS]; exact H.out.2.2.1 _ HI.out)
      have HC4 := Lib.hid (show ∀ w', Upd [] w w' → w'.rangeAt gl (ol + q.toNat * 17) S.cells.toList from fun w' u => st_range (fun j hj => by rw [hc4 w' u _ HI.out j hj, hS]))
      obtain ⟨bv, hbv⟩ : ∃ bv, decide (S.R 0 = 1) = bv := ⟨_, rfl⟩
      have HBV := Lib.hid hbv
      have bq : 0 ≤ q ∧ q < ln := by omega
      have tk1 : True := trivial
      have tk2 : True := trivial
      clear hqq hll hss hc4 hS hbv hlt
      go_upto_region 14 with (first
        | (have _t := tk1; clear _t; refine at_load 39 rfl ?_; refine wpList_load_stateAt S gl (ol + q.toNat * 17) rfl _ rfl rfl (HC4.out _ D1.out.k.u) ?_; clear tk1)
        | (have _t := D1; clear _t; go_at_call 8; refine (Do_kd D1.out S HSO.out (by have := HB1.out.2; omega)).mono ?_; rintro e w4 ⟨rfl, hk⟩; rw [HBV.out]; have D2 := Lib.hid hk; clear hk D1)
        | (have _t := D2; clear _t; refine at_store 39 rfl ?_; refine wpList_store_state' (S.setR 0 (doR M S C)) w4.heap.size rfl _ _ rfl rfl rfl (heap_alloc_new w4 _) rfl ?_; intro w5 hw; have D3 := Lib.hid (D2.out.one hw); clear hw D2)
        | (have _t := tk2; clear _t; refine at_load 39 rfl ?_; refine wpList_load_stateAt S gl (ol + q.toNat * 17) rfl _ rfl rfl (HC4.out _ D3.out.k.u) ?_; clear tk2)
        | (have _t := D3; clear _t; go_at_call 15; refine (DoR_kd D3.out HR.out S HSO.out (by have := HB1.out.2; omega)).mono ?_; rintro e w6 ⟨rv2, ev2, CR2, rfl, hh2, hk⟩; rw [HBV.out]; have D4 := Lib.hid hk; have HR2 := Lib.hid hh2; clear hk hh2 D3)
        | (have _t := D4; clear _t; refine at_store 39 rfl ?_; refine wpList_store_state' (S.setR 0 (doR M S C)) w6.heap.size rfl _ _ rfl rfl rfl (heap_alloc_new w6 _) rfl ?_; intro w7 hw; have D5 := Lib.hid (D4.out.one hw); clear hw D4)
        | (have _t := D5; clear _t; go_at_call 16; refine (Left_kc D5.out.k).mono ?_; rintro e w8 ⟨rfl, hu⟩; have D6 := Lib.hid (D5.out.quiet hu); clear hu D5))
      have HC2 := Lib.hid (And.intro (doC_len M S C) (Nat.le_trans (doC_l M S C) HN.out.2))
      generalize doM M S C = M2 at *
      generalize doC M S C = C2 at *
      generalize S.setR 0 (doR M S C) = S2 at *
      generalize w6.heap.size = sy at *
      generalize w4.heap.size = sx at *
      obtain ⟨gr, hgr, _⟩ := D6.out.r
      obtain ⟨ge, hge, _⟩ := D6.out.e
      obtain ⟨rva, rvc, rfl⟩ := hgr.form
      obtain ⟨eva, evc, rfl⟩ := hge.form
      obtain ⟨nl, hnl⟩ : ∃ nl : Int, ((C2.l.length : Nat) : Int) = nl := ⟨_, rfl⟩
      obtain ⟨ni, hni⟩ : ∃ ni : Int, ((C2.i.size : Nat) : Int) = ni := ⟨_, rfl⟩
      have HGE := Lib.hid hge
      have HLE := Lib.hid (show C2.L.length ≤ 200 by have h1 := HC2.out.1; have h2 := HB1.out.2; omega)
      have hneq := fun w => run_neq_st S2 w
      have bbv : (bv != bv) = false := by cases bv <;> rfl
      have bnl : (nl != nl) = false := by simp
      have bni : (ni != ni) = false := by simp
      rw [hnl, hni]
      clear hgr hge
      refine wp_drawE 42 (Qe w8 C2.L 28) (fun _ _ => False) (by kernel_rfl) (by decide +kernel) (fun r0 => Qe.start w8 C2.L 28 r0) (fun _ _ _ h => h.elim) ?_
      simp only [List.take_succ_cons, List.take_zero, List.drop_succ_cons, List.drop_zero]
      apply headE_val0 rfl rfl
      · intro dn r0 K hd hdep hK w9 hB1
        refine wp_load_state S2 sx _ rfl rfl (hB1.u.get (D6.out.k.get 1 rfl) (by simp)) ?_
        exact hK _ (hB1.same 0 (by decide))
      · exact ⟨_, rfl⟩
      apply headE_val0 rfl rfl
      · intro dn r0 K hd hdep hK w9 hB1
        refine wp_load_state S2 sy _ rfl rfl (hB1.u.get (D6.out.k.get 0 rfl) (by simp)) ?_
        exact hK _ (hB1.same 1 (by decide))
      · exact ⟨_, rfl⟩
      apply headE_val0 rfl rfl
      · intro dn r0 K hd hdep hK w9 hB1
        skip
        have HB := Lib.hid (hB1.same 2 (by decide))
        clear hB1 hdep
        go_wp2_with fail
        first | exact hK _ HB.out | exact HB.out
      · exact ⟨_, rfl⟩
      apply headE_val0 rfl rfl
      · intro dn r0 K hd hdep hK w9 hB1
        skip
        have HB := Lib.hid (hB1.same 3 (by decide))
        clear hB1 hdep
        go_wp2_with fail
        first | exact hK _ HB.out | exact HB.out
      · exact ⟨_, rfl⟩
      apply headE_val0 rfl rfl
      · intro dn r0 K hd hdep hK w9 hB1
        skip
        have HB := Lib.hid (hB1.same 4 (by decide))
        clear hB1 hdep
        go_wp2_with fail
        first | exact hK _ HB.out | exact HB.out
      · exact ⟨_, rfl⟩
      apply headE_val0 rfl rfl
      · intro dn r0 K hd hdep hK w9 hB1
        skip
        have HB := Lib.hid (hB1.same 5 (by decide))
        clear hB1 hdep
        go_wp2_with fail
        first | exact hK _ HB.out | exact HB.out
      · exact ⟨_, rfl⟩
      apply headE_val0 rfl rfl
      · intro dn r0 K hd hdep hK w9 hB1
        skip
        have HB := Lib.hid (hB1.same 6 (by decide))
        clear hB1 hdep
        go_wp2_with fail
        first | exact hK _ HB.out | exact HB.out
      · exact ⟨_, rfl⟩
      apply headE_val0 rfl rfl
      · intro dn r0 K hd hdep hK w9 hB1
        skip
        have HB := Lib.hid (hB1.same 7 (by decide))
        clear hB1 hdep
        go_wp2_with fail
        first | exact hK _ HB.out | exact HB.out
      · exact ⟨_, rfl⟩
      apply headE_val0 rfl rfl
      · intro dn r0 K hd hdep hK w9 hB1
        skip
        have HB := Lib.hid (hB1.same 8 (by decide))
        clear hB1 hdep
        go_wp2_with fail
        first | exact hK _ HB.out | exact HB.out
      · exact ⟨_, rfl⟩
      apply headE_val0 rfl rfl
      · intro dn r0 K hd hdep hK w9 hB1
        skip
        have HB := Lib.hid (hB1.same 9 (by decide))
        clear hB1 hdep
        go_wp2_with fail
        first | exact hK _ HB.out | exact HB.out
      · exact ⟨_, rfl⟩
      apply headE_val0 rfl rfl
      · intro dn r0 K hd hdep hK w9 hB1
        skip
        have HB := Lib.hid (hB1.same 10 (by decide))
        clear hB1 hdep
        go_wp2_with fail
        first | exact hK _ HB.out | exact HB.out
      · exact ⟨_, rfl⟩
      apply headE_val0 rfl rfl
      · intro dn r0 K hd hdep hK w9 hB1
        skip
        have HB := Lib.hid (hB1.same 11 (by decide))
        clear hB1 hdep
        go_wp2_with fail
        first | exact hK _ HB.out | exact HB.out
      · exact ⟨_, rfl⟩
      apply headE_val0 rfl rfl
      · intro dn r0 K hd hdep hK w9 hB1
        skip
        have HB := Lib.hid (hB1.same 12 (by decide))
        clear hB1 hdep
        go_wp2_with fail
        first | exact hK _ HB.out | exact HB.out
      · exact ⟨_, rfl⟩
      apply headE_val0 rfl rfl
      · intro dn r0 K hd hdep hK w9 hB1
        have f1 := cells_of (hB1.u.get (D6.out.k.get 2 rfl) (by simp))
        have HB := Lib.hid (hB1.same 13 (by decide))
        clear hB1 hdep
        go_wp2_with fail
        first | exact hK _ HB.out | exact HB.out
      · exact ⟨_, rfl⟩
      apply headE_val0 rfl rfl
      · intro dn r0 K hd hdep hK w9 hB1
        skip
        have HB := Lib.hid (hB1.same 14 (by decide))
        clear hB1 hdep
        go_wp2_with fail
        first | exact hK _ HB.out | exact HB.out
      · exact ⟨_, rfl⟩
      apply headE_val0 rfl rfl
      · intro dn r0 K hd hdep hK w9 hB1
        skip
        have HB := Lib.hid (hB1.same 15 (by decide))
        clear hB1 hdep
        go_wp2_with fail
        first | exact hK _ HB.out | exact HB.out
      · exact ⟨_, rfl⟩
      apply headE_val0 rfl rfl
      · intro dn r0 K hd hdep hK w9 hB1
        skip
        have HB := Lib.hid (hB1.same 16 (by decide))
        clear hB1 hdep
        go_wp2_with fail
        first | exact hK _ HB.out | exact HB.out
      · exact ⟨_, rfl⟩
      apply headE_val0 rfl rfl
      · intro dn r0 K hd hdep hK w9 hB1
        skip
        have HB := Lib.hid (hB1.same 17 (by decide))
        clear hB1 hdep
        go_wp2_with fail
        first | exact hK _ HB.out | exact HB.out
      · exact ⟨_, rfl⟩
      apply headE_val0 rfl rfl
      · intro dn r0 K hd hdep hK w9 hB1
        skip
        have HB := Lib.hid (hB1.same 18 (by decide))
        clear hB1 hdep
        go_wp2_with fail
        first | exact hK _ HB.out | exact HB.out
      · exact ⟨_, rfl⟩
      apply headE_val0 rfl rfl
      · intro dn r0 K hd hdep hK w9 hB1
        skip
        have HB := Lib.hid (hB1.same 19 (by decide))
        clear hB1 hdep
        go_wp2_with fail
        first | exact hK _ HB.out | exact HB.out
      · exact ⟨_, rfl⟩
      apply headE_val0 rfl rfl
      · intro dn r0 K hd hdep hK w9 hB1
        skip
        have HB := Lib.hid (hB1.same 20 (by decide))
        clear hB1 hdep
        go_wp2_with fail
        first | exact hK _ HB.out | exact HB.out
      · exact ⟨_, rfl⟩
      apply headE_val0 rfl rfl
      · intro dn r0 K hd hdep hK w9 hB1
        skip
        have HB := Lib.hid (hB1.same 21 (by decide))
        clear hB1 hdep
        go_wp2_with fail
        first | exact hK _ HB.out | exact HB.out
      · exact ⟨_, rfl⟩
      apply headE_val0 rfl rfl
      · intro dn r0 K hd hdep hK w9 hB1
        have f1 := cells_of (hB1.u.get (D6.out.k.get 2 rfl) (by simp))
        have HB := Lib.hid (hB1.same 22 (by decide))
        clear hB1 hdep
        go_wp2_with fail
        first | exact hK _ HB.out | exact HB.out
      · exact ⟨_, rfl⟩
      apply headE_val0 rfl rfl
      · intro dn r0 K hd hdep hK w9 hB1
        skip
        have HB := Lib.hid (hB1.same 23 (by decide))
        clear hB1 hdep
        go_wp2_with fail
        first | exact hK _ HB.out | exact HB.out
      · exact ⟨_, rfl⟩
      apply headE_val0 rfl rfl
      · intro dn r0 K hd hdep hK w9 hB1
        skip
        have HB := Lib.hid (hB1.same 24 (by decide))
        clear hB1 hdep
        go_wp2_with fail
        first | exact hK _ HB.out | exact HB.out
      · exact ⟨_, rfl⟩
      apply headE_val0 rfl rfl
      · intro dn r0 K hd hdep hK w9 hB1
        skip
        have HB := Lib.hid (hB1.same 25 (by decide))
        clear hB1 hdep
        go_wp2_with fail
        first | exact hK _ HB.out | exact HB.out
      · exact ⟨_, rfl⟩
      apply headE_val0 rfl rfl
      · intro dn r0 K hd hdep hK w9 hB1
        skip
        have HB := Lib.hid (hB1.same 26 (by decide))
        clear hB1 hdep
        go_wp2_with fail
        first | exact hK _ HB.out | exact HB.out
      · exact ⟨_, rfl⟩
      apply headE_val0 rfl rfl
      · intro dn r0 K hd hdep hK w9 hB1
        skip
        have HB := Lib.hid (hB1.same 27 (by decide))
        clear hB1 hdep
        go_wp2_with fail
        first | exact hK _ HB.out | exact HB.out
      · exact ⟨_, rfl⟩
      refine headE_free rfl (fun _ => rfl) 119 rfl (by simp [Act.put]) ?_ ?_
      · intro dn r0 K hd w9 hB2 hK
        have HB := Lib.hid hB2
        clear hB2
        simp only [fillE]
        go_wp2_with (go_at_call 18; refine (Events_kd (D6.out.quiet HB.out.u) HLE.out).mono ?_; rintro e w10 ⟨v, gv, rfl, hv, hu⟩; have HB2 := Lib.hid (HB.out.ev hu hv); clear hv hu)
        first | exact hK _ _ HB2.out | exact HB2.out
      apply headE_val rfl (fun _ => rfl)
      · intro dn r0 K hd hdep hK w9 hB2
        skip
        have HB := Lib.hid (hB2.same 29 (by decide))
        clear hB2 hdep
        simp only [fillE]
        go_wp2_with fail
        first | exact hK _ HB.out | exact HB.out
      · exact ⟨_, fun _ => rfl, Eq.symm (by go_simp; exact rfl)⟩
      apply headE_val rfl (fun _ => rfl)
      · intro dn r0 K hd hdep hK w9 hB2
        skip
        have HB := Lib.hid (hB2.same 30 (by decide))
        clear hB2 hdep
        simp only [fillE]
        go_wp2_with fail
        first | exact hK _ HB.out | exact HB.out
      · exact ⟨_, fun _ => rfl, Eq.symm (by go_simp; exact rfl)⟩
      apply headE_val rfl (fun _ => rfl)
      · intro dn r0 K hd hdep hK w9 hB2
        skip
        have HB := Lib.hid (hB2.same 31 (by decide))
        clear hB2 hdep
        simp only [fillE]
        go_wp2_with fail
        first | exact hK _ HB.out | exact HB.out
      · exact ⟨_, fun _ => rfl, Eq.symm (by go_simp; exact rfl)⟩
      apply headE_val rfl (fun _ => rfl)
      · intro dn r0 K hd hdep hK w9 hB2
        have f1 := cells_of (hB2.u.get (D6.out.k.get 2 rfl) (by simp))
        have HB := Lib.hid (hB2.same 32 (by decide))
        clear hB2 hdep
        simp only [fillE]
        go_wp2_with fail
        first | exact hK _ HB.out | exact HB.out
      · exact ⟨_, fun _ => rfl, Eq.symm (by go_simp; exact rfl)⟩
      apply headE_val rfl (fun _ => rfl)
      · intro dn r0 K hd hdep hK w9 hB2
        have h28 : dn 28 = true := hdep ⟨28, .data⟩ (by simp) rfl
        have hev := (hB2.e h28).choose_spec
        generalize (hB2.e h28).choose = gx at hev
        have HB := Lib.hid (And.intro hB2 hev)
        clear hB2 hdep hev
        simp only [fillE]
        go_wp2_with (go_at_call 17; refine (EventsR_any C2.L _ _ gx ge _ HB.out.2 (HGE.out.keep HB.out.1.u (by simp)) (by have := HLE.out; omega)).mono ?_; rintro e w10 ⟨rfl, hu⟩; have HB2 := Lib.hid (HB.out.1.quiet 33 (by decide) hu); clear hu)
        first | exact hK _ HB2.out | exact HB2.out
      · exact ⟨_, fun _ => rfl, Eq.symm (by go_simp; exact rfl)⟩
      apply headE_val rfl (fun _ => rfl)
      · intro dn r0 K hd hdep hK w9 hB2
        skip
        have HB := Lib.hid (hB2.same 34 (by decide))
        clear hB2 hdep
        simp only [fillE]
        go_wp2_with fail
        first | exact hK _ HB.out | exact HB.out
      · exact ⟨_, fun _ => rfl, Eq.symm (by go_simp; exact rfl)⟩
      apply headE_val rfl (fun _ => rfl)
      · intro dn r0 K hd hdep hK w9 hB2
        skip
        have HB := Lib.hid (hB2.same 35 (by decide))
        clear hB2 hdep
        simp only [fillE]
        go_wp2_with fail
        first | exact hK _ HB.out | exact HB.out
      · exact ⟨_, fun _ => rfl, Eq.symm (by go_simp; exact rfl)⟩
      apply headE_val rfl (fun _ => rfl)
      · intro dn r0 K hd hdep hK w9 hB2
        skip
        have HB := Lib.hid (hB2.same 36 (by decide))
        clear hB2 hdep
        simp only [fillE]
        go_wp2_with fail
        first | exact hK _ HB.out | exact HB.out
      · exact ⟨_, fun _ => rfl, Eq.symm (by go_simp; exact rfl)⟩
      apply headE_val rfl (fun _ => rfl)
      · intro dn r0 K hd hdep hK w9 hB2
        skip
        have HB := Lib.hid (hB2.same 37 (by decide))
        clear hB2 hdep
        simp only [fillE]
        go_wp2_with fail
        first | exact hK _ HB.out | exact HB.out
      · exact ⟨_, fun _ => rfl, Eq.symm (by go_simp; exact rfl)⟩
      apply headE_val rfl (fun _ => rfl)
      · intro dn r0 K hd hdep hK w9 hB2
        skip
        have HB := Lib.hid (hB2.same 38 (by decide))
        clear hB2 hdep
        simp only [fillE]
        go_wp2_with fail
        first | exact hK _ HB.out | exact HB.out
      · exact ⟨_, fun _ => rfl, Eq.symm (by go_simp; exact rfl)⟩
      apply headE_val rfl (fun _ => rfl)
      · intro dn r0 K hd hdep hK w9 hB2
        have HB := Lib.hid hB2
        clear hB2 hdep
        simp only [fillE]
        go_wp2_with (go_at_call 12; refine (alike14_any M2 ma pb rb _ (D6.out.quiet HB.out.u).k.m ((D6.out.quiet HB.out.u).k.ref 3 rfl HR2.out)).mono ?_; rintro e w10 ⟨rfl, hu⟩; have HB2 := Lib.hid (HB.out.quiet 39 (by decide) hu); clear hu)
        first | exact hK _ HB2.out | exact HB2.out
      · exact ⟨_, fun _ => rfl, Eq.symm (by go_simp; exact rfl)⟩
      apply headE_val rfl (fun _ => rfl)
      · intro dn r0 K hd hdep hK w9 hB2
        skip
        have HB := Lib.hid (hB2.same 40 (by decide))
        clear hB2 hdep
        simp only [fillE]
        go_wp2_with fail
        first | exact hK _ HB.out | exact HB.out
      · exact ⟨_, fun _ => rfl, Eq.symm (by go_simp; exact rfl)⟩
      apply headE_val rfl (fun _ => rfl)
      · intro dn r0 K hd hdep hK w9 hB2
        skip
        have HB := Lib.hid (hB2.same 41 (by decide))
        clear hB2 hdep
        simp only [fillE]
        go_wp2_with fail
        first | exact hK _ HB.out | exact HB.out
      · exact ⟨_, fun _ => rfl, Eq.symm (by go_simp; exact rfl)⟩
      refine headE_nil (fun _ r0 w9 dn hall hB2 => ?_)
      have D7 := Lib.hid (D6.out.quiet hB2.u)
      clear hall hB2 D6 hneq bbv bnl bni HGE
      simp only [fillE]
      generalize r0 28 = z28 at *
      go_wp2_with fail
      try simp only [ewq]
      go_roundw
      case rel => exact ⟨q + 1, M2, C2, CR2, _, _, by first | rfl | rw [ewq], Lib.hid (by have := HB1.out; omega), Lib.hid ⟨by have := HC2.out.1; have := HN.out.1; have := HB1.out.1; omega, HC2.out.2⟩, HR2, Lib.hid D7.out.tail.tail⟩
      case measure => have := HB1.out; simp only [intOf]; omega
    · have hqn : q = ln := by have := hq.out; omega
      subst hqn
      have dlt : decide (q < q) = false := by simp
      have HLE := Lib.hid (show C.L.length ≤ 20 by have h1 := HN.out.1; have h2 := HQ.out.1; omega)
      clear hlt
      go_upto_region 18 with (first
        | (have _t := D1; clear _t; go_at_call 19; refine (Copy_kd D1.out (by have := HN.out.2; omega)).mono ?_; rintro e w4 ⟨c', b', g', rfl, h1, h2, h3⟩; have HC2 := Lib.hid (And.intro h1 (And.intro h2 h3)); clear h1 h2 h3)
        | (have _t := HC2; clear _t; go_at_call 8; refine (DoCopy_kd D1.out HC2.out.1 HC2.out.2.1 HC2.out.2.2 (by have := HLE.out; omega)).mono ?_; rintro e w5 ⟨xx, yy, rfl, hk⟩; have D2 := Lib.hid hk; clear hk D1 HC2))
      obtain ⟨ge, hge, _⟩ := D2.out.e
      obtain ⟨eva, evc, rfl⟩ := hge.form
      have HGE := Lib.hid hge
      clear hge
      refine wp_drawE 8 (Qe w5 C.L 1) (fun _ _ => False) (by kernel_rfl) (by decide +kernel) (fun r0 => Qe.start w5 C.L 1 r0) (fun _ _ _ h => h.elim) ?_
      simp only [List.take_succ_cons, List.take_zero, List.drop_succ_cons, List.drop_zero]
      apply headE_val0 rfl rfl
      · intro dn r0 K hd hdep hK w9 hB1
        skip
        have HB := Lib.hid (hB1.same 0 (by decide))
        clear hB1 hdep
        go_wp2_with fail
        first | exact hK _ HB.out | exact HB.out
      · exact ⟨_, rfl⟩
      refine headE_free rfl (fun _ => rfl) 140 rfl (by simp [Act.put]) ?_ ?_
      · intro dn r0 K hd w9 hB2 hK
        have HB := Lib.hid hB2
        clear hB2
        simp only [fillE]
        go_wp2_with (go_at_call 18; refine (Events_kd (D2.out.quiet HB.out.u) (by have := HLE.out; omega)).mono ?_; rintro e w10 ⟨v, gv, rfl, hv, hu⟩; have HB2 := Lib.hid (HB.out.ev hu hv); clear hv hu)
        first | exact hK _ _ HB2.out | exact HB2.out
      apply headE_val rfl (fun _ => rfl)
      · intro dn r0 K hd hdep hK w9 hB2
        skip
        have HB := Lib.hid (hB2.same 2 (by decide))
        clear hB2 hdep
        simp only [fillE]
        go_wp2_with fail
        first | exact hK _ HB.out | exact HB.out
      · exact ⟨_, fun _ => rfl, Eq.symm (by go_simp; exact rfl)⟩
      apply headE_val rfl (fun _ => rfl)
      · intro dn r0 K hd hdep hK w9 hB2
        skip
        have HB := Lib.hid (hB2.same 3 (by decide))
        clear hB2 hdep
        simp only [fillE]
        go_wp2_with fail
        first | exact hK _ HB.out | exact HB.out
      · exact ⟨_, fun _ => rfl, Eq.symm (by go_simp; exact rfl)⟩
      apply headE_val rfl (fun _ => rfl)
      · intro dn r0 K hd hdep hK w9 hB2
        skip
        have HB := Lib.hid (hB2.same 4 (by decide))
        clear hB2 hdep
        simp only [fillE]
        go_wp2_with fail
        first | exact hK _ HB.out | exact HB.out
      · exact ⟨_, fun _ => rfl, Eq.symm (by go_simp; exact rfl)⟩
      apply headE_val rfl (fun _ => rfl)
      · intro dn r0 K hd hdep hK w9 hB2
        have f1 := cells_of (hB2.u.get (D2.out.k.get 0 rfl) (by simp))
        have HB := Lib.hid (hB2.same 5 (by decide))
        clear hB2 hdep
        simp only [fillE]
        go_wp2_with fail
        first | exact hK _ HB.out | exact HB.out
      · exact ⟨_, fun _ => rfl, Eq.symm (by go_simp; exact rfl)⟩
      apply headE_val rfl (fun _ => rfl)
      · intro dn r0 K hd hdep hK w9 hB2
        have h1 : dn 1 = true := hdep ⟨1, .data⟩ (by simp) rfl
        have hev := (hB2.e h1).choose_spec
        generalize (hB2.e h1).choose = gx at hev
        have HB := Lib.hid (And.intro hB2 hev)
        clear hB2 hdep hev
        simp only [fillE]
        go_wp2_with (go_at_call 17; refine (EventsR_any C.L _ _ gx ge _ HB.out.2 (HGE.out.keep HB.out.1.u (by simp)) (by have := HLE.out; omega)).mono ?_; rintro e w10 ⟨rfl, hu⟩; have HB2 := Lib.hid (HB.out.1.quiet 6 (by decide) hu); clear hu)
        first | exact hK _ HB2.out | exact HB2.out
      · exact ⟨_, fun _ => rfl, Eq.symm (by go_simp; exact rfl)⟩
      apply headE_val rfl (fun _ => rfl)
      · intro dn r0 K hd hdep hK w9 hB2
        skip
        have HB := Lib.hid (hB2.same 7 (by decide))
        clear hB2 hdep
        simp only [fillE]
        go_wp2_with fail
        first | exact hK _ HB.out | exact HB.out
      · exact ⟨_, fun _ => rfl, Eq.symm (by go_simp; exact rfl)⟩
      refine headE_nil (fun _ r0 w9 dn hall hB2 => ?_)
      have D7 := Lib.hid (D2.out.quiet hB2.u)
      clear hall hB2 D2 HGE
      simp only [fillE]
      generalize r0 1 = z1 at *
      go_wp2_with fail
      go_ret
      exact ⟨rfl, D7.out.k.u⟩
theorem CallDoes_walk (v0 v1 v2 : Value) (SL : List SpanV) (g0 : Nat) (n : Nat) (T : Nat → St) (lr : List Int) (g2 : Nat) (inp : ByteArray) (w : World) (h0 : SArg w v0 SL g0) (h1 : Rws w v1 17 n (fun i j => (T i).cells.getD j undef)) (hT : ∀ i, i < n → (T i).Ok) (h2 : Rp w v2 lr g2) : Calls Try.prog 4 #[v0, v1, v2, .string inp] w fun e w' => e = .returned (.bool true) ∧ Upd [] w w' := by
  cases q1 : fewB SL
  · exact CallDoes_few v0 v1 v2 SL g0 n T lr g2 inp w h0 h1 hT h2 q1
  · cases q2 : loadB SL
    · exact CallDoes_load v0 v1 v2 SL g0 n T lr g2 inp w h0 h1 hT h2 q1 q2
    · by_cases q3 : 20 < (n : Int)
      · exact CallDoes_long v0 v1 v2 SL g0 n T lr g2 inp w h0 h1 hT h2 q1 q2 q3
      · by_cases q4 : 20 < (lr.length : Int)
        · exact CallDoes_reps v0 v1 v2 SL g0 n T lr g2 inp w h0 h1 hT h2 q1 q2 q3 q4
        · by_cases q5 : 300 < (inp.size : Int)
          · exact CallDoes_inp v0 v1 v2 SL g0 n T lr g2 inp w h0 h1 hT h2 q1 q2 q3 q4 q5
          · exact CallDoes_main v0 v1 v2 SL g0 n T lr g2 inp w h0 h1 hT h2 q1 q2 q3 q4 q5
end Go.Proofs.Ytdgclmibbmofcaa

/-
  The law's check of known answers, by its contract.
-/
namespace Go.Proofs.Ytdgclmibbmofcaa
open Go Go.RowKit
set_option linter.unusedVariables false
set_option linter.unusedSimpArgs false

def k1 : Mem := Mem.zero.mapN (0 : Int).toNat (1 : Int).toNat 3
def k2 : Mem := k1.putN 0 16909060 (widthI 4).toNat

end Go.Proofs.Ytdgclmibbmofcaa

/-
  The law PageBytes: the walk.
-/
namespace Go.Proofs.Ytdgclmibbmofcaa
open Go Go.RowKit
set_option linter.unusedVariables false
set_option linter.unusedSimpArgs false

/-! ### What was written is read. -/
theorem wf_u32 {n : Int} (h : (Lit.int .u32 n).wf = true) : 0 ≤ n ∧ n < 4294967296 := by
  simp [Lit.wf, IntKind.min, IntKind.max, IntKind.signed, IntKind.bits] at h; omega
end Go.Proofs.Ytdgclmibbmofcaa

/-
  The guest's state as an argument of a law, opened. No condition.
-/
namespace Go.Proofs.Ytdgclmibbmofcaa
open Go Go.RowKit Go.WideShapes Go.ChangeShapes
set_option linter.unusedVariables false
set_option linter.unusedSimpArgs false

theorem wf_u64 {n : Int} (h : (Lit.int .u64 n).wf = true) : 0 ≤ n ∧ n < 18446744073709551616 := by
  simp [Lit.wf, IntKind.min, IntKind.max, IntKind.signed, IntKind.bits] at h; omega

end Go.Proofs.Ytdgclmibbmofcaa

/-
  Slices of states as arguments of a law. No condition.
-/
namespace Go.Proofs.Ytdgclmibbmofcaa
open Go Go.RowKit Go.Maps Go.WideShapes Go.ChangeShapes
set_option linter.unusedVariables false
set_option linter.unusedSimpArgs false

def lfS (j : Nat) : Leaf := if j < 9 then .int .u32 else if j < 16 then .bool else .int .u64
set_option maxRecDepth 100000 in
theorem st_of_leaves (f : Nat → Value) (h : ∀ j, j < 17 → LeafOk (lfS j) (f j)) : ∃ s : St, s.Ok ∧ ∀ j, j < 17 → s.cells[j]? = some (f j) := by
  obtain ⟨z0, e0, w0⟩ := h 0 (by decide)
  obtain ⟨z1, e1, w1⟩ := h 1 (by decide)
  obtain ⟨z2, e2, w2⟩ := h 2 (by decide)
  obtain ⟨z3, e3, w3⟩ := h 3 (by decide)
  obtain ⟨z4, e4, w4⟩ := h 4 (by decide)
  obtain ⟨z5, e5, w5⟩ := h 5 (by decide)
  obtain ⟨z6, e6, w6⟩ := h 6 (by decide)
  obtain ⟨z7, e7, w7⟩ := h 7 (by decide)
  obtain ⟨z8, e8, w8⟩ := h 8 (by decide)
  obtain ⟨z9, e9⟩ := h 9 (by decide)
  obtain ⟨z10, e10⟩ := h 10 (by decide)
  obtain ⟨z11, e11⟩ := h 11 (by decide)
  obtain ⟨z12, e12⟩ := h 12 (by decide)
  obtain ⟨z13, e13⟩ := h 13 (by decide)
  obtain ⟨z14, e14⟩ := h 14 (by decide)
  obtain ⟨z15, e15⟩ := h 15 (by decide)
  obtain ⟨z16, e16, w16⟩ := h 16 (by decide)
  have w0 := wf_u32 w0
  have w1 := wf_u32 w1
  have w2 := wf_u32 w2
  have w3 := wf_u32 w3
  have w4 := wf_u32 w4
  have w5 := wf_u32 w5
  have w6 := wf_u32 w6
  have w7 := wf_u32 w7
  have w8 := wf_u32 w8
  have w16 := wf_u64 w16
  refine ⟨⟨fun i => if i = 0 then z0 else if i = 1 then z1 else if i = 2 then z2 else if i = 3 then z3 else if i = 4 then z4 else if i = 5 then z5 else if i = 6 then z6 else if i = 7 then z7 else 0, z8, z9, z10, z11, z12, z13, z14, z15, z16⟩, ⟨?_, w8, w16⟩, ?_⟩
  · intro i
    simp only
    repeat' split
    all_goals omega
  · intro j hj
    match j, hj with
    | 0, _ => rw [e0]; rfl
    | 1, _ => rw [e1]; rfl
    | 2, _ => rw [e2]; rfl
    | 3, _ => rw [e3]; rfl
    | 4, _ => rw [e4]; rfl
    | 5, _ => rw [e5]; rfl
    | 6, _ => rw [e6]; rfl
    | 7, _ => rw [e7]; rfl
    | 8, _ => rw [e8]; rfl
    | 9, _ => rw [e9]; rfl
    | 10, _ => rw [e10]; rfl
    | 11, _ => rw [e11]; rfl
    | 12, _ => rw [e12]; rfl
    | 13, _ => rw [e13]; rfl
    | 14, _ => rw [e14]; rfl
    | 15, _ => rw [e15]; rfl
    | 16, _ => rw [e16]; rfl
    | j + 17, h => omega
set_option maxRecDepth 100000 in
/-- Rows of states. -/
theorem open_states {H : Type} {enc : TypeId × Value → H} {w : World} {t : TypeId} (ht : Try.prog.underlying t = some (.slice 39)) {b0 : Nat} {v : Value} {d : DataW H} {p : List MemPlace}
    (hval : Value.okWide Try.prog w .any b0 t v) (h : DataW.Trod enc Try.prog w 0 (fun _ => true) true t v d p) : ∃ (n : Nat) (T : Nat → St), Rws w v 17 n (fun i j => (T i).cells.getD j undef) ∧ ∀ i, i < n → (T i).Ok := by
  have l0 : leafAt Try.prog 8 39 0 = some (.int .u32) := by kernel_rfl
  have l1 : leafAt Try.prog 8 39 1 = some (.int .u32) := by kernel_rfl
  have l2 : leafAt Try.prog 8 39 2 = some (.int .u32) := by kernel_rfl
  have l3 : leafAt Try.prog 8 39 3 = some (.int .u32) := by kernel_rfl
  have l4 : leafAt Try.prog 8 39 4 = some (.int .u32) := by kernel_rfl
  have l5 : leafAt Try.prog 8 39 5 = some (.int .u32) := by kernel_rfl
  have l6 : leafAt Try.prog 8 39 6 = some (.int .u32) := by kernel_rfl
  have l7 : leafAt Try.prog 8 39 7 = some (.int .u32) := by kernel_rfl
  have l8 : leafAt Try.prog 8 39 8 = some (.int .u32) := by kernel_rfl
  have l9 : leafAt Try.prog 8 39 9 = some (.bool) := by kernel_rfl
  have l10 : leafAt Try.prog 8 39 10 = some (.bool) := by kernel_rfl
  have l11 : leafAt Try.prog 8 39 11 = some (.bool) := by kernel_rfl
  have l12 : leafAt Try.prog 8 39 12 = some (.bool) := by kernel_rfl
  have l13 : leafAt Try.prog 8 39 13 = some (.bool) := by kernel_rfl
  have l14 : leafAt Try.prog 8 39 14 = some (.bool) := by kernel_rfl
  have l15 : leafAt Try.prog 8 39 15 = some (.bool) := by kernel_rfl
  have l16 : leafAt Try.prog 8 39 16 = some (.int .u64) := by kernel_rfl
  have hl : ∀ j, j < 17 → leafAt Try.prog 8 39 j = some (lfS j) := by
    intro j hj
    match j, hj with
    | 0, _ => exact l0
    | 1, _ => exact l1
    | 2, _ => exact l2
    | 3, _ => exact l3
    | 4, _ => exact l4
    | 5, _ => exact l5
    | 6, _ => exact l6
    | 7, _ => exact l7
    | 8, _ => exact l8
    | 9, _ => exact l9
    | 10, _ => exact l10
    | 11, _ => exact l11
    | 12, _ => exact l12
    | 13, _ => exact l13
    | 14, _ => exact l14
    | 15, _ => exact l15
    | 16, _ => exact l16
    | j + 17, h => omega
  obtain ⟨n, F, h1, h2⟩ := open_rws 17 lfS ht (by kernel_rfl) (by decide) hl hval h
  have h3 : ∀ i, ∃ s : St, i < n → s.Ok ∧ ∀ j, j < 17 → s.cells[j]? = some (F i j) := fun i => by
    by_cases hi : i < n
    · obtain ⟨s, hs⟩ := st_of_leaves (F i) (h2 i hi)
      exact ⟨s, fun _ => hs⟩
    · exact ⟨St.zero, fun a => absurd a hi⟩
  obtain ⟨T, hT⟩ := Classical.axiomOfChoice h3
  refine ⟨n, T, ⟨?_, h1.len⟩, fun i hi => (hT i hi).1⟩
  rcases h1.form with h | ⟨g, o, c, e1, e2, e3⟩
  · exact .inl h
  · refine .inr ⟨g, o, c, e1, e2, fun i hi j hj => ?_⟩
    rw [e3 i hi j hj, Array.getD_eq_getD_getElem?, (hT i hi).2 j hj]; rfl
end Go.Proofs.Ytdgclmibbmofcaa
