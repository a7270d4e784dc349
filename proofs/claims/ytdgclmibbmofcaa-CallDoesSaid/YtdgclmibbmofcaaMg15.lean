/-
  The document's calls: Do, each kind of call. No condition. Printed by gen_rcj.py.
-/
import Derived.Test.YtdgclmibbmofcaaMg13
import Derived.Test.YtdgclmibbmofcaaMg14
import Derived.Test.YtdgclmibbmofcaaMg12
import Derived.Test.YtdgclmibbmofcaaMg11
namespace Go.Proofs.Ytdgclmibbmofcaa
open Go Go.RowKit Go.Maps
set_option linter.unusedVariables false
set_option linter.unusedSimpArgs false

set_option maxRecDepth 100000 in
set_option maxHeartbeats 8000000 in
theorem DoR_pages91 (M : Mem) (rb d g1 g2 : Nat) (l : List Int) (inp : ByteArray) (L : List Ev) (rv ev : Value) (CR : Array Value) (s : St) (w : World) (hh : HoldsR CR M ∧ M.Ok) (hd0 : w.heap[d]? = some (.cells #[rv, .string inp, ev] 57 (0, 0))) (hr0 : w.heap[rb]? = some (.cells CR 30 (0, 0))) (ne : rb ≠ d) (hr : Rp w rv l g1) (he : ESl w ev L g2) (n1 : g1 ≠ d ∧ g1 ≠ rb ∧ g2 ≠ d ∧ g2 ≠ rb) (hs : s.Ok) (hn : L.length < 100) (hq : s.R 0 = 91) :
    Calls Try.prog 15 #[.pointer (some ⟨d, 0, none⟩), .pointer (some ⟨rb, 0, none⟩), .agg s.cells] w fun e w' => ∃ (rv2 ev2 : Value) (CR2 : Array Value) (g3 : Nat), e = .returned (.tuple #[.agg (s.setR 0 (chR M (s.R 0) (s.R 3) (s.R 1) (s.R 2))).cells, .bool false]) ∧ (HoldsR CR2 (chM M (s.R 0) (s.R 3) (s.R 1) (s.R 2)) ∧ ((chM M (s.R 0) (s.R 3) (s.R 1) (s.R 2))).Ok) ∧ w'.heap[d]? = some (.cells #[rv2, .string inp, ev2] 57 (0, 0)) ∧ w'.heap[rb]? = some (.cells CR2 30 (0, 0)) ∧ Rp w' rv2 l g1 ∧ ESl w' ev2 (L ++ [⟨s.R 0, s.R 3, s.R 1, s.R 2, (chR M (s.R 0) (s.R 3) (s.R 1) (s.R 2)), ByteArray.empty⟩]) g3 ∧ w.heap.size ≤ g3 ∧ Upd [rb, d] w w' := by
  have HR0 := Lib.hid hr
  have hsR := hs.R
  obtain ⟨x0, h0⟩ : ∃ x, s.R 0 = x := ⟨_, rfl⟩
  obtain ⟨x1, h1⟩ : ∃ x, s.R 1 = x := ⟨_, rfl⟩
  obtain ⟨x2, h2⟩ : ∃ x, s.R 2 = x := ⟨_, rfl⟩
  obtain ⟨x3, h3⟩ : ∃ x, s.R 3 = x := ⟨_, rfl⟩
  have hx0 := hsR 0
  have hx1 := hsR 1
  have hx2 := hsR 2
  have hx3 := hsR 3
  rw [h0] at hx0
  rw [h1] at hx1
  rw [h2] at hx2
  rw [h3] at hx3
  rw [h0] at hq
  have HX := Lib.hid (And.intro hx0 (And.intro hx1 (And.intro hx2 hx3)))
  have K0 := Lib.hid (hs_two hd0 hr0 (fun e => ne e.symm))
  have HH := Lib.hid hh
  have HE := Lib.hid (And.intro he (And.intro hn n1))
  have q1 : (x0 == 1) = false := by simp; omega
  have q3 : (x0 == 3) = false := by simp; omega
  have q4 : (x0 == 4) = false := by simp; omega
  have q91 : (x0 == 91) = true := by simp; omega
  have q125 : (x0 == 125) = false := by simp; omega
  have q192 : (x0 == 192) = false := by simp; omega
  have c0 : ∀ o1, (w.alloc (.cells s.cells 39) |>.alloc o1).cell? ⟨w.heap.size, 0, none⟩ = some (.int .u32 x0) := fun o1 => by rw [cells_of (heap_alloc2_old w (.cells s.cells 39) o1), St.cR s 0 (by decide), h0]
  have c1 : ∀ o1, (w.alloc (.cells s.cells 39) |>.alloc o1).cell? ⟨w.heap.size, 1, none⟩ = some (.int .u32 x1) := fun o1 => by rw [cells_of (heap_alloc2_old w (.cells s.cells 39) o1), St.cR s 1 (by decide), h1]
  have c2 : ∀ o1, (w.alloc (.cells s.cells 39) |>.alloc o1).cell? ⟨w.heap.size, 2, none⟩ = some (.int .u32 x2) := fun o1 => by rw [cells_of (heap_alloc2_old w (.cells s.cells 39) o1), St.cR s 2 (by decide), h2]
  have c3 : ∀ o1, (w.alloc (.cells s.cells 39) |>.alloc o1).cell? ⟨w.heap.size, 3, none⟩ = some (.int .u32 x3) := fun o1 => by rw [cells_of (heap_alloc2_old w (.cells s.cells 39) o1), St.cR s 3 (by decide), h3]
  have H03 := Lib.hid (And.intro h0 (And.intro h1 (And.intro h2 h3)))
  clear hs hsR hx0 hx1 hx2 hx3 h0 h1 h2 h3 hd0 hr0 hh ne hr he n1 hn hq
  go_enter Try.func15, Try.ntmps15
  go_upto_region 3 with fail
  have hk := ((K0.out.lay s.cells 39).lay St.zero.cells 39).lay #[.int .u32 x0, .int .u32 x3, .int .u32 x1, .int .u32 x2, .int .u32 0, .string ByteArray.empty] 70
  simp at hk
  refine wp_world (B := fun w1 => Hs [rb, d] w [((w.heap.size + 1 + 1), .cells (evC x0 x3 x1 x2 (0) (ByteArray.empty)) 70 (0, 0)), ((w.heap.size + 1), .cells St.zero.cells 39 (0, 0)), (w.heap.size, .cells (St.cells (s)) 39 (0, 0)), (d, .cells #[rv, .string (inp), ev] 57 (0, 0)), (rb, .cells CR 30 (0, 0))] w1) hk ?_
  intro w1 hk1
  have K1 := Lib.hid hk1
  clear hk hk1 c0 c1 c2 c3 K0
  have f3 := evC_cells (K1.out.get 0 rfl)
  have f4 := free_of (K1.out.get 0 rfl)
  go_upto_region 18 with (have _t := K1; clear _t; go_at_call 38; refine (rpchanges_any M rb x0 x3 x1 x2 0 ByteArray.empty _ (K1.out.ref 4 rfl HH.out) HX.out.2.2.2 HX.out.2.1 HX.out.2.2.1).mono ?_; rintro e w2 ⟨rfl, hm, hu⟩; obtain ⟨CR2, hh2, hk⟩ := K1.out.refPut 4 rfl hm hu; have K2 := Lib.hid hk; have HR2 := Lib.hid hh2; clear f3 f4; have f3 := evC_cells (K2.out.get 0 rfl); have f4 := free_of (K2.out.get 0 rfl); clear hm hu hh2 hk K1)
  have hk := K2.out.cell 0 rfl 4 (.int .u32 (chR M x0 x3 x1 x2))
  refine wp_world (B := fun w1 => Hs [rb, d] w [((w.heap.size + 1 + 1), .cells (evC x0 x3 x1 x2 (chR M x0 x3 x1 x2) (ByteArray.empty)) 70 (0, 0)), ((w.heap.size + 1), .cells St.zero.cells 39 (0, 0)), (w.heap.size, .cells (St.cells (s)) 39 (0, 0)), (d, .cells #[rv, .string (inp), ev] 57 (0, 0)), (rb, .cells CR2 30 (0, 0))] w1) hk ?_
  intro wK3 hk1
  have K3 := Lib.hid hk1
  clear hk hk1 K2 f3 f4
  have f3 := evC_cells (K3.out.get 0 rfl)
  have f5 := free_of (K3.out.get 2 rfl)
  have f6 := (cells_of (K3.out.get 2 rfl) 0).trans (St.cR s 0 (by decide))
  rw [H03.out.1] at f6
  go_upto_region 19 with fail
  have hk := K3.out.cell 2 rfl 0 (.int .u32 (chR M x0 x3 x1 x2))
  dsimp only [List.set] at hk
  rw [St.cells_setR s 0 _ (by decide)] at hk
  refine wp_world (B := fun w1 => Hs [rb, d] w [((w.heap.size + 1 + 1), .cells (evC x0 x3 x1 x2 (chR M x0 x3 x1 x2) (ByteArray.empty)) 70 (0, 0)), ((w.heap.size + 1), .cells St.zero.cells 39 (0, 0)), (w.heap.size, .cells (St.cells (s.setR 0 (chR M x0 x3 x1 x2))) 39 (0, 0)), (d, .cells #[rv, .string (inp), ev] 57 (0, 0)), (rb, .cells CR2 30 (0, 0))] w1) hk ?_
  intro wA hk1
  have KA := Lib.hid hk1
  clear hk hk1 K3 f3 f5 f6
  have HXD := Lib.hid (show (w.heap.size + 1 + 1) ≠ d from KA.out.ne 0 3 rfl rfl (by decide))
  have HEA := Lib.hid (HE.out.1.keep KA.out.u (by have h := HE.out.2.2; simp; omega))
  have HEL := Lib.hid (show L.length ≤ 9000 by have := HE.out.2.1; omega)
  refine wp_drawE 12 (Ke wA d L ⟨x0, x3, x1, x2, chR M x0 x3 x1 x2, ByteArray.empty⟩ #[rv, .string (inp), ev]) (fun _ _ => False) (by kernel_rfl) (by decide +kernel) (fun r0 => Ke.start (KA.out.get 3 rfl) r0) (fun _ _ _ h => h.elim) ?_
  simp only [List.take_succ_cons, List.take_zero, List.drop_succ_cons, List.drop_zero]
  apply headE_val0 rfl rfl
  · intro dn r0 K hd hdep hK w5 hB1
    skip
    have HB := Lib.hid (hB1.same 0 (by decide))
    clear hB1 hdep
    go_wp2_with fail
    first | exact hK _ HB.out | exact HB.out
  · exact ⟨_, rfl⟩
  apply headE_val0 rfl rfl
  · intro dn r0 K hd hdep hK w5 hB1
    skip
    have HB := Lib.hid (hB1.same 1 (by decide))
    clear hB1 hdep
    go_wp2_with fail
    first | exact hK _ HB.out | exact HB.out
  · exact ⟨_, rfl⟩
  apply headE_val0 rfl rfl
  · intro dn r0 K hd hdep hK w5 hB1
    skip
    have HB := Lib.hid (hB1.same 2 (by decide))
    clear hB1 hdep
    go_wp2_with fail
    first | exact hK _ HB.out | exact HB.out
  · exact ⟨_, rfl⟩
  apply headE_val0 rfl rfl
  · intro dn r0 K hd hdep hK w5 hB1
    skip
    have HB := Lib.hid (hB1.same 3 (by decide))
    clear hB1 hdep
    go_wp2_with fail
    first | exact hK _ HB.out | exact HB.out
  · exact ⟨_, rfl⟩
  apply headE_val0 rfl rfl
  · intro dn r0 K hd hdep hK w5 hB1
    have f1 := cells_of (hB1.at4 hd)
    have HB := Lib.hid (hB1.same 4 (by decide))
    clear hB1 hdep
    go_wp2_with fail
    first | exact hK _ HB.out | exact HB.out
  · exact ⟨_, rfl⟩
  refine headE_freeD rfl (fun _ => rfl) 80 rfl (by simp [Act.put]) ?_ ?_
  · intro dn r0 K hd hdep w5 hB2 hK
    have h4 : dn 4 = true := hdep ⟨4, .data⟩ (by simp) rfl
    refine wp_append_ev _ _ rfl wA.heap.size (.slice none 0 0) [] rfl (ownE_nil _ _) ev L g2 rfl (HEA.out.keep hB2.u (by have h := HE.out.2.2.2.2.1; simpa using h)) (by have := HEL.out; simp; omega) hB2.u.size ?_
    intro v' w6 ho hu
    rw [List.nil_append] at ho
    exact hK _ _ (hB2.first hd h4 ho hu)
  apply headE_val rfl (fun _ => rfl)
  · intro dn r0 K hd hdep hK w5 hB2
    have f3 := evC_cells (hB2.u.get (KA.out.get 0 rfl) (by have := HXD.out; simpa using this))
    have HB := Lib.hid (hB2.same 6 (by decide))
    clear hB2 hdep
    simp only [fillE]
    go_wp2_with fail
    first | exact hK _ HB.out | exact HB.out
  · exact ⟨_, fun _ => rfl, Eq.symm (by go_simp; exact rfl)⟩
  refine headE_freeD rfl (fun _ => rfl) 82 rfl (by simp [Act.put]) ?_ ?_
  · intro dn r0 K hd hdep w5 hB2 hK
    refine wp_buildEv ⟨x0, x3, x1, x2, chR M x0 x3 x1 x2, ByteArray.empty⟩ _ rfl rfl ?_
    exact hK _ _ (hB2.lit hd)
  refine headE_freeD rfl (fun _ => rfl) 83 rfl (by simp [Act.put]) ?_ ?_
  · intro dn r0 K hd hdep w5 hB2 hK
    have h5 : dn 5 = true := hdep ⟨5, .data⟩ (by simp) rfl
    have h7 : dn 7 = true := hdep ⟨7, .data⟩ (by simp) rfl
    obtain ⟨g7, e7, b7⟩ := hB2.b hd h7
    refine wp_append_ev _ _ rfl wA.heap.size (r0 5) L rfl (hB2.a hd h5) (r0 7) [⟨x0, x3, x1, x2, chR M x0 x3 x1 x2, ByteArray.empty⟩] g7 rfl (by rw [e7]; exact esl_one b7) (by have := HEL.out; simp; omega) hB2.u.size ?_
    intro v' w6 ho hu
    exact hK _ _ (hB2.second hd h5 h7 ho hu)
  apply headE_val rfl (fun _ => rfl)
  · intro dn r0 K hd hdep hK w5 hB2
    have HB := Lib.hid (hB2.same 9 (by decide))
    clear hB2 hdep
    simp only [fillE]
    go_wp2_with fail
    first | exact hK _ HB.out | exact HB.out
  · exact ⟨_, fun _ => rfl, Eq.symm (by go_simp; exact rfl)⟩
  apply headE_val rfl (fun _ => rfl)
  · intro dn r0 K hd hdep hK w5 hB2
    have HB := Lib.hid (hB2.same 10 (by decide))
    clear hB2 hdep
    simp only [fillE]
    go_wp2_with fail
    first | exact hK _ HB.out | exact HB.out
  · exact ⟨_, fun _ => rfl, Eq.symm (by go_simp; exact rfl)⟩
  apply headE_val rfl (fun _ => rfl)
  · intro dn r0 K hd hdep hK w5 hB2
    have h8 : dn 8 = true := hdep ⟨8, .data⟩ (by simp) rfl
    have e8 := (hB2.c h8).form2
    generalize slA (r0 8) = a8 at e8
    generalize slC (r0 8) = k8 at e8
    have hdd := hB2.dd
    rw [hd] at hdd
    have f1 := (cells_of hdd 2)
    have f4 := free_of hdd
    have HB := Lib.hid (hB2.store hd h8)
    have E8 := Lib.hid e8
    clear hB2 hdep hdd h8
    simp only [fillE]
    rw [e8]
    clear e8
    simp only [Bool.false_eq_true, if_false] at f1 f4
    go_wp2_with fail
    rw [← E8.out]
    first | exact hK _ HB.out | exact HB.out
  · exact ⟨undef, fun _ => rfl, Eq.symm (by go_simp; exact rfl)⟩
  refine headE_nil (fun _ r0 wB dn hall hB2 => ?_)
  have ho := hB2.c (hall 8 (by decide))
  obtain ⟨a8, k8, e8⟩ := ho.form
  rw [List.length_append, List.length_singleton] at e8
  have hdd := hB2.dd
  rw [hall 11 (by decide), if_pos rfl] at hdd
  have hk := KA.out.put 3 rfl hB2.u hdd
  dsimp only [List.set] at hk
  rw [e8] at hk ho
  obtain ⟨g3, hes, hg3⟩ := ho.esl
  have e2s : (#[rv, .string (inp), ev] : Array Value).setIfInBounds 2 (.slice a8 (L.length + 1) k8) = #[rv, .string (inp), .slice a8 (L.length + 1) k8] := rfl
  rw [e2s] at hk
  have KB := Lib.hid (show Hs [rb, d] w [((w.heap.size + 1 + 1), .cells (evC x0 x3 x1 x2 (chR M x0 x3 x1 x2) (ByteArray.empty)) 70 (0, 0)), ((w.heap.size + 1), .cells St.zero.cells 39 (0, 0)), (w.heap.size, .cells (St.cells (s.setR 0 (chR M x0 x3 x1 x2))) 39 (0, 0)), (d, .cells #[rv, .string (inp), (.slice a8 (L.length + 1) k8)] 57 (0, 0)), (rb, .cells CR2 30 (0, 0))] _ from hk)
  have HES := Lib.hid (And.intro hes (And.intro (Nat.le_trans KA.out.u.size hg3) (Nat.lt_of_lt_of_le (lt_of_heap (KA.out.get 1 rfl)) hg3)))
  have d200 : decide (200 < ((L.length + 1 : Nat) : Int)) = false := by have := HE.out.2.1; simp; omega
  obtain ⟨ln, hln⟩ : ∃ ln : Nat, L.length + 1 = ln := ⟨_, rfl⟩
  have f1 := cells_of (KB.out.get 3 rfl)
  rw [hln] at d200 f1
  clear hall hB2 hk hdd ho hes hg3 HEA KA e8
  simp only [fillE]
  generalize r0 5 = z5 at *
  generalize r0 7 = z7 at *
  generalize r0 8 = z8 at *
  have tk1 : True := trivial
  have tk2 : True := trivial
  go_wp2_with (first
    | (have _t := tk1; clear _t; refine at_load 39 rfl ?_; refine wpList_load_state (s.setR 0 (chR M x0 x3 x1 x2)) w.heap.size rfl _ rfl rfl (KB.out.get 2 rfl) ?_; clear tk1)
    | (have _t := tk2; clear _t; refine at_store 39 rfl ?_; refine wpList_store_state' (s.setR 0 (chR M x0 x3 x1 x2)) (w.heap.size + 1) rfl _ _ rfl rfl rfl (KB.out.get 1 rfl) rfl ?_; intro wD hw; have KC := Lib.hid (KB.out.put (w2 := wD) (o' := .cells (St.cells (s.setR 0 (chR M x0 x3 x1 x2))) 39 (0, 0)) 1 rfl (by rw [← hw]; exact (Upd.refl [w.heap.size + 1] wB).setCells (q := w.heap.size + 1) (.inl (by simp)) _ _) (by rw [← hw]; exact heap_store_state (s.setR 0 (chR M x0 x3 x1 x2)) (KB.out.get 1 rfl) rfl)); have HU := Lib.hid (show Upd [w.heap.size + 1] wB wD from (by rw [← hw]; exact (Upd.refl [w.heap.size + 1] wB).setCells (q := w.heap.size + 1) (.inl (by simp)) _ _)); clear hw tk2))
  refine bodyPost_ret (results_two' rfl (res_stateC 6 (w.heap.size + 1) (s.setR 0 (chR M x0 x3 x1 x2)) rfl (KC.out.get 1 rfl)) (res_tmp 7 rfl)) rfl ?_
  obtain ⟨h0, h1, h2, h3⟩ := H03.out
  rw [h0, h1, h2, h3]
  have hn := HE.out.2.2
  refine ⟨rfl, rv, _, CR2, HR2.out, KC.out.get 3 rfl, KC.out.get 4 rfl, HR0.out.keep KC.out.u (by have h := HE.out.2.2; simp; omega), g3, HES.out.1.keep HU.out ?_, HES.out.2.1, KC.out.u⟩
  have hlt := HES.out.2.2
  simp; omega
set_option maxRecDepth 100000 in
set_option maxHeartbeats 8000000 in
theorem DoR_pages125 (M : Mem) (rb d g1 g2 : Nat) (l : List Int) (inp : ByteArray) (L : List Ev) (rv ev : Value) (CR : Array Value) (s : St) (w : World) (hh : HoldsR CR M ∧ M.Ok) (hd0 : w.heap[d]? = some (.cells #[rv, .string inp, ev] 57 (0, 0))) (hr0 : w.heap[rb]? = some (.cells CR 30 (0, 0))) (ne : rb ≠ d) (hr : Rp w rv l g1) (he : ESl w ev L g2) (n1 : g1 ≠ d ∧ g1 ≠ rb ∧ g2 ≠ d ∧ g2 ≠ rb) (hs : s.Ok) (hn : L.length < 100) (hq : s.R 0 = 125) :
    Calls Try.prog 15 #[.pointer (some ⟨d, 0, none⟩), .pointer (some ⟨rb, 0, none⟩), .agg s.cells] w fun e w' => ∃ (rv2 ev2 : Value) (CR2 : Array Value) (g3 : Nat), e = .returned (.tuple #[.agg (s.setR 0 (chR M (s.R 0) (s.R 3) (s.R 1) (s.R 2))).cells, .bool false]) ∧ (HoldsR CR2 (chM M (s.R 0) (s.R 3) (s.R 1) (s.R 2)) ∧ ((chM M (s.R 0) (s.R 3) (s.R 1) (s.R 2))).Ok) ∧ w'.heap[d]? = some (.cells #[rv2, .string inp, ev2] 57 (0, 0)) ∧ w'.heap[rb]? = some (.cells CR2 30 (0, 0)) ∧ Rp w' rv2 l g1 ∧ ESl w' ev2 (L ++ [⟨s.R 0, s.R 3, s.R 1, s.R 2, (chR M (s.R 0) (s.R 3) (s.R 1) (s.R 2)), ByteArray.empty⟩]) g3 ∧ w.heap.size ≤ g3 ∧ Upd [rb, d] w w' := by
  have HR0 := Lib.hid hr
  have hsR := hs.R
  obtain ⟨x0, h0⟩ : ∃ x, s.R 0 = x := ⟨_, rfl⟩
  obtain ⟨x1, h1⟩ : ∃ x, s.R 1 = x := ⟨_, rfl⟩
  obtain ⟨x2, h2⟩ : ∃ x, s.R 2 = x := ⟨_, rfl⟩
  obtain ⟨x3, h3⟩ : ∃ x, s.R 3 = x := ⟨_, rfl⟩
  have hx0 := hsR 0
  have hx1 := hsR 1
  have hx2 := hsR 2
  have hx3 := hsR 3
  rw [h0] at hx0
  rw [h1] at hx1
  rw [h2] at hx2
  rw [h3] at hx3
  rw [h0] at hq
  have HX := Lib.hid (And.intro hx0 (And.intro hx1 (And.intro hx2 hx3)))
  have K0 := Lib.hid (hs_two hd0 hr0 (fun e => ne e.symm))
  have HH := Lib.hid hh
  have HE := Lib.hid (And.intro he (And.intro hn n1))
  have q1 : (x0 == 1) = false := by simp; omega
  have q3 : (x0 == 3) = false := by simp; omega
  have q4 : (x0 == 4) = false := by simp; omega
  have q91 : (x0 == 91) = false := by simp; omega
  have q125 : (x0 == 125) = true := by simp; omega
  have q192 : (x0 == 192) = false := by simp; omega
  have c0 : ∀ o1, (w.alloc (.cells s.cells 39) |>.alloc o1).cell? ⟨w.heap.size, 0, none⟩ = some (.int .u32 x0) := fun o1 => by rw [cells_of (heap_alloc2_old w (.cells s.cells 39) o1), St.cR s 0 (by decide), h0]
  have c1 : ∀ o1, (w.alloc (.cells s.cells 39) |>.alloc o1).cell? ⟨w.heap.size, 1, none⟩ = some (.int .u32 x1) := fun o1 => by rw [cells_of (heap_alloc2_old w (.cells s.cells 39) o1), St.cR s 1 (by decide), h1]
  have c2 : ∀ o1, (w.alloc (.cells s.cells 39) |>.alloc o1).cell? ⟨w.heap.size, 2, none⟩ = some (.int .u32 x2) := fun o1 => by rw [cells_of (heap_alloc2_old w (.cells s.cells 39) o1), St.cR s 2 (by decide), h2]
  have c3 : ∀ o1, (w.alloc (.cells s.cells 39) |>.alloc o1).cell? ⟨w.heap.size, 3, none⟩ = some (.int .u32 x3) := fun o1 => by rw [cells_of (heap_alloc2_old w (.cells s.cells 39) o1), St.cR s 3 (by decide), h3]
  have H03 := Lib.hid (And.intro h0 (And.intro h1 (And.intro h2 h3)))
  clear hs hsR hx0 hx1 hx2 hx3 h0 h1 h2 h3 hd0 hr0 hh ne hr he n1 hn hq
  go_enter Try.func15, Try.ntmps15
  go_upto_region 3 with fail
  have hk := ((K0.out.lay s.cells 39).lay St.zero.cells 39).lay #[.int .u32 x0, .int .u32 x3, .int .u32 x1, .int .u32 x2, .int .u32 0, .string ByteArray.empty] 70
  simp at hk
  refine wp_world (B := fun w1 => Hs [rb, d] w [((w.heap.size + 1 + 1), .cells (evC x0 x3 x1 x2 (0) (ByteArray.empty)) 70 (0, 0)), ((w.heap.size + 1), .cells St.zero.cells 39 (0, 0)), (w.heap.size, .cells (St.cells (s)) 39 (0, 0)), (d, .cells #[rv, .string (inp), ev] 57 (0, 0)), (rb, .cells CR 30 (0, 0))] w1) hk ?_
  intro w1 hk1
  have K1 := Lib.hid hk1
  clear hk hk1 c0 c1 c2 c3 K0
  have f3 := evC_cells (K1.out.get 0 rfl)
  have f4 := free_of (K1.out.get 0 rfl)
  go_upto_region 18 with (have _t := K1; clear _t; go_at_call 38; refine (rpchanges_any M rb x0 x3 x1 x2 0 ByteArray.empty _ (K1.out.ref 4 rfl HH.out) HX.out.2.2.2 HX.out.2.1 HX.out.2.2.1).mono ?_; rintro e w2 ⟨rfl, hm, hu⟩; obtain ⟨CR2, hh2, hk⟩ := K1.out.refPut 4 rfl hm hu; have K2 := Lib.hid hk; have HR2 := Lib.hid hh2; clear f3 f4; have f3 := evC_cells (K2.out.get 0 rfl); have f4 := free_of (K2.out.get 0 rfl); clear hm hu hh2 hk K1)
  have hk := K2.out.cell 0 rfl 4 (.int .u32 (chR M x0 x3 x1 x2))
  refine wp_world (B := fun w1 => Hs [rb, d] w [((w.heap.size + 1 + 1), .cells (evC x0 x3 x1 x2 (chR M x0 x3 x1 x2) (ByteArray.empty)) 70 (0, 0)), ((w.heap.size + 1), .cells St.zero.cells 39 (0, 0)), (w.heap.size, .cells (St.cells (s)) 39 (0, 0)), (d, .cells #[rv, .string (inp), ev] 57 (0, 0)), (rb, .cells CR2 30 (0, 0))] w1) hk ?_
  intro wK3 hk1
  have K3 := Lib.hid hk1
  clear hk hk1 K2 f3 f4
  have f3 := evC_cells (K3.out.get 0 rfl)
  have f5 := free_of (K3.out.get 2 rfl)
  have f6 := (cells_of (K3.out.get 2 rfl) 0).trans (St.cR s 0 (by decide))
  rw [H03.out.1] at f6
  go_upto_region 19 with fail
  have hk := K3.out.cell 2 rfl 0 (.int .u32 (chR M x0 x3 x1 x2))
  dsimp only [List.set] at hk
  rw [St.cells_setR s 0 _ (by decide)] at hk
  refine wp_world (B := fun w1 => Hs [rb, d] w [((w.heap.size + 1 + 1), .cells (evC x0 x3 x1 x2 (chR M x0 x3 x1 x2) (ByteArray.empty)) 70 (0, 0)), ((w.heap.size + 1), .cells St.zero.cells 39 (0, 0)), (w.heap.size, .cells (St.cells (s.setR 0 (chR M x0 x3 x1 x2))) 39 (0, 0)), (d, .cells #[rv, .string (inp), ev] 57 (0, 0)), (rb, .cells CR2 30 (0, 0))] w1) hk ?_
  intro wA hk1
  have KA := Lib.hid hk1
  clear hk hk1 K3 f3 f5 f6
  have HXD := Lib.hid (show (w.heap.size + 1 + 1) ≠ d from KA.out.ne 0 3 rfl rfl (by decide))
  have HEA := Lib.hid (HE.out.1.keep KA.out.u (by have h := HE.out.2.2; simp; omega))
  have HEL := Lib.hid (show L.length ≤ 9000 by have := HE.out.2.1; omega)
  refine wp_drawE 12 (Ke wA d L ⟨x0, x3, x1, x2, chR M x0 x3 x1 x2, ByteArray.empty⟩ #[rv, .string (inp), ev]) (fun _ _ => False) (by kernel_rfl) (by decide +kernel) (fun r0 => Ke.start (KA.out.get 3 rfl) r0) (fun _ _ _ h => h.elim) ?_
  simp only [List.take_succ_cons, List.take_zero, List.drop_succ_cons, List.drop_zero]
  apply headE_val0 rfl rfl
  · intro dn r0 K hd hdep hK w5 hB1
    skip
    have HB := Lib.hid (hB1.same 0 (by decide))
    clear hB1 hdep
    go_wp2_with fail
    first | exact hK _ HB.out | exact HB.out
  · exact ⟨_, rfl⟩
  apply headE_val0 rfl rfl
  · intro dn r0 K hd hdep hK w5 hB1
    skip
    have HB := Lib.hid (hB1.same 1 (by decide))
    clear hB1 hdep
    go_wp2_with fail
    first | exact hK _ HB.out | exact HB.out
  · exact ⟨_, rfl⟩
  apply headE_val0 rfl rfl
  · intro dn r0 K hd hdep hK w5 hB1
    skip
    have HB := Lib.hid (hB1.same 2 (by decide))
    clear hB1 hdep
    go_wp2_with fail
    first | exact hK _ HB.out | exact HB.out
  · exact ⟨_, rfl⟩
  apply headE_val0 rfl rfl
  · intro dn r0 K hd hdep hK w5 hB1
    skip
    have HB := Lib.hid (hB1.same 3 (by decide))
    clear hB1 hdep
    go_wp2_with fail
    first | exact hK _ HB.out | exact HB.out
  · exact ⟨_, rfl⟩
  apply headE_val0 rfl rfl
  · intro dn r0 K hd hdep hK w5 hB1
    have f1 := cells_of (hB1.at4 hd)
    have HB := Lib.hid (hB1.same 4 (by decide))
    clear hB1 hdep
    go_wp2_with fail
    first | exact hK _ HB.out | exact HB.out
  · exact ⟨_, rfl⟩
  refine headE_freeD rfl (fun _ => rfl) 80 rfl (by simp [Act.put]) ?_ ?_
  · intro dn r0 K hd hdep w5 hB2 hK
    have h4 : dn 4 = true := hdep ⟨4, .data⟩ (by simp) rfl
    refine wp_append_ev _ _ rfl wA.heap.size (.slice none 0 0) [] rfl (ownE_nil _ _) ev L g2 rfl (HEA.out.keep hB2.u (by have h := HE.out.2.2.2.2.1; simpa using h)) (by have := HEL.out; simp; omega) hB2.u.size ?_
    intro v' w6 ho hu
    rw [List.nil_append] at ho
    exact hK _ _ (hB2.first hd h4 ho hu)
  apply headE_val rfl (fun _ => rfl)
  · intro dn r0 K hd hdep hK w5 hB2
    have f3 := evC_cells (hB2.u.get (KA.out.get 0 rfl) (by have := HXD.out; simpa using this))
    have HB := Lib.hid (hB2.same 6 (by decide))
    clear hB2 hdep
    simp only [fillE]
    go_wp2_with fail
    first | exact hK _ HB.out | exact HB.out
  · exact ⟨_, fun _ => rfl, Eq.symm (by go_simp; exact rfl)⟩
  refine headE_freeD rfl (fun _ => rfl) 82 rfl (by simp [Act.put]) ?_ ?_
  · intro dn r0 K hd hdep w5 hB2 hK
    refine wp_buildEv ⟨x0, x3, x1, x2, chR M x0 x3 x1 x2, ByteArray.empty⟩ _ rfl rfl ?_
    exact hK _ _ (hB2.lit hd)
  refine headE_freeD rfl (fun _ => rfl) 83 rfl (by simp [Act.put]) ?_ ?_
  · intro dn r0 K hd hdep w5 hB2 hK
    have h5 : dn 5 = true := hdep ⟨5, .data⟩ (by simp) rfl
    have h7 : dn 7 = true := hdep ⟨7, .data⟩ (by simp) rfl
    obtain ⟨g7, e7, b7⟩ := hB2.b hd h7
    refine wp_append_ev _ _ rfl wA.heap.size (r0 5) L rfl (hB2.a hd h5) (r0 7) [⟨x0, x3, x1, x2, chR M x0 x3 x1 x2, ByteArray.empty⟩] g7 rfl (by rw [e7]; exact esl_one b7) (by have := HEL.out; simp; omega) hB2.u.size ?_
    intro v' w6 ho hu
    exact hK _ _ (hB2.second hd h5 h7 ho hu)
  apply headE_val rfl (fun _ => rfl)
  · intro dn r0 K hd hdep hK w5 hB2
    have HB := Lib.hid (hB2.same 9 (by decide))
    clear hB2 hdep
    simp only [fillE]
    go_wp2_with fail
    first | exact hK _ HB.out | exact HB.out
  · exact ⟨_, fun _ => rfl, Eq.symm (by go_simp; exact rfl)⟩
  apply headE_val rfl (fun _ => rfl)
  · intro dn r0 K hd hdep hK w5 hB2
    have HB := Lib.hid (hB2.same 10 (by decide))
    clear hB2 hdep
    simp only [fillE]
    go_wp2_with fail
    first | exact hK _ HB.out | exact HB.out
  · exact ⟨_, fun _ => rfl, Eq.symm (by go_simp; exact rfl)⟩
  apply headE_val rfl (fun _ => rfl)
  · intro dn r0 K hd hdep hK w5 hB2
    have h8 : dn 8 = true := hdep ⟨8, .data⟩ (by simp) rfl
    have e8 := (hB2.c h8).form2
    generalize slA (r0 8) = a8 at e8
    generalize slC (r0 8) = k8 at e8
    have hdd := hB2.dd
    rw [hd] at hdd
    have f1 := (cells_of hdd 2)
    have f4 := free_of hdd
    have HB := Lib.hid (hB2.store hd h8)
    have E8 := Lib.hid e8
    clear hB2 hdep hdd h8
    simp only [fillE]
    rw [e8]
    clear e8
    simp only [Bool.false_eq_true, if_false] at f1 f4
    go_wp2_with fail
    rw [← E8.out]
    first | exact hK _ HB.out | exact HB.out
  · exact ⟨undef, fun _ => rfl, Eq.symm (by go_simp; exact rfl)⟩
  refine headE_nil (fun _ r0 wB dn hall hB2 => ?_)
  have ho := hB2.c (hall 8 (by decide))
  obtain ⟨a8, k8, e8⟩ := ho.form
  rw [List.length_append, List.length_singleton] at e8
  have hdd := hB2.dd
  rw [hall 11 (by decide), if_pos rfl] at hdd
  have hk := KA.out.put 3 rfl hB2.u hdd
  dsimp only [List.set] at hk
  rw [e8] at hk ho
  obtain ⟨g3, hes, hg3⟩ := ho.esl
  have e2s : (#[rv, .string (inp), ev] : Array Value).setIfInBounds 2 (.slice a8 (L.length + 1) k8) = #[rv, .string (inp), .slice a8 (L.length + 1) k8] := rfl
  rw [e2s] at hk
  have KB := Lib.hid (show Hs [rb, d] w [((w.heap.size + 1 + 1), .cells (evC x0 x3 x1 x2 (chR M x0 x3 x1 x2) (ByteArray.empty)) 70 (0, 0)), ((w.heap.size + 1), .cells St.zero.cells 39 (0, 0)), (w.heap.size, .cells (St.cells (s.setR 0 (chR M x0 x3 x1 x2))) 39 (0, 0)), (d, .cells #[rv, .string (inp), (.slice a8 (L.length + 1) k8)] 57 (0, 0)), (rb, .cells CR2 30 (0, 0))] _ from hk)
  have HES := Lib.hid (And.intro hes (And.intro (Nat.le_trans KA.out.u.size hg3) (Nat.lt_of_lt_of_le (lt_of_heap (KA.out.get 1 rfl)) hg3)))
  have d200 : decide (200 < ((L.length + 1 : Nat) : Int)) = false := by have := HE.out.2.1; simp; omega
  obtain ⟨ln, hln⟩ : ∃ ln : Nat, L.length + 1 = ln := ⟨_, rfl⟩
  have f1 := cells_of (KB.out.get 3 rfl)
  rw [hln] at d200 f1
  clear hall hB2 hk hdd ho hes hg3 HEA KA e8
  simp only [fillE]
  generalize r0 5 = z5 at *
  generalize r0 7 = z7 at *
  generalize r0 8 = z8 at *
  have tk1 : True := trivial
  have tk2 : True := trivial
  go_wp2_with (first
    | (have _t := tk1; clear _t; refine at_load 39 rfl ?_; refine wpList_load_state (s.setR 0 (chR M x0 x3 x1 x2)) w.heap.size rfl _ rfl rfl (KB.out.get 2 rfl) ?_; clear tk1)
    | (have _t := tk2; clear _t; refine at_store 39 rfl ?_; refine wpList_store_state' (s.setR 0 (chR M x0 x3 x1 x2)) (w.heap.size + 1) rfl _ _ rfl rfl rfl (KB.out.get 1 rfl) rfl ?_; intro wD hw; have KC := Lib.hid (KB.out.put (w2 := wD) (o' := .cells (St.cells (s.setR 0 (chR M x0 x3 x1 x2))) 39 (0, 0)) 1 rfl (by rw [← hw]; exact (Upd.refl [w.heap.size + 1] wB).setCells (q := w.heap.size + 1) (.inl (by simp)) _ _) (by rw [← hw]; exact heap_store_state (s.setR 0 (chR M x0 x3 x1 x2)) (KB.out.get 1 rfl) rfl)); have HU := Lib.hid (show Upd [w.heap.size + 1] wB wD from (by rw [← hw]; exact (Upd.refl [w.heap.size + 1] wB).setCells (q := w.heap.size + 1) (.inl (by simp)) _ _)); clear hw tk2))
  refine bodyPost_ret (results_two' rfl (res_stateC 6 (w.heap.size + 1) (s.setR 0 (chR M x0 x3 x1 x2)) rfl (KC.out.get 1 rfl)) (res_tmp 7 rfl)) rfl ?_
  obtain ⟨h0, h1, h2, h3⟩ := H03.out
  rw [h0, h1, h2, h3]
  have hn := HE.out.2.2
  refine ⟨rfl, rv, _, CR2, HR2.out, KC.out.get 3 rfl, KC.out.get 4 rfl, HR0.out.keep KC.out.u (by have h := HE.out.2.2; simp; omega), g3, HES.out.1.keep HU.out ?_, HES.out.2.1, KC.out.u⟩
  have hlt := HES.out.2.2
  simp; omega
set_option maxRecDepth 100000 in
set_option maxHeartbeats 8000000 in
theorem DoR_pages192 (M : Mem) (rb d g1 g2 : Nat) (l : List Int) (inp : ByteArray) (L : List Ev) (rv ev : Value) (CR : Array Value) (s : St) (w : World) (hh : HoldsR CR M ∧ M.Ok) (hd0 : w.heap[d]? = some (.cells #[rv, .string inp, ev] 57 (0, 0))) (hr0 : w.heap[rb]? = some (.cells CR 30 (0, 0))) (ne : rb ≠ d) (hr : Rp w rv l g1) (he : ESl w ev L g2) (n1 : g1 ≠ d ∧ g1 ≠ rb ∧ g2 ≠ d ∧ g2 ≠ rb) (hs : s.Ok) (hn : L.length < 100) (hq : s.R 0 = 192) :
    Calls Try.prog 15 #[.pointer (some ⟨d, 0, none⟩), .pointer (some ⟨rb, 0, none⟩), .agg s.cells] w fun e w' => ∃ (rv2 ev2 : Value) (CR2 : Array Value) (g3 : Nat), e = .returned (.tuple #[.agg (s.setR 0 (chR M (s.R 0) (s.R 3) (s.R 1) (s.R 2))).cells, .bool false]) ∧ (HoldsR CR2 (chM M (s.R 0) (s.R 3) (s.R 1) (s.R 2)) ∧ ((chM M (s.R 0) (s.R 3) (s.R 1) (s.R 2))).Ok) ∧ w'.heap[d]? = some (.cells #[rv2, .string inp, ev2] 57 (0, 0)) ∧ w'.heap[rb]? = some (.cells CR2 30 (0, 0)) ∧ Rp w' rv2 l g1 ∧ ESl w' ev2 (L ++ [⟨s.R 0, s.R 3, s.R 1, s.R 2, (chR M (s.R 0) (s.R 3) (s.R 1) (s.R 2)), ByteArray.empty⟩]) g3 ∧ w.heap.size ≤ g3 ∧ Upd [rb, d] w w' := by
  have HR0 := Lib.hid hr
  have hsR := hs.R
  obtain ⟨x0, h0⟩ : ∃ x, s.R 0 = x := ⟨_, rfl⟩
  obtain ⟨x1, h1⟩ : ∃ x, s.R 1 = x := ⟨_, rfl⟩
  obtain ⟨x2, h2⟩ : ∃ x, s.R 2 = x := ⟨_, rfl⟩
  obtain ⟨x3, h3⟩ : ∃ x, s.R 3 = x := ⟨_, rfl⟩
  have hx0 := hsR 0
  have hx1 := hsR 1
  have hx2 := hsR 2
  have hx3 := hsR 3
  rw [h0] at hx0
  rw [h1] at hx1
  rw [h2] at hx2
  rw [h3] at hx3
  rw [h0] at hq
  have HX := Lib.hid (And.intro hx0 (And.intro hx1 (And.intro hx2 hx3)))
  have K0 := Lib.hid (hs_two hd0 hr0 (fun e => ne e.symm))
  have HH := Lib.hid hh
  have HE := Lib.hid (And.intro he (And.intro hn n1))
  have q1 : (x0 == 1) = false := by simp; omega
  have q3 : (x0 == 3) = false := by simp; omega
  have q4 : (x0 == 4) = false := by simp; omega
  have q91 : (x0 == 91) = false := by simp; omega
  have q125 : (x0 == 125) = false := by simp; omega
  have q192 : (x0 == 192) = true := by simp; omega
  have c0 : ∀ o1, (w.alloc (.cells s.cells 39) |>.alloc o1).cell? ⟨w.heap.size, 0, none⟩ = some (.int .u32 x0) := fun o1 => by rw [cells_of (heap_alloc2_old w (.cells s.cells 39) o1), St.cR s 0 (by decide), h0]
  have c1 : ∀ o1, (w.alloc (.cells s.cells 39) |>.alloc o1).cell? ⟨w.heap.size, 1, none⟩ = some (.int .u32 x1) := fun o1 => by rw [cells_of (heap_alloc2_old w (.cells s.cells 39) o1), St.cR s 1 (by decide), h1]
  have c2 : ∀ o1, (w.alloc (.cells s.cells 39) |>.alloc o1).cell? ⟨w.heap.size, 2, none⟩ = some (.int .u32 x2) := fun o1 => by rw [cells_of (heap_alloc2_old w (.cells s.cells 39) o1), St.cR s 2 (by decide), h2]
  have c3 : ∀ o1, (w.alloc (.cells s.cells 39) |>.alloc o1).cell? ⟨w.heap.size, 3, none⟩ = some (.int .u32 x3) := fun o1 => by rw [cells_of (heap_alloc2_old w (.cells s.cells 39) o1), St.cR s 3 (by decide), h3]
  have H03 := Lib.hid (And.intro h0 (And.intro h1 (And.intro h2 h3)))
  clear hs hsR hx0 hx1 hx2 hx3 h0 h1 h2 h3 hd0 hr0 hh ne hr he n1 hn hq
  go_enter Try.func15, Try.ntmps15
  go_upto_region 3 with fail
  have hk := ((K0.out.lay s.cells 39).lay St.zero.cells 39).lay #[.int .u32 x0, .int .u32 x3, .int .u32 x1, .int .u32 x2, .int .u32 0, .string ByteArray.empty] 70
  simp at hk
  refine wp_world (B := fun w1 => Hs [rb, d] w [((w.heap.size + 1 + 1), .cells (evC x0 x3 x1 x2 (0) (ByteArray.empty)) 70 (0, 0)), ((w.heap.size + 1), .cells St.zero.cells 39 (0, 0)), (w.heap.size, .cells (St.cells (s)) 39 (0, 0)), (d, .cells #[rv, .string (inp), ev] 57 (0, 0)), (rb, .cells CR 30 (0, 0))] w1) hk ?_
  intro w1 hk1
  have K1 := Lib.hid hk1
  clear hk hk1 c0 c1 c2 c3 K0
  have f3 := evC_cells (K1.out.get 0 rfl)
  have f4 := free_of (K1.out.get 0 rfl)
  go_upto_region 18 with (have _t := K1; clear _t; go_at_call 38; refine (rpchanges_any M rb x0 x3 x1 x2 0 ByteArray.empty _ (K1.out.ref 4 rfl HH.out) HX.out.2.2.2 HX.out.2.1 HX.out.2.2.1).mono ?_; rintro e w2 ⟨rfl, hm, hu⟩; obtain ⟨CR2, hh2, hk⟩ := K1.out.refPut 4 rfl hm hu; have K2 := Lib.hid hk; have HR2 := Lib.hid hh2; clear f3 f4; have f3 := evC_cells (K2.out.get 0 rfl); have f4 := free_of (K2.out.get 0 rfl); clear hm hu hh2 hk K1)
  have hk := K2.out.cell 0 rfl 4 (.int .u32 (chR M x0 x3 x1 x2))
  refine wp_world (B := fun w1 => Hs [rb, d] w [((w.heap.size + 1 + 1), .cells (evC x0 x3 x1 x2 (chR M x0 x3 x1 x2) (ByteArray.empty)) 70 (0, 0)), ((w.heap.size + 1), .cells St.zero.cells 39 (0, 0)), (w.heap.size, .cells (St.cells (s)) 39 (0, 0)), (d, .cells #[rv, .string (inp), ev] 57 (0, 0)), (rb, .cells CR2 30 (0, 0))] w1) hk ?_
  intro wK3 hk1
  have K3 := Lib.hid hk1
  clear hk hk1 K2 f3 f4
  have f3 := evC_cells (K3.out.get 0 rfl)
  have f5 := free_of (K3.out.get 2 rfl)
  have f6 := (cells_of (K3.out.get 2 rfl) 0).trans (St.cR s 0 (by decide))
  rw [H03.out.1] at f6
  go_upto_region 19 with fail
  have hk := K3.out.cell 2 rfl 0 (.int .u32 (chR M x0 x3 x1 x2))
  dsimp only [List.set] at hk
  rw [St.cells_setR s 0 _ (by decide)] at hk
  refine wp_world (B := fun w1 => Hs [rb, d] w [((w.heap.size + 1 + 1), .cells (evC x0 x3 x1 x2 (chR M x0 x3 x1 x2) (ByteArray.empty)) 70 (0, 0)), ((w.heap.size + 1), .cells St.zero.cells 39 (0, 0)), (w.heap.size, .cells (St.cells (s.setR 0 (chR M x0 x3 x1 x2))) 39 (0, 0)), (d, .cells #[rv, .string (inp), ev] 57 (0, 0)), (rb, .cells CR2 30 (0, 0))] w1) hk ?_
  intro wA hk1
  have KA := Lib.hid hk1
  clear hk hk1 K3 f3 f5 f6
  have HXD := Lib.hid (show (w.heap.size + 1 + 1) ≠ d from KA.out.ne 0 3 rfl rfl (by decide))
  have HEA := Lib.hid (HE.out.1.keep KA.out.u (by have h := HE.out.2.2; simp; omega))
  have HEL := Lib.hid (show L.length ≤ 9000 by have := HE.out.2.1; omega)
  refine wp_drawE 12 (Ke wA d L ⟨x0, x3, x1, x2, chR M x0 x3 x1 x2, ByteArray.empty⟩ #[rv, .string (inp), ev]) (fun _ _ => False) (by kernel_rfl) (by decide +kernel) (fun r0 => Ke.start (KA.out.get 3 rfl) r0) (fun _ _ _ h => h.elim) ?_
  simp only [List.take_succ_cons, List.take_zero, List.drop_succ_cons, List.drop_zero]
  apply headE_val0 rfl rfl
  · intro dn r0 K hd hdep hK w5 hB1
    skip
    have HB := Lib.hid (hB1.same 0 (by decide))
    clear hB1 hdep
    go_wp2_with fail
    first | exact hK _ HB.out | exact HB.out
  · exact ⟨_, rfl⟩
  apply headE_val0 rfl rfl
  · intro dn r0 K hd hdep hK w5 hB1
    skip
    have HB := Lib.hid (hB1.same 1 (by decide))
    clear hB1 hdep
    go_wp2_with fail
    first | exact hK _ HB.out | exact HB.out
  · exact ⟨_, rfl⟩
  apply headE_val0 rfl rfl
  · intro dn r0 K hd hdep hK w5 hB1
    skip
    have HB := Lib.hid (hB1.same 2 (by decide))
    clear hB1 hdep
    go_wp2_with fail
    first | exact hK _ HB.out | exact HB.out
  · exact ⟨_, rfl⟩
  apply headE_val0 rfl rfl
  · intro dn r0 K hd hdep hK w5 hB1
    skip
    have HB := Lib.hid (hB1.same 3 (by decide))
    clear hB1 hdep
    go_wp2_with fail
    first | exact hK _ HB.out | exact HB.out
  · exact ⟨_, rfl⟩
  apply headE_val0 rfl rfl
  · intro dn r0 K hd hdep hK w5 hB1
    have f1 := cells_of (hB1.at4 hd)
    have HB := Lib.hid (hB1.same 4 (by decide))
    clear hB1 hdep
    go_wp2_with fail
    first | exact hK _ HB.out | exact HB.out
  · exact ⟨_, rfl⟩
  refine headE_freeD rfl (fun _ => rfl) 80 rfl (by simp [Act.put]) ?_ ?_
  · intro dn r0 K hd hdep w5 hB2 hK
    have h4 : dn 4 = true := hdep ⟨4, .data⟩ (by simp) rfl
    refine wp_append_ev _ _ rfl wA.heap.size (.slice none 0 0) [] rfl (ownE_nil _ _) ev L g2 rfl (HEA.out.keep hB2.u (by have h := HE.out.2.2.2.2.1; simpa using h)) (by have := HEL.out; simp; omega) hB2.u.size ?_
    intro v' w6 ho hu
    rw [List.nil_append] at ho
    exact hK _ _ (hB2.first hd h4 ho hu)
  apply headE_val rfl (fun _ => rfl)
  · intro dn r0 K hd hdep hK w5 hB2
    have f3 := evC_cells (hB2.u.get (KA.out.get 0 rfl) (by have := HXD.out; simpa using this))
    have HB := Lib.hid (hB2.same 6 (by decide))
    clear hB2 hdep
    simp only [fillE]
    go_wp2_with fail
    first | exact hK _ HB.out | exact HB.out
  · exact ⟨_, fun _ => rfl, Eq.symm (by go_simp; exact rfl)⟩
  refine headE_freeD rfl (fun _ => rfl) 82 rfl (by simp [Act.put]) ?_ ?_
  · intro dn r0 K hd hdep w5 hB2 hK
    refine wp_buildEv ⟨x0, x3, x1, x2, chR M x0 x3 x1 x2, ByteArray.empty⟩ _ rfl rfl ?_
    exact hK _ _ (hB2.lit hd)
  refine headE_freeD rfl (fun _ => rfl) 83 rfl (by simp [Act.put]) ?_ ?_
  · intro dn r0 K hd hdep w5 hB2 hK
    have h5 : dn 5 = true := hdep ⟨5, .data⟩ (by simp) rfl
    have h7 : dn 7 = true := hdep ⟨7, .data⟩ (by simp) rfl
    obtain ⟨g7, e7, b7⟩ := hB2.b hd h7
    refine wp_append_ev _ _ rfl wA.heap.size (r0 5) L rfl (hB2.a hd h5) (r0 7) [⟨x0, x3, x1, x2, chR M x0 x3 x1 x2, ByteArray.empty⟩] g7 rfl (by rw [e7]; exact esl_one b7) (by have := HEL.out; simp; omega) hB2.u.size ?_
    intro v' w6 ho hu
    exact hK _ _ (hB2.second hd h5 h7 ho hu)
  apply headE_val rfl (fun _ => rfl)
  · intro dn r0 K hd hdep hK w5 hB2
    have HB := Lib.hid (hB2.same 9 (by decide))
    clear hB2 hdep
    simp only [fillE]
    go_wp2_with fail
    first | exact hK _ HB.out | exact HB.out
  · exact ⟨_, fun _ => rfl, Eq.symm (by go_simp; exact rfl)⟩
  apply headE_val rfl (fun _ => rfl)
  · intro dn r0 K hd hdep hK w5 hB2
    have HB := Lib.hid (hB2.same 10 (by decide))
    clear hB2 hdep
    simp only [fillE]
    go_wp2_with fail
    first | exact hK _ HB.out | exact HB.out
  · exact ⟨_, fun _ => rfl, Eq.symm (by go_simp; exact rfl)⟩
  apply headE_val rfl (fun _ => rfl)
  · intro dn r0 K hd hdep hK w5 hB2
    have h8 : dn 8 = true := hdep ⟨8, .data⟩ (by simp) rfl
    have e8 := (hB2.c h8).form2
    generalize slA (r0 8) = a8 at e8
    generalize slC (r0 8) = k8 at e8
    have hdd := hB2.dd
    rw [hd] at hdd
    have f1 := (cells_of hdd 2)
    have f4 := free_of hdd
    have HB := Lib.hid (hB2.store hd h8)
    have E8 := Lib.hid e8
    clear hB2 hdep hdd h8
    simp only [fillE]
    rw [e8]
    clear e8
    simp only [Bool.false_eq_true, if_false] at f1 f4
    go_wp2_with fail
    rw [← E8.out]
    first | exact hK _ HB.out | exact HB.out
  · exact ⟨undef, fun _ => rfl, Eq.symm (by go_simp; exact rfl)⟩
  refine headE_nil (fun _ r0 wB dn hall hB2 => ?_)
  have ho := hB2.c (hall 8 (by decide))
  obtain ⟨a8, k8, e8⟩ := ho.form
  rw [List.length_append, List.length_singleton] at e8
  have hdd := hB2.dd
  rw [hall 11 (by decide), if_pos rfl] at hdd
  have hk := KA.out.put 3 rfl hB2.u hdd
  dsimp only [List.set] at hk
  rw [e8] at hk ho
  obtain ⟨g3, hes, hg3⟩ := ho.esl
  have e2s : (#[rv, .string (inp), ev] : Array Value).setIfInBounds 2 (.slice a8 (L.length + 1) k8) = #[rv, .string (inp), .slice a8 (L.length + 1) k8] := rfl
  rw [e2s] at hk
  have KB := Lib.hid (show Hs [rb, d] w [((w.heap.size + 1 + 1), .cells (evC x0 x3 x1 x2 (chR M x0 x3 x1 x2) (ByteArray.empty)) 70 (0, 0)), ((w.heap.size + 1), .cells St.zero.cells 39 (0, 0)), (w.heap.size, .cells (St.cells (s.setR 0 (chR M x0 x3 x1 x2))) 39 (0, 0)), (d, .cells #[rv, .string (inp), (.slice a8 (L.length + 1) k8)] 57 (0, 0)), (rb, .cells CR2 30 (0, 0))] _ from hk)
  have HES := Lib.hid (And.intro hes (And.intro (Nat.le_trans KA.out.u.size hg3) (Nat.lt_of_lt_of_le (lt_of_heap (KA.out.get 1 rfl)) hg3)))
  have d200 : decide (200 < ((L.length + 1 : Nat) : Int)) = false := by have := HE.out.2.1; simp; omega
  obtain ⟨ln, hln⟩ : ∃ ln : Nat, L.length + 1 = ln := ⟨_, rfl⟩
  have f1 := cells_of (KB.out.get 3 rfl)
  rw [hln] at d200 f1
  clear hall hB2 hk hdd ho hes hg3 HEA KA e8
  simp only [fillE]
  generalize r0 5 = z5 at *
  generalize r0 7 = z7 at *
  generalize r0 8 = z8 at *
  have tk1 : True := trivial
  have tk2 : True := trivial
  go_wp2_with (first
    | (have _t := tk1; clear _t; refine at_load 39 rfl ?_; refine wpList_load_state (s.setR 0 (chR M x0 x3 x1 x2)) w.heap.size rfl _ rfl rfl (KB.out.get 2 rfl) ?_; clear tk1)
    | (have _t := tk2; clear _t; refine at_store 39 rfl ?_; refine wpList_store_state' (s.setR 0 (chR M x0 x3 x1 x2)) (w.heap.size + 1) rfl _ _ rfl rfl rfl (KB.out.get 1 rfl) rfl ?_; intro wD hw; have KC := Lib.hid (KB.out.put (w2 := wD) (o' := .cells (St.cells (s.setR 0 (chR M x0 x3 x1 x2))) 39 (0, 0)) 1 rfl (by rw [← hw]; exact (Upd.refl [w.heap.size + 1] wB).setCells (q := w.heap.size + 1) (.inl (by simp)) _ _) (by rw [← hw]; exact heap_store_state (s.setR 0 (chR M x0 x3 x1 x2)) (KB.out.get 1 rfl) rfl)); have HU := Lib.hid (show Upd [w.heap.size + 1] wB wD from (by rw [← hw]; exact (Upd.refl [w.heap.size + 1] wB).setCells (q := w.heap.size + 1) (.inl (by simp)) _ _)); clear hw tk2))
  refine bodyPost_ret (results_two' rfl (res_stateC 6 (w.heap.size + 1) (s.setR 0 (chR M x0 x3 x1 x2)) rfl (KC.out.get 1 rfl)) (res_tmp 7 rfl)) rfl ?_
  obtain ⟨h0, h1, h2, h3⟩ := H03.out
  rw [h0, h1, h2, h3]
  have hn := HE.out.2.2
  refine ⟨rfl, rv, _, CR2, HR2.out, KC.out.get 3 rfl, KC.out.get 4 rfl, HR0.out.keep KC.out.u (by have h := HE.out.2.2; simp; omega), g3, HES.out.1.keep HU.out ?_, HES.out.2.1, KC.out.u⟩
  have hlt := HES.out.2.2
  simp; omega
end Go.Proofs.Ytdgclmibbmofcaa

/-
  The document's calls: Do. No condition. Printed by gen_rcj.py.
-/
namespace Go.Proofs.Ytdgclmibbmofcaa
open Go Go.RowKit Go.Maps
set_option linter.unusedVariables false
set_option linter.unusedSimpArgs false

theorem Do_rc (M : Mem) (rb d g1 g2 : Nat) (E : Cd) (rv ev : Value) (CR : Array Value) (s : St) (w : World) (hh : HoldsR CR M ∧ M.Ok) (hd0 : w.heap[d]? = some (.cells #[rv, .string E.i, ev] 57 (0, 0))) (hr0 : w.heap[rb]? = some (.cells CR 30 (0, 0))) (ne : rb ≠ d) (hr : Rp w rv E.l g1) (he : ESl w ev E.L g2) (n1 : g1 ≠ d ∧ g1 ≠ rb ∧ g2 ≠ d ∧ g2 ≠ rb) (hs : s.Ok) (hn : E.L.length < 100) :
    Calls Try.prog 15 #[.pointer (some ⟨d, 0, none⟩), .pointer (some ⟨rb, 0, none⟩), .agg s.cells] w fun e w' => ∃ (rv2 ev2 : Value) (CR2 : Array Value) (g3 : Nat), e = .returned (.tuple #[.agg (s.setR 0 (doR M s E)).cells, .bool (decide (s.R 0 = 1))]) ∧ (HoldsR CR2 (doM M s E) ∧ (doM M s E).Ok) ∧ w'.heap[d]? = some (.cells #[rv2, .string (doI M s E), ev2] 57 (0, 0)) ∧ w'.heap[rb]? = some (.cells CR2 30 (0, 0)) ∧ Rp w' rv2 (doL s E) g1 ∧ ESl w' ev2 (E.L ++ [doE M s E]) g3 ∧ w.heap.size ≤ g3 ∧ Upd [rb, d] w w' := by
  obtain ⟨l, inp, L⟩ := E
  dsimp only at *
  have fin : ∀ (R : Int) (S : ByteArray) (l2 : List Int) (I2 : ByteArray) (M2 : Mem) (b : Bool) (e : Ending) (w' : World), R = doR M s ⟨l, inp, L⟩ → S = doS M s ⟨l, inp, L⟩ → l2 = doL s ⟨l, inp, L⟩ → I2 = doI M s ⟨l, inp, L⟩ → M2 = doM M s ⟨l, inp, L⟩ → b = decide (s.R 0 = 1) →
      (∃ (rv2 ev2 : Value) (CR2 : Array Value) (g3 : Nat), e = .returned (.tuple #[.agg (s.setR 0 R).cells, .bool b]) ∧ (HoldsR CR2 M2 ∧ (M2).Ok) ∧ w'.heap[d]? = some (.cells #[rv2, .string I2, ev2] 57 (0, 0)) ∧ w'.heap[rb]? = some (.cells CR2 30 (0, 0)) ∧ Rp w' rv2 l2 g1 ∧ ESl w' ev2 (L ++ [⟨s.R 0, s.R 3, s.R 1, s.R 2, R, S⟩]) g3 ∧ w.heap.size ≤ g3 ∧ Upd [rb, d] w w') → ∃ (rv2 ev2 : Value) (CR2 : Array Value) (g3 : Nat), e = .returned (.tuple #[.agg (s.setR 0 (doR M s ⟨l, inp, L⟩)).cells, .bool (decide (s.R 0 = 1))]) ∧ (HoldsR CR2 (doM M s ⟨l, inp, L⟩) ∧ (doM M s ⟨l, inp, L⟩).Ok) ∧ w'.heap[d]? = some (.cells #[rv2, .string (doI M s ⟨l, inp, L⟩), ev2] 57 (0, 0)) ∧ w'.heap[rb]? = some (.cells CR2 30 (0, 0)) ∧ Rp w' rv2 (doL s ⟨l, inp, L⟩) g1 ∧ ESl w' ev2 (L ++ [doE M s ⟨l, inp, L⟩]) g3 ∧ w.heap.size ≤ g3 ∧ Upd [rb, d] w w' := by
    rintro R S l2 I2 M2 b e w' rfl rfl rfl rfl rfl rfl h
    exact h
  by_cases h1 : s.R 0 = 1
  · refine (DoR_exit M rb d g1 g2 l inp L rv ev CR s w hh hd0 hr0 ne hr he n1 hs hn h1).mono ?_
    intro e w' h
    refine fin _ _ _ _ _ _ e w' ?_ ?_ ?_ ?_ ?_ ?_ h
    · unfold doR; rw [if_pos h1]
    · unfold doS; simp [h1]
    · unfold doL isOdd; simp [h1]
    · unfold doI; simp [h1]
    · unfold doM; simp [h1]
    · rw [decide_eq_true h1]
  · by_cases h2 : s.R 0 = 3
    · refine (DoR_read M rb d g1 g2 l inp L rv ev CR s w hh hd0 hr0 ne hr he n1 hs hn h2).mono ?_
      rintro e w' ⟨RV, SV, I2, M2, ⟨p1, p2⟩, h⟩
      cases hk : rdK M (s.R 1) (rdN inp (s.R 2))
      · obtain ⟨rfl, rfl, rfl, rfl⟩ := p2 hk
        refine fin _ _ _ _ _ _ e w' ?_ ?_ ?_ ?_ ?_ ?_ h
        · unfold doR; rw [if_neg h1, if_pos h2]; dsimp only; rw [hk]; rfl
        · unfold doS; simp [h2, hk]
        · unfold doL isOdd; simp [h2]
        · unfold doI; simp [h2, hk]
        · unfold doM; simp [h2, hk]
        · rw [decide_eq_false h1]
      · obtain ⟨rfl, rfl, rfl, rfl⟩ := p1 hk
        refine fin _ _ _ _ _ _ e w' ?_ ?_ ?_ ?_ ?_ ?_ h
        · unfold doR; rw [if_neg h1, if_pos h2]; dsimp only; rw [hk]; rfl
        · unfold doS; rw [if_pos h2]; dsimp only; rw [if_pos hk]
        · unfold doL isOdd; simp [h2]
        · unfold doI; rw [if_pos h2]; dsimp only; rw [if_pos hk]
        · unfold doM; rw [if_pos h2]; dsimp only; rw [if_pos hk]
        · rw [decide_eq_false h1]
    · by_cases h3 : s.R 0 = 4
      · refine (DoR_write M rb d g1 g2 l inp L rv ev CR s w hh hd0 hr0 ne hr he n1 hs hn h3).mono ?_
        intro e w' h
        refine fin _ _ _ _ _ _ e w' ?_ ?_ ?_ ?_ ?_ ?_ h
        · unfold doR; rw [if_neg h1, if_neg h2, if_pos h3]
        · unfold doS; rw [if_neg h2, if_pos h3]
        · unfold doL isOdd; simp [h3]
        · unfold doI; simp [h3]
        · unfold doM; simp [h3]
        · rw [decide_eq_false h1]
      · by_cases h4 : s.R 0 = 91 ∨ s.R 0 = 125 ∨ s.R 0 = 192
        · have hp : Calls Try.prog 15 #[.pointer (some ⟨d, 0, none⟩), .pointer (some ⟨rb, 0, none⟩), .agg s.cells] w fun e w' => ∃ (rv2 ev2 : Value) (CR2 : Array Value) (g3 : Nat), e = .returned (.tuple #[.agg (s.setR 0 (chR M (s.R 0) (s.R 3) (s.R 1) (s.R 2))).cells, .bool false]) ∧ (HoldsR CR2 (chM M (s.R 0) (s.R 3) (s.R 1) (s.R 2)) ∧ ((chM M (s.R 0) (s.R 3) (s.R 1) (s.R 2))).Ok) ∧ w'.heap[d]? = some (.cells #[rv2, .string inp, ev2] 57 (0, 0)) ∧ w'.heap[rb]? = some (.cells CR2 30 (0, 0)) ∧ Rp w' rv2 l g1 ∧ ESl w' ev2 (L ++ [⟨s.R 0, s.R 3, s.R 1, s.R 2, (chR M (s.R 0) (s.R 3) (s.R 1) (s.R 2)), ByteArray.empty⟩]) g3 ∧ w.heap.size ≤ g3 ∧ Upd [rb, d] w w' := by
            rcases h4 with h4 | h4 | h4
            · exact DoR_pages91 M rb d g1 g2 l inp L rv ev CR s w hh hd0 hr0 ne hr he n1 hs hn h4
            · exact DoR_pages125 M rb d g1 g2 l inp L rv ev CR s w hh hd0 hr0 ne hr he n1 hs hn h4
            · exact DoR_pages192 M rb d g1 g2 l inp L rv ev CR s w hh hd0 hr0 ne hr he n1 hs hn h4
          refine hp.mono ?_
          intro e w' h
          refine fin _ _ _ _ _ _ e w' ?_ ?_ ?_ ?_ ?_ ?_ h
          · unfold doR; rw [if_neg h1, if_neg h2, if_neg h3, if_pos h4]
          · unfold doS; rw [if_neg h2, if_neg h3]
          · unfold doL isOdd; rw [if_neg (by simp; omega)]
          · unfold doI; rw [if_neg h2]
          · unfold doM; rw [if_neg h2, if_pos h4]
          · rw [decide_eq_false h1]
        · have hq : s.R 0 ≠ 1 ∧ s.R 0 ≠ 3 ∧ s.R 0 ≠ 4 ∧ s.R 0 ≠ 91 ∧ s.R 0 ≠ 125 ∧ s.R 0 ≠ 192 := by omega
          have hO : isOdd (s.R 0) = true := by unfold isOdd; rw [decide_eq_true_eq]; exact hq
          cases l with
          | nil =>
            refine (DoR_none M rb d g1 g2 [] inp L rv ev CR s w hh hd0 hr0 ne hr he n1 hs hn hq rfl).mono ?_
            intro e w' h
            refine fin _ _ _ _ _ _ e w' ?_ ?_ ?_ ?_ ?_ ?_ h
            · unfold doR; rw [if_neg h1, if_neg h2, if_neg h3, if_neg h4]
            · unfold doS; rw [if_neg h2, if_neg h3]
            · unfold doL; rw [if_pos hO]; rfl
            · unfold doI; rw [if_neg h2]
            · unfold doM; rw [if_neg h2, if_neg h4]
            · rw [decide_eq_false h1]
          | cons x t =>
            refine (DoR_reply M rb d g1 g2 x t inp L rv ev CR s w hh hd0 hr0 ne hr he n1 hs hn hq).mono ?_
            intro e w' h
            refine fin _ _ _ _ _ _ e w' ?_ ?_ ?_ ?_ ?_ ?_ h
            · unfold doR; rw [if_neg h1, if_neg h2, if_neg h3, if_neg h4]
            · unfold doS; rw [if_neg h2, if_neg h3]
            · unfold doL; rw [if_pos hO]; rfl
            · unfold doI; rw [if_neg h2]
            · unfold doM; rw [if_neg h2, if_neg h4]
            · rw [decide_eq_false h1]
end Go.Proofs.Ytdgclmibbmofcaa

/-
  CallDoes: along its walk: the memory, the calls, the document's calls, variables. No condition.
-/
namespace Go.Proofs.Ytdgclmibbmofcaa
open Go Go.RowKit Go.Maps
set_option linter.unusedVariables false
set_option linter.unusedSimpArgs false

/-- A fact of one block that stays while the block does. -/
structure Sit (P : World → Nat → Prop) : Prop where
  st : ∀ (w w' : World) (g : Nat) (S : List Nat), P w g → Upd S w w' → g ∉ S → P w' g
  wh : ∀ (w : World) (g : Nat), P w g → g < w.heap.size ∨ ∀ g', P w g'
theorem Sit.rp (v : Value) (l : List Int) : Sit (fun w g => Rp w v l g) := by
  refine ⟨fun w w' g S h u hg => h.keep u hg, fun w g h => ?_⟩
  rcases h with h | ⟨o, c', C', T, f, e1, e2, e3, e4⟩
  · exact .inr fun g' => .inl h
  · exact .inl (lt_of_heap e3)
theorem Sit.es (v : Value) (l : List Ev) : Sit (fun w g => ESl w v l g) := by
  refine ⟨fun w w' g S h u hg => h.keep u hg, fun w g h => ?_⟩
  rcases h with h | ⟨o, c', C', f, e1, e3, e4⟩
  · exact .inr fun g' => .inl h
  · exact .inl (lt_of_heap e3)
def Far (w : World) (a pb c b : Nat) (L : List (Nat × Obj)) (g : Nat) : Prop := w.heap.size ≤ g ∧ (g ≠ a ∧ g ≠ pb ∧ g ≠ c ∧ g ≠ b) ∧ ∀ p ∈ L, p.1 ≠ g
def Kp (P : World → Nat → Prop) (w : World) (a pb c b : Nat) (L : List (Nat × Obj)) (w1 : World) : Prop := ∃ g, P w1 g ∧ Far w a pb c b L g
section
variable {P : World → Nat → Prop} {w w1 w2 : World} {a pb c b x n : Nat} {L : List (Nat × Obj)} {M : Mem} {C : Cd} {o o' : Obj} {S : List Nat}
theorem Kp.upd (h : Kp P w a pb c b L w1) (hP : Sit P) (u : Upd S w1 w2) (hS : ∀ s ∈ S, s = a ∨ s = pb ∨ s = c ∨ s = b ∨ ∃ p ∈ L, p.1 = s) : Kp P w a pb c b L w2 := by
  obtain ⟨g, h1, h2, ⟨h3, h4, h5, h6⟩, h7⟩ := h
  refine ⟨g, hP.st _ _ _ _ h1 u (fun hg => ?_), h2, ⟨h3, h4, h5, h6⟩, h7⟩
  rcases hS g hg with e | e | e | e | ⟨p, hp, e⟩
  · exact h3 e
  · exact h4 e
  · exact h5 e
  · exact h6 e
  · exact h7 p hp e
theorem Kp.quiet (h : Kp P w a pb c b L w1) (hP : Sit P) (u : Upd [] w1 w2) : Kp P w a pb c b L w2 := h.upd hP u (fun s hs => by simp at hs)
theorem Kp.tail {p : Nat × Obj} (h : Kp P w a pb c b (p :: L) w1) : Kp P w a pb c b L w1 := by
  obtain ⟨g, h1, h2, h3, h4⟩ := h
  exact ⟨g, h1, h2, h3, fun q hq => h4 q (List.mem_cons_of_mem _ hq)⟩
theorem Kp.add (h : Kp P w a pb c b L w1) (hP : Sit P) (hk : Kc w a pb M c b C L w1) (u : Upd [] w1 w2) (ho : w2.heap[w1.heap.size]? = some o) : Kp P w a pb c b ((w1.heap.size, o) :: L) w2 := by
  obtain ⟨g, h1, h2, h3, h4⟩ := h
  have hl := hk.lts
  rcases hP.wh _ _ h1 with hw | hw
  · refine ⟨g, hP.st _ _ _ _ h1 u (by simp), h2, h3, fun p hp => ?_⟩
    rcases List.mem_cons.1 hp with rfl | hp
    · dsimp only; omega
    · exact h4 p hp
  · have hu := u.size
    have hsz := hk.u.size
    have hlt := lt_of_heap ho
    refine ⟨w2.heap.size, hP.st _ _ _ _ (hw w2.heap.size) u (by simp), by omega, by omega, fun p hp => ?_⟩
    rcases List.mem_cons.1 hp with rfl | hp
    · dsimp only; omega
    · have := lt_of_heap (hk.v p hp); omega
theorem mem_setL {L : List (Nat × Obj)} {n x : Nat} {o o' : Obj} (hn : L[n]? = some (x, o)) : ∀ p ∈ L.set n (x, o'), ∃ q ∈ L, q.1 = p.1 := by
  intro p hp
  obtain ⟨j, hj⟩ := List.mem_iff_getElem?.1 hp
  rw [List.getElem?_set] at hj
  by_cases e : n = j
  · subst e
    have hl := (List.getElem?_eq_some_iff.1 hn).1
    simp only [if_true, hl] at hj
    rw [← Option.some.inj hj]
    exact ⟨_, List.mem_of_getElem? hn, rfl⟩
  · simp only [e, if_false] at hj
    exact ⟨p, List.mem_of_getElem? hj, rfl⟩
theorem Kp.set (h : Kp P w a pb c b L w1) (hn : L[n]? = some (x, o)) : Kp P w a pb c b (L.set n (x, o')) w1 := by
  obtain ⟨g, h1, h2, h3, h4⟩ := h
  refine ⟨g, h1, h2, h3, fun p hp => ?_⟩
  obtain ⟨q, hq, e⟩ := mem_setL hn p hp
  rw [← e]; exact h4 q hq
end
/-- Both kinds of calls: C and its memory M by the program's; E by the document's (its replies rv, its events ev). -/
structure Kd (w : World) (a pb : Nat) (M : Mem) (c b : Nat) (C : Cd) (rv ev : Value) (E : Cd) (L : List (Nat × Obj)) (w1 : World) : Prop where
  k : Kc w a pb M c b C L w1
  r : Kp (fun w g => Rp w rv E.l g) w a pb c b L w1
  e : Kp (fun w g => ESl w ev E.L g) w a pb c b L w1
section
variable {w w1 w2 : World} {a pb c b x n : Nat} {M M2 : Mem} {C C2 E : Cd} {rv ev : Value} {L : List (Nat × Obj)} {o o' : Obj} {S : List Nat}
theorem Kd.quiet (h : Kd w a pb M c b C rv ev E L w1) (u : Upd [] w1 w2) : Kd w a pb M c b C rv ev E L w2 := ⟨h.k.quiet u, h.r.quiet (Sit.rp _ _) u, h.e.quiet (Sit.es _ _) u⟩
theorem Kd.add (h : Kd w a pb M c b C rv ev E L w1) (u : Upd [] w1 w2) (ho : w2.heap[w1.heap.size]? = some o) : Kd w a pb M c b C rv ev E ((w1.heap.size, o) :: L) w2 := ⟨h.k.add u ho, h.r.add (Sit.rp _ _) h.k u ho, h.e.add (Sit.es _ _) h.k u ho⟩
theorem Kd.put (h : Kd w a pb M c b C rv ev E L w1) (n : Nat) (hn : L[n]? = some (x, o)) (u : Upd [x] w1 w2) (ho : w2.heap[x]? = some o') : Kd w a pb M c b C rv ev E (L.set n (x, o')) w2 :=
  ⟨h.k.put n hn u ho, (h.r.upd (Sit.rp _ _) u (fun s hs => .inr (.inr (.inr (.inr ⟨_, List.mem_of_getElem? hn, (List.mem_singleton.1 hs).symm⟩))))).set hn, (h.e.upd (Sit.es _ _) u (fun s hs => .inr (.inr (.inr (.inr ⟨_, List.mem_of_getElem? hn, (List.mem_singleton.1 hs).symm⟩))))).set hn⟩
theorem Kd.tail {p : Nat × Obj} (h : Kd w a pb M c b C rv ev E (p :: L) w1) : Kd w a pb M c b C rv ev E L w1 := ⟨h.k.tail, h.r.tail, h.e.tail⟩
theorem Do_kd (h : Kd w a pb M c b C rv ev E L w1) (s : St) (hs : s.Ok) (hn : C.L.length < 1000000) :
    Calls Try.prog 8 #[.pointer (some ⟨c, 0, none⟩), .pointer (some ⟨a, 0, none⟩), .agg s.cells] w1 fun e w' => e = .returned (.tuple #[.agg (s.setR 0 (doR M s C)).cells, .bool (decide (s.R 0 = 1))]) ∧ Kd w a pb (doM M s C) c b (doC M s C) rv ev E L w' := by
  obtain ⟨g, h1, h2, h3, h4, h5⟩ := h.k.cc
  have ne := h.k.ne
  have t := h.k.t
  have oo := h.k.o
  refine (Do_any M a pb c b g C s w1 h.k.m h1 ⟨ne.1, ne.2.1, ne.2.2.1, ne.2.2.2, h3, h4⟩ hs hn).mono ?_
  rintro e w2 ⟨q1, q2, q3, u⟩
  have hS : ∀ s ∈ [c, b, pb], s = a ∨ s = pb ∨ s = c ∨ s = b ∨ ∃ p ∈ L, p.1 = s := by
    intro s hs
    simp only [List.mem_cons, List.not_mem_nil, or_false] at hs
    rcases hs with h | h | h
    · exact .inr (.inr (.inl h))
    · exact .inr (.inr (.inr (.inl h)))
    · exact .inr (.inl h)
  refine ⟨q1, ⟨q2, ⟨g, q3, h2, h3, h4, h5⟩, h.k.u.also u (fun z hz => .inr ?_), fun p hp => u.get (h.k.v p hp) ?_, h.k.s, h.k.t, h.k.o, h.k.ne⟩, h.r.upd (Sit.rp _ _) u hS, h.e.upd (Sit.es _ _) u hS⟩
  · simp at hz; omega
  · have := t p hp; simp; omega
end
end Go.Proofs.Ytdgclmibbmofcaa
