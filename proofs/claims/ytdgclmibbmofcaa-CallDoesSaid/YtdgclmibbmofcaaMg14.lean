/-
  The document's calls: Do, each kind of call. No condition. Printed by gen_rcj.py.
-/
import Derived.Test.YtdgclmibbmofcaaMg13
namespace Go.Proofs.Ytdgclmibbmofcaa
open Go Go.RowKit Go.Maps
set_option linter.unusedVariables false
set_option linter.unusedSimpArgs false

set_option maxRecDepth 100000 in
set_option maxHeartbeats 8000000 in
theorem DoR_none (M : Mem) (rb d g1 g2 : Nat) (l : List Int) (inp : ByteArray) (L : List Ev) (rv ev : Value) (CR : Array Value) (s : St) (w : World) (hh : HoldsR CR M ∧ M.Ok) (hd0 : w.heap[d]? = some (.cells #[rv, .string inp, ev] 57 (0, 0))) (hr0 : w.heap[rb]? = some (.cells CR 30 (0, 0))) (ne : rb ≠ d) (hr : Rp w rv l g1) (he : ESl w ev L g2) (n1 : g1 ≠ d ∧ g1 ≠ rb ∧ g2 ≠ d ∧ g2 ≠ rb) (hs : s.Ok) (hn : L.length < 100) (hq : s.R 0 ≠ 1 ∧ s.R 0 ≠ 3 ∧ s.R 0 ≠ 4 ∧ s.R 0 ≠ 91 ∧ s.R 0 ≠ 125 ∧ s.R 0 ≠ 192) (hl : l = []) :
    Calls Try.prog 15 #[.pointer (some ⟨d, 0, none⟩), .pointer (some ⟨rb, 0, none⟩), .agg s.cells] w fun e w' => ∃ (rv2 ev2 : Value) (CR2 : Array Value) (g3 : Nat), e = .returned (.tuple #[.agg (s.setR 0 4294967258).cells, .bool false]) ∧ (HoldsR CR2 M ∧ (M).Ok) ∧ w'.heap[d]? = some (.cells #[rv2, .string inp, ev2] 57 (0, 0)) ∧ w'.heap[rb]? = some (.cells CR2 30 (0, 0)) ∧ Rp w' rv2 l g1 ∧ ESl w' ev2 (L ++ [⟨s.R 0, s.R 3, s.R 1, s.R 2, 4294967258, ByteArray.empty⟩]) g3 ∧ w.heap.size ≤ g3 ∧ Upd [rb, d] w w' := by
  have HR0 := Lib.hid hr
  obtain ⟨ra, rc, rfl⟩ := hr.form
  have hsR := hs.R
  obtain ⟨x0, h0⟩ : ∃ x, s.R 0 = x := ⟨_, rfl⟩
  obtain ⟨x1, h1⟩ : ∃ x, s.R 1 = x := ⟨_, rfl⟩
  obtain ⟨x2, h2⟩ : ∃ x, s.R 2 = x := ⟨_, rfl⟩
  obtain ⟨x3, h3⟩ : ∃ x, s.R 3 = x := ⟨_, rfl⟩
  have hx0 := hsR 0
  have hx1 := hsR 1
  have hx2 := hsR 2
  have hx3 := hsR 3
  rw [h0] at hx0
  rw [h1] at hx1
  rw [h2] at hx2
  rw [h3] at hx3
  rw [h0] at hq
  have HX := Lib.hid (And.intro hx0 (And.intro hx1 (And.intro hx2 hx3)))
  have K0 := Lib.hid (hs_two hd0 hr0 (fun e => ne e.symm))
  have HH := Lib.hid hh
  have HE := Lib.hid (And.intro he (And.intro hn n1))
  have q1 : (x0 == 1) = false := by simp; omega
  have q3 : (x0 == 3) = false := by simp; omega
  have q4 : (x0 == 4) = false := by simp; omega
  have q91 : (x0 == 91) = false := by simp; omega
  have q125 : (x0 == 125) = false := by simp; omega
  have q192 : (x0 == 192) = false := by simp; omega
  have dl : decide ((0 : Int) < (l.length : Int)) = false := by rw [hl]; rfl
  have dl2 : decide (0 < l.length) = false := by rw [hl]; rfl
  have dl3 : ¬ (0 < l.length) := by rw [hl]; decide
  clear hl
  have c0 : ∀ o1, (w.alloc (.cells s.cells 39) |>.alloc o1).cell? ⟨w.heap.size, 0, none⟩ = some (.int .u32 x0) := fun o1 => by rw [cells_of (heap_alloc2_old w (.cells s.cells 39) o1), St.cR s 0 (by decide), h0]
  have c1 : ∀ o1, (w.alloc (.cells s.cells 39) |>.alloc o1).cell? ⟨w.heap.size, 1, none⟩ = some (.int .u32 x1) := fun o1 => by rw [cells_of (heap_alloc2_old w (.cells s.cells 39) o1), St.cR s 1 (by decide), h1]
  have c2 : ∀ o1, (w.alloc (.cells s.cells 39) |>.alloc o1).cell? ⟨w.heap.size, 2, none⟩ = some (.int .u32 x2) := fun o1 => by rw [cells_of (heap_alloc2_old w (.cells s.cells 39) o1), St.cR s 2 (by decide), h2]
  have c3 : ∀ o1, (w.alloc (.cells s.cells 39) |>.alloc o1).cell? ⟨w.heap.size, 3, none⟩ = some (.int .u32 x3) := fun o1 => by rw [cells_of (heap_alloc2_old w (.cells s.cells 39) o1), St.cR s 3 (by decide), h3]
  have H03 := Lib.hid (And.intro h0 (And.intro h1 (And.intro h2 h3)))
  clear hs hsR hx0 hx1 hx2 hx3 h0 h1 h2 h3 hd0 hr0 hh ne hr he n1 hn hq
  go_enter Try.func15, Try.ntmps15
  go_upto_region 3 with fail
  have hk := ((K0.out.lay s.cells 39).lay St.zero.cells 39).lay #[.int .u32 x0, .int .u32 x3, .int .u32 x1, .int .u32 x2, .int .u32 0, .string ByteArray.empty] 70
  simp at hk
  refine wp_world (B := fun w1 => Hs [rb, d] w [((w.heap.size + 1 + 1), .cells (evC x0 x3 x1 x2 (0) (ByteArray.empty)) 70 (0, 0)), ((w.heap.size + 1), .cells St.zero.cells 39 (0, 0)), (w.heap.size, .cells (St.cells (s)) 39 (0, 0)), (d, .cells #[.slice ra l.length rc, .string (inp), ev] 57 (0, 0)), (rb, .cells CR 30 (0, 0))] w1) hk ?_
  intro w1 hk1
  have K1 := Lib.hid hk1
  clear hk hk1 c0 c1 c2 c3 K0
  have f3 := evC_cells (K1.out.get 0 rfl)
  have f4 := free_of (K1.out.get 0 rfl)
  go_upto_region 5 with (have _t := K1; clear _t; go_at_call 39; refine (low_any 38 (by decide) _).mono ?_; rintro e w2 ⟨rfl, hu⟩; have K2 := Lib.hid (K1.out.quiet hu); clear f3 f4; have f3 := evC_cells (K2.out.get 0 rfl); have f4 := free_of (K2.out.get 0 rfl); clear hu K1)
  have hk := K2.out.cell 0 rfl 4 (.int .u32 (4294967258))
  refine wp_world (B := fun w1 => Hs [rb, d] w [((w.heap.size + 1 + 1), .cells (evC x0 x3 x1 x2 (4294967258) (ByteArray.empty)) 70 (0, 0)), ((w.heap.size + 1), .cells St.zero.cells 39 (0, 0)), (w.heap.size, .cells (St.cells (s)) 39 (0, 0)), (d, .cells #[(.slice ra l.length rc), .string (inp), ev] 57 (0, 0)), (rb, .cells CR 30 (0, 0))] w1) hk ?_
  intro wK3 hk1
  have K3 := Lib.hid hk1
  clear hk hk1 K2 f3 f4
  have f1 := cells_of (K3.out.get 3 rfl)
  go_upto_region 18 with fail
  clear f1
  have f3 := evC_cells (K3.out.get 0 rfl)
  have f5 := free_of (K3.out.get 2 rfl)
  have f6 := (cells_of (K3.out.get 2 rfl) 0).trans (St.cR s 0 (by decide))
  rw [H03.out.1] at f6
  go_upto_region 19 with fail
  have hk := K3.out.cell 2 rfl 0 (.int .u32 (4294967258))
  dsimp only [List.set] at hk
  rw [St.cells_setR s 0 _ (by decide)] at hk
  refine wp_world (B := fun w1 => Hs [rb, d] w [((w.heap.size + 1 + 1), .cells (evC x0 x3 x1 x2 (4294967258) (ByteArray.empty)) 70 (0, 0)), ((w.heap.size + 1), .cells St.zero.cells 39 (0, 0)), (w.heap.size, .cells (St.cells (s.setR 0 (4294967258))) 39 (0, 0)), (d, .cells #[(.slice ra l.length rc), .string (inp), ev] 57 (0, 0)), (rb, .cells CR 30 (0, 0))] w1) hk ?_
  intro wA hk1
  have KA := Lib.hid hk1
  clear hk hk1 K3 f3 f5 f6
  have HXD := Lib.hid (show (w.heap.size + 1 + 1) ≠ d from KA.out.ne 0 3 rfl rfl (by decide))
  have HEA := Lib.hid (HE.out.1.keep KA.out.u (by have h := HE.out.2.2; simp; omega))
  have HEL := Lib.hid (show L.length ≤ 9000 by have := HE.out.2.1; omega)
  refine wp_drawE 12 (Ke wA d L ⟨x0, x3, x1, x2, 4294967258, ByteArray.empty⟩ #[(.slice ra l.length rc), .string (inp), ev]) (fun _ _ => False) (by kernel_rfl) (by decide +kernel) (fun r0 => Ke.start (KA.out.get 3 rfl) r0) (fun _ _ _ h => h.elim) ?_
  simp only [List.take_succ_cons, List.take_zero, List.drop_succ_cons, List.drop_zero]
  apply headE_val0 rfl rfl
  · intro dn r0 K hd hdep hK w5 hB1
    skip
    have HB := Lib.hid (hB1.same 0 (by decide))
    clear hB1 hdep
    go_wp2_with fail
    first | exact hK _ HB.out | exact HB.out
  · exact ⟨_, rfl⟩
  apply headE_val0 rfl rfl
  · intro dn r0 K hd hdep hK w5 hB1
    skip
    have HB := Lib.hid (hB1.same 1 (by decide))
    clear hB1 hdep
    go_wp2_with fail
    first | exact hK _ HB.out | exact HB.out
  · exact ⟨_, rfl⟩
  apply headE_val0 rfl rfl
  · intro dn r0 K hd hdep hK w5 hB1
    skip
    have HB := Lib.hid (hB1.same 2 (by decide))
    clear hB1 hdep
    go_wp2_with fail
    first | exact hK _ HB.out | exact HB.out
  · exact ⟨_, rfl⟩
  apply headE_val0 rfl rfl
  · intro dn r0 K hd hdep hK w5 hB1
    skip
    have HB := Lib.hid (hB1.same 3 (by decide))
    clear hB1 hdep
    go_wp2_with fail
    first | exact hK _ HB.out | exact HB.out
  · exact ⟨_, rfl⟩
  apply headE_val0 rfl rfl
  · intro dn r0 K hd hdep hK w5 hB1
    have f1 := cells_of (hB1.at4 hd)
    have HB := Lib.hid (hB1.same 4 (by decide))
    clear hB1 hdep
    go_wp2_with fail
    first | exact hK _ HB.out | exact HB.out
  · exact ⟨_, rfl⟩
  refine headE_freeD rfl (fun _ => rfl) 80 rfl (by simp [Act.put]) ?_ ?_
  · intro dn r0 K hd hdep w5 hB2 hK
    have h4 : dn 4 = true := hdep ⟨4, .data⟩ (by simp) rfl
    refine wp_append_ev _ _ rfl wA.heap.size (.slice none 0 0) [] rfl (ownE_nil _ _) ev L g2 rfl (HEA.out.keep hB2.u (by have h := HE.out.2.2.2.2.1; simpa using h)) (by have := HEL.out; simp; omega) hB2.u.size ?_
    intro v' w6 ho hu
    rw [List.nil_append] at ho
    exact hK _ _ (hB2.first hd h4 ho hu)
  apply headE_val rfl (fun _ => rfl)
  · intro dn r0 K hd hdep hK w5 hB2
    have f3 := evC_cells (hB2.u.get (KA.out.get 0 rfl) (by have := HXD.out; simpa using this))
    have HB := Lib.hid (hB2.same 6 (by decide))
    clear hB2 hdep
    simp only [fillE]
    go_wp2_with fail
    first | exact hK _ HB.out | exact HB.out
  · exact ⟨_, fun _ => rfl, Eq.symm (by go_simp; exact rfl)⟩
  refine headE_freeD rfl (fun _ => rfl) 82 rfl (by simp [Act.put]) ?_ ?_
  · intro dn r0 K hd hdep w5 hB2 hK
    refine wp_buildEv ⟨x0, x3, x1, x2, 4294967258, ByteArray.empty⟩ _ rfl rfl ?_
    exact hK _ _ (hB2.lit hd)
  refine headE_freeD rfl (fun _ => rfl) 83 rfl (by simp [Act.put]) ?_ ?_
  · intro dn r0 K hd hdep w5 hB2 hK
    have h5 : dn 5 = true := hdep ⟨5, .data⟩ (by simp) rfl
    have h7 : dn 7 = true := hdep ⟨7, .data⟩ (by simp) rfl
    obtain ⟨g7, e7, b7⟩ := hB2.b hd h7
    refine wp_append_ev _ _ rfl wA.heap.size (r0 5) L rfl (hB2.a hd h5) (r0 7) [⟨x0, x3, x1, x2, 4294967258, ByteArray.empty⟩] g7 rfl (by rw [e7]; exact esl_one b7) (by have := HEL.out; simp; omega) hB2.u.size ?_
    intro v' w6 ho hu
    exact hK _ _ (hB2.second hd h5 h7 ho hu)
  apply headE_val rfl (fun _ => rfl)
  · intro dn r0 K hd hdep hK w5 hB2
    have HB := Lib.hid (hB2.same 9 (by decide))
    clear hB2 hdep
    simp only [fillE]
    go_wp2_with fail
    first | exact hK _ HB.out | exact HB.out
  · exact ⟨_, fun _ => rfl, Eq.symm (by go_simp; exact rfl)⟩
  apply headE_val rfl (fun _ => rfl)
  · intro dn r0 K hd hdep hK w5 hB2
    have HB := Lib.hid (hB2.same 10 (by decide))
    clear hB2 hdep
    simp only [fillE]
    go_wp2_with fail
    first | exact hK _ HB.out | exact HB.out
  · exact ⟨_, fun _ => rfl, Eq.symm (by go_simp; exact rfl)⟩
  apply headE_val rfl (fun _ => rfl)
  · intro dn r0 K hd hdep hK w5 hB2
    have h8 : dn 8 = true := hdep ⟨8, .data⟩ (by simp) rfl
    have e8 := (hB2.c h8).form2
    generalize slA (r0 8) = a8 at e8
    generalize slC (r0 8) = k8 at e8
    have hdd := hB2.dd
    rw [hd] at hdd
    have f1 := (cells_of hdd 2)
    have f4 := free_of hdd
    have HB := Lib.hid (hB2.store hd h8)
    have E8 := Lib.hid e8
    clear hB2 hdep hdd h8
    simp only [fillE]
    rw [e8]
    clear e8
    simp only [Bool.false_eq_true, if_false] at f1 f4
    go_wp2_with fail
    rw [← E8.out]
    first | exact hK _ HB.out | exact HB.out
  · exact ⟨undef, fun _ => rfl, Eq.symm (by go_simp; exact rfl)⟩
  refine headE_nil (fun _ r0 wB dn hall hB2 => ?_)
  have ho := hB2.c (hall 8 (by decide))
  obtain ⟨a8, k8, e8⟩ := ho.form
  rw [List.length_append, List.length_singleton] at e8
  have hdd := hB2.dd
  rw [hall 11 (by decide), if_pos rfl] at hdd
  have hk := KA.out.put 3 rfl hB2.u hdd
  dsimp only [List.set] at hk
  rw [e8] at hk ho
  obtain ⟨g3, hes, hg3⟩ := ho.esl
  have e2s : (#[(.slice ra l.length rc), .string (inp), ev] : Array Value).setIfInBounds 2 (.slice a8 (L.length + 1) k8) = #[(.slice ra l.length rc), .string (inp), .slice a8 (L.length + 1) k8] := rfl
  rw [e2s] at hk
  have KB := Lib.hid (show Hs [rb, d] w [((w.heap.size + 1 + 1), .cells (evC x0 x3 x1 x2 (4294967258) (ByteArray.empty)) 70 (0, 0)), ((w.heap.size + 1), .cells St.zero.cells 39 (0, 0)), (w.heap.size, .cells (St.cells (s.setR 0 (4294967258))) 39 (0, 0)), (d, .cells #[(.slice ra l.length rc), .string (inp), (.slice a8 (L.length + 1) k8)] 57 (0, 0)), (rb, .cells CR 30 (0, 0))] _ from hk)
  have HES := Lib.hid (And.intro hes (And.intro (Nat.le_trans KA.out.u.size hg3) (Nat.lt_of_lt_of_le (lt_of_heap (KA.out.get 1 rfl)) hg3)))
  have d200 : decide (200 < ((L.length + 1 : Nat) : Int)) = false := by have := HE.out.2.1; simp; omega
  obtain ⟨ln, hln⟩ : ∃ ln : Nat, L.length + 1 = ln := ⟨_, rfl⟩
  have f1 := cells_of (KB.out.get 3 rfl)
  rw [hln] at d200 f1
  clear hall hB2 hk hdd ho hes hg3 HEA KA e8
  simp only [fillE]
  generalize r0 5 = z5 at *
  generalize r0 7 = z7 at *
  generalize r0 8 = z8 at *
  have tk1 : True := trivial
  have tk2 : True := trivial
  go_wp2_with (first
    | (have _t := tk1; clear _t; refine at_load 39 rfl ?_; refine wpList_load_state (s.setR 0 (4294967258)) w.heap.size rfl _ rfl rfl (KB.out.get 2 rfl) ?_; clear tk1)
    | (have _t := tk2; clear _t; refine at_store 39 rfl ?_; refine wpList_store_state' (s.setR 0 (4294967258)) (w.heap.size + 1) rfl _ _ rfl rfl rfl (KB.out.get 1 rfl) rfl ?_; intro wD hw; have KC := Lib.hid (KB.out.put (w2 := wD) (o' := .cells (St.cells (s.setR 0 (4294967258))) 39 (0, 0)) 1 rfl (by rw [← hw]; exact (Upd.refl [w.heap.size + 1] wB).setCells (q := w.heap.size + 1) (.inl (by simp)) _ _) (by rw [← hw]; exact heap_store_state (s.setR 0 (4294967258)) (KB.out.get 1 rfl) rfl)); have HU := Lib.hid (show Upd [w.heap.size + 1] wB wD from (by rw [← hw]; exact (Upd.refl [w.heap.size + 1] wB).setCells (q := w.heap.size + 1) (.inl (by simp)) _ _)); clear hw tk2))
  refine bodyPost_ret (results_two' rfl (res_stateC 6 (w.heap.size + 1) (s.setR 0 (4294967258)) rfl (KC.out.get 1 rfl)) (res_tmp 7 rfl)) rfl ?_
  obtain ⟨h0, h1, h2, h3⟩ := H03.out
  rw [h0, h1, h2, h3]
  have hn := HE.out.2.2
  refine ⟨rfl, (.slice ra l.length rc), _, CR, HH.out, KC.out.get 3 rfl, KC.out.get 4 rfl, HR0.out.keep KC.out.u (by have h := HE.out.2.2; simp; omega), g3, HES.out.1.keep HU.out ?_, HES.out.2.1, KC.out.u⟩
  have hlt := HES.out.2.2
  simp; omega
set_option maxRecDepth 100000 in
set_option maxHeartbeats 8000000 in
theorem DoR_reply (M : Mem) (rb d g1 g2 : Nat) (x : Int) (t : List Int) (inp : ByteArray) (L : List Ev) (rv ev : Value) (CR : Array Value) (s : St) (w : World) (hh : HoldsR CR M ∧ M.Ok) (hd0 : w.heap[d]? = some (.cells #[rv, .string inp, ev] 57 (0, 0))) (hr0 : w.heap[rb]? = some (.cells CR 30 (0, 0))) (ne : rb ≠ d) (hr : Rp w rv (x :: t) g1) (he : ESl w ev L g2) (n1 : g1 ≠ d ∧ g1 ≠ rb ∧ g2 ≠ d ∧ g2 ≠ rb) (hs : s.Ok) (hn : L.length < 100) (hq : s.R 0 ≠ 1 ∧ s.R 0 ≠ 3 ∧ s.R 0 ≠ 4 ∧ s.R 0 ≠ 91 ∧ s.R 0 ≠ 125 ∧ s.R 0 ≠ 192) :
    Calls Try.prog 15 #[.pointer (some ⟨d, 0, none⟩), .pointer (some ⟨rb, 0, none⟩), .agg s.cells] w fun e w' => ∃ (rv2 ev2 : Value) (CR2 : Array Value) (g3 : Nat), e = .returned (.tuple #[.agg (s.setR 0 x).cells, .bool false]) ∧ (HoldsR CR2 M ∧ (M).Ok) ∧ w'.heap[d]? = some (.cells #[rv2, .string inp, ev2] 57 (0, 0)) ∧ w'.heap[rb]? = some (.cells CR2 30 (0, 0)) ∧ Rp w' rv2 t g1 ∧ ESl w' ev2 (L ++ [⟨s.R 0, s.R 3, s.R 1, s.R 2, x, ByteArray.empty⟩]) g3 ∧ w.heap.size ≤ g3 ∧ Upd [rb, d] w w' := by
  obtain ⟨o, sc, rfl, hsc⟩ := rp_open hr
  obtain ⟨sa2, hsl, hr2⟩ := rp_tail hr
  have HR0 := Lib.hid hr2
  have HRH := Lib.hid hr
  have hsR := hs.R
  obtain ⟨x0, h0⟩ : ∃ x, s.R 0 = x := ⟨_, rfl⟩
  obtain ⟨x1, h1⟩ : ∃ x, s.R 1 = x := ⟨_, rfl⟩
  obtain ⟨x2, h2⟩ : ∃ x, s.R 2 = x := ⟨_, rfl⟩
  obtain ⟨x3, h3⟩ : ∃ x, s.R 3 = x := ⟨_, rfl⟩
  have hx0 := hsR 0
  have hx1 := hsR 1
  have hx2 := hsR 2
  have hx3 := hsR 3
  rw [h0] at hx0
  rw [h1] at hx1
  rw [h2] at hx2
  rw [h3] at hx3
  rw [h0] at hq
  have HX := Lib.hid (And.intro hx0 (And.intro hx1 (And.intro hx2 hx3)))
  have K0 := Lib.hid (hs_two hd0 hr0 (fun e => ne e.symm))
  have HH := Lib.hid hh
  have HE := Lib.hid (And.intro he (And.intro hn n1))
  have q1 : (x0 == 1) = false := by simp; omega
  have q3 : (x0 == 3) = false := by simp; omega
  have q4 : (x0 == 4) = false := by simp; omega
  have q91 : (x0 == 91) = false := by simp; omega
  have q125 : (x0 == 125) = false := by simp; omega
  have q192 : (x0 == 192) = false := by simp; omega
  clear hr2 hsc
  have c0 : ∀ o1, (w.alloc (.cells s.cells 39) |>.alloc o1).cell? ⟨w.heap.size, 0, none⟩ = some (.int .u32 x0) := fun o1 => by rw [cells_of (heap_alloc2_old w (.cells s.cells 39) o1), St.cR s 0 (by decide), h0]
  have c1 : ∀ o1, (w.alloc (.cells s.cells 39) |>.alloc o1).cell? ⟨w.heap.size, 1, none⟩ = some (.int .u32 x1) := fun o1 => by rw [cells_of (heap_alloc2_old w (.cells s.cells 39) o1), St.cR s 1 (by decide), h1]
  have c2 : ∀ o1, (w.alloc (.cells s.cells 39) |>.alloc o1).cell? ⟨w.heap.size, 2, none⟩ = some (.int .u32 x2) := fun o1 => by rw [cells_of (heap_alloc2_old w (.cells s.cells 39) o1), St.cR s 2 (by decide), h2]
  have c3 : ∀ o1, (w.alloc (.cells s.cells 39) |>.alloc o1).cell? ⟨w.heap.size, 3, none⟩ = some (.int .u32 x3) := fun o1 => by rw [cells_of (heap_alloc2_old w (.cells s.cells 39) o1), St.cR s 3 (by decide), h3]
  have H03 := Lib.hid (And.intro h0 (And.intro h1 (And.intro h2 h3)))
  clear hs hsR hx0 hx1 hx2 hx3 h0 h1 h2 h3 hd0 hr0 hh ne hr he n1 hn hq
  go_enter Try.func15, Try.ntmps15
  go_upto_region 3 with fail
  have hk := ((K0.out.lay s.cells 39).lay St.zero.cells 39).lay #[.int .u32 x0, .int .u32 x3, .int .u32 x1, .int .u32 x2, .int .u32 0, .string ByteArray.empty] 70
  simp at hk
  refine wp_world (B := fun w1 => Hs [rb, d] w [((w.heap.size + 1 + 1), .cells (evC x0 x3 x1 x2 (0) (ByteArray.empty)) 70 (0, 0)), ((w.heap.size + 1), .cells St.zero.cells 39 (0, 0)), (w.heap.size, .cells (St.cells (s)) 39 (0, 0)), (d, .cells #[.slice (some ⟨g1, o, none⟩) (t.length + 1) sc, .string (inp), ev] 57 (0, 0)), (rb, .cells CR 30 (0, 0))] w1) hk ?_
  intro w1 hk1
  have K1 := Lib.hid hk1
  clear hk hk1 c0 c1 c2 c3 K0
  have f3 := evC_cells (K1.out.get 0 rfl)
  have f4 := free_of (K1.out.get 0 rfl)
  go_upto_region 5 with (have _t := K1; clear _t; go_at_call 39; refine (low_any 38 (by decide) _).mono ?_; rintro e w2 ⟨rfl, hu⟩; have K2 := Lib.hid (K1.out.quiet hu); clear f3 f4; have f3 := evC_cells (K2.out.get 0 rfl); have f4 := free_of (K2.out.get 0 rfl); clear hu K1)
  have hk := K2.out.cell 0 rfl 4 (.int .u32 (4294967258))
  refine wp_world (B := fun w1 => Hs [rb, d] w [((w.heap.size + 1 + 1), .cells (evC x0 x3 x1 x2 (4294967258) (ByteArray.empty)) 70 (0, 0)), ((w.heap.size + 1), .cells St.zero.cells 39 (0, 0)), (w.heap.size, .cells (St.cells (s)) 39 (0, 0)), (d, .cells #[(.slice (some ⟨g1, o, none⟩) (t.length + 1) sc), .string (inp), ev] 57 (0, 0)), (rb, .cells CR 30 (0, 0))] w1) hk ?_
  intro wK3 hk1
  have K3 := Lib.hid hk1
  clear hk hk1 K2 f3 f4
  have f1 := cells_of (K3.out.get 3 rfl)
  have f6 := rp_head HRH.out K3.out.u (by have h := HE.out.2.2; simp; omega)
  have f3 := evC_cells (K3.out.get 0 rfl)
  have f4 := free_of (K3.out.get 0 rfl)
  go_upto_region 7 with fail
  clear f1 f6
  have hk := K3.out.cell 0 rfl 4 (.int .u32 (x))
  refine wp_world (B := fun w1 => Hs [rb, d] w [((w.heap.size + 1 + 1), .cells (evC x0 x3 x1 x2 (x) (ByteArray.empty)) 70 (0, 0)), ((w.heap.size + 1), .cells St.zero.cells 39 (0, 0)), (w.heap.size, .cells (St.cells (s)) 39 (0, 0)), (d, .cells #[(.slice (some ⟨g1, o, none⟩) (t.length + 1) sc), .string (inp), ev] 57 (0, 0)), (rb, .cells CR 30 (0, 0))] w1) hk ?_
  intro wK4 hk1
  have K4 := Lib.hid hk1
  clear hk hk1 K3 f3 f4
  have f1 := cells_of (K4.out.get 3 rfl)
  have f2 := free_of (K4.out.get 3 rfl)
  go_upto_region 18 with fail
  have hk := K4.out.cell 3 rfl 0 (.slice sa2 t.length (sc - 1))
  refine wp_world (B := fun w1 => Hs [rb, d] w [((w.heap.size + 1 + 1), .cells (evC x0 x3 x1 x2 (x) (ByteArray.empty)) 70 (0, 0)), ((w.heap.size + 1), .cells St.zero.cells 39 (0, 0)), (w.heap.size, .cells (St.cells (s)) 39 (0, 0)), (d, .cells #[(.slice sa2 t.length (sc - 1)), .string (inp), ev] 57 (0, 0)), (rb, .cells CR 30 (0, 0))] w1) hk ?_
  intro wK5 hk1
  have K5 := Lib.hid hk1
  clear hk hk1 K4 f1 f2 hsl
  have f3 := evC_cells (K5.out.get 0 rfl)
  have f5 := free_of (K5.out.get 2 rfl)
  have f6 := (cells_of (K5.out.get 2 rfl) 0).trans (St.cR s 0 (by decide))
  rw [H03.out.1] at f6
  go_upto_region 19 with fail
  have hk := K5.out.cell 2 rfl 0 (.int .u32 (x))
  dsimp only [List.set] at hk
  rw [St.cells_setR s 0 _ (by decide)] at hk
  refine wp_world (B := fun w1 => Hs [rb, d] w [((w.heap.size + 1 + 1), .cells (evC x0 x3 x1 x2 (x) (ByteArray.empty)) 70 (0, 0)), ((w.heap.size + 1), .cells St.zero.cells 39 (0, 0)), (w.heap.size, .cells (St.cells (s.setR 0 (x))) 39 (0, 0)), (d, .cells #[(.slice sa2 t.length (sc - 1)), .string (inp), ev] 57 (0, 0)), (rb, .cells CR 30 (0, 0))] w1) hk ?_
  intro wA hk1
  have KA := Lib.hid hk1
  clear hk hk1 K5 f3 f5 f6
  have HXD := Lib.hid (show (w.heap.size + 1 + 1) ≠ d from KA.out.ne 0 3 rfl rfl (by decide))
  have HEA := Lib.hid (HE.out.1.keep KA.out.u (by have h := HE.out.2.2; simp; omega))
  have HEL := Lib.hid (show L.length ≤ 9000 by have := HE.out.2.1; omega)
  refine wp_drawE 12 (Ke wA d L ⟨x0, x3, x1, x2, x, ByteArray.empty⟩ #[(.slice sa2 t.length (sc - 1)), .string (inp), ev]) (fun _ _ => False) (by kernel_rfl) (by decide +kernel) (fun r0 => Ke.start (KA.out.get 3 rfl) r0) (fun _ _ _ h => h.elim) ?_
  simp only [List.take_succ_cons, List.take_zero, List.drop_succ_cons, List.drop_zero]
  apply headE_val0 rfl rfl
  · intro dn r0 K hd hdep hK w5 hB1
    skip
    have HB := Lib.hid (hB1.same 0 (by decide))
    clear hB1 hdep
    go_wp2_with fail
    first | exact hK _ HB.out | exact HB.out
  · exact ⟨_, rfl⟩
  apply headE_val0 rfl rfl
  · intro dn r0 K hd hdep hK w5 hB1
    skip
    have HB := Lib.hid (hB1.same 1 (by decide))
    clear hB1 hdep
    go_wp2_with fail
    first | exact hK _ HB.out | exact HB.out
  · exact ⟨_, rfl⟩
  apply headE_val0 rfl rfl
  · intro dn r0 K hd hdep hK w5 hB1
    skip
    have HB := Lib.hid (hB1.same 2 (by decide))
    clear hB1 hdep
    go_wp2_with fail
    first | exact hK _ HB.out | exact HB.out
  · exact ⟨_, rfl⟩
  apply headE_val0 rfl rfl
  · intro dn r0 K hd hdep hK w5 hB1
    skip
    have HB := Lib.hid (hB1.same 3 (by decide))
    clear hB1 hdep
    go_wp2_with fail
    first | exact hK _ HB.out | exact HB.out
  · exact ⟨_, rfl⟩
  apply headE_val0 rfl rfl
  · intro dn r0 K hd hdep hK w5 hB1
    have f1 := cells_of (hB1.at4 hd)
    have HB := Lib.hid (hB1.same 4 (by decide))
    clear hB1 hdep
    go_wp2_with fail
    first | exact hK _ HB.out | exact HB.out
  · exact ⟨_, rfl⟩
  refine headE_freeD rfl (fun _ => rfl) 80 rfl (by simp [Act.put]) ?_ ?_
  · intro dn r0 K hd hdep w5 hB2 hK
    have h4 : dn 4 = true := hdep ⟨4, .data⟩ (by simp) rfl
    refine wp_append_ev _ _ rfl wA.heap.size (.slice none 0 0) [] rfl (ownE_nil _ _) ev L g2 rfl (HEA.out.keep hB2.u (by have h := HE.out.2.2.2.2.1; simpa using h)) (by have := HEL.out; simp; omega) hB2.u.size ?_
    intro v' w6 ho hu
    rw [List.nil_append] at ho
    exact hK _ _ (hB2.first hd h4 ho hu)
  apply headE_val rfl (fun _ => rfl)
  · intro dn r0 K hd hdep hK w5 hB2
    have f3 := evC_cells (hB2.u.get (KA.out.get 0 rfl) (by have := HXD.out; simpa using this))
    have HB := Lib.hid (hB2.same 6 (by decide))
    clear hB2 hdep
    simp only [fillE]
    go_wp2_with fail
    first | exact hK _ HB.out | exact HB.out
  · exact ⟨_, fun _ => rfl, Eq.symm (by go_simp; exact rfl)⟩
  refine headE_freeD rfl (fun _ => rfl) 82 rfl (by simp [Act.put]) ?_ ?_
  · intro dn r0 K hd hdep w5 hB2 hK
    refine wp_buildEv ⟨x0, x3, x1, x2, x, ByteArray.empty⟩ _ rfl rfl ?_
    exact hK _ _ (hB2.lit hd)
  refine headE_freeD rfl (fun _ => rfl) 83 rfl (by simp [Act.put]) ?_ ?_
  · intro dn r0 K hd hdep w5 hB2 hK
    have h5 : dn 5 = true := hdep ⟨5, .data⟩ (by simp) rfl
    have h7 : dn 7 = true := hdep ⟨7, .data⟩ (by simp) rfl
    obtain ⟨g7, e7, b7⟩ := hB2.b hd h7
    refine wp_append_ev _ _ rfl wA.heap.size (r0 5) L rfl (hB2.a hd h5) (r0 7) [⟨x0, x3, x1, x2, x, ByteArray.empty⟩] g7 rfl (by rw [e7]; exact esl_one b7) (by have := HEL.out; simp; omega) hB2.u.size ?_
    intro v' w6 ho hu
    exact hK _ _ (hB2.second hd h5 h7 ho hu)
  apply headE_val rfl (fun _ => rfl)
  · intro dn r0 K hd hdep hK w5 hB2
    have HB := Lib.hid (hB2.same 9 (by decide))
    clear hB2 hdep
    simp only [fillE]
    go_wp2_with fail
    first | exact hK _ HB.out | exact HB.out
  · exact ⟨_, fun _ => rfl, Eq.symm (by go_simp; exact rfl)⟩
  apply headE_val rfl (fun _ => rfl)
  · intro dn r0 K hd hdep hK w5 hB2
    have HB := Lib.hid (hB2.same 10 (by decide))
    clear hB2 hdep
    simp only [fillE]
    go_wp2_with fail
    first | exact hK _ HB.out | exact HB.out
  · exact ⟨_, fun _ => rfl, Eq.symm (by go_simp; exact rfl)⟩
  apply headE_val rfl (fun _ => rfl)
  · intro dn r0 K hd hdep hK w5 hB2
    have h8 : dn 8 = true := hdep ⟨8, .data⟩ (by simp) rfl
    have e8 := (hB2.c h8).form2
    generalize slA (r0 8) = a8 at e8
    generalize slC (r0 8) = k8 at e8
    have hdd := hB2.dd
    rw [hd] at hdd
    have f1 := (cells_of hdd 2)
    have f4 := free_of hdd
    have HB := Lib.hid (hB2.store hd h8)
    have E8 := Lib.hid e8
    clear hB2 hdep hdd h8
    simp only [fillE]
    rw [e8]
    clear e8
    simp only [Bool.false_eq_true, if_false] at f1 f4
    go_wp2_with fail
    rw [← E8.out]
    first | exact hK _ HB.out | exact HB.out
  · exact ⟨undef, fun _ => rfl, Eq.symm (by go_simp; exact rfl)⟩
  refine headE_nil (fun _ r0 wB dn hall hB2 => ?_)
  have ho := hB2.c (hall 8 (by decide))
  obtain ⟨a8, k8, e8⟩ := ho.form
  rw [List.length_append, List.length_singleton] at e8
  have hdd := hB2.dd
  rw [hall 11 (by decide), if_pos rfl] at hdd
  have hk := KA.out.put 3 rfl hB2.u hdd
  dsimp only [List.set] at hk
  rw [e8] at hk ho
  obtain ⟨g3, hes, hg3⟩ := ho.esl
  have e2s : (#[(.slice sa2 t.length (sc - 1)), .string (inp), ev] : Array Value).setIfInBounds 2 (.slice a8 (L.length + 1) k8) = #[(.slice sa2 t.length (sc - 1)), .string (inp), .slice a8 (L.length + 1) k8] := rfl
  rw [e2s] at hk
  have KB := Lib.hid (show Hs [rb, d] w [((w.heap.size + 1 + 1), .cells (evC x0 x3 x1 x2 (x) (ByteArray.empty)) 70 (0, 0)), ((w.heap.size + 1), .cells St.zero.cells 39 (0, 0)), (w.heap.size, .cells (St.cells (s.setR 0 (x))) 39 (0, 0)), (d, .cells #[(.slice sa2 t.length (sc - 1)), .string (inp), (.slice a8 (L.length + 1) k8)] 57 (0, 0)), (rb, .cells CR 30 (0, 0))] _ from hk)
  have HES := Lib.hid (And.intro hes (And.intro (Nat.le_trans KA.out.u.size hg3) (Nat.lt_of_lt_of_le (lt_of_heap (KA.out.get 1 rfl)) hg3)))
  have d200 : decide (200 < ((L.length + 1 : Nat) : Int)) = false := by have := HE.out.2.1; simp; omega
  obtain ⟨ln, hln⟩ : ∃ ln : Nat, L.length + 1 = ln := ⟨_, rfl⟩
  have f1 := cells_of (KB.out.get 3 rfl)
  rw [hln] at d200 f1
  clear hall hB2 hk hdd ho hes hg3 HEA KA e8
  simp only [fillE]
  generalize r0 5 = z5 at *
  generalize r0 7 = z7 at *
  generalize r0 8 = z8 at *
  have tk1 : True := trivial
  have tk2 : True := trivial
  go_wp2_with (first
    | (have _t := tk1; clear _t; refine at_load 39 rfl ?_; refine wpList_load_state (s.setR 0 (x)) w.heap.size rfl _ rfl rfl (KB.out.get 2 rfl) ?_; clear tk1)
    | (have _t := tk2; clear _t; refine at_store 39 rfl ?_; refine wpList_store_state' (s.setR 0 (x)) (w.heap.size + 1) rfl _ _ rfl rfl rfl (KB.out.get 1 rfl) rfl ?_; intro wD hw; have KC := Lib.hid (KB.out.put (w2 := wD) (o' := .cells (St.cells (s.setR 0 (x))) 39 (0, 0)) 1 rfl (by rw [← hw]; exact (Upd.refl [w.heap.size + 1] wB).setCells (q := w.heap.size + 1) (.inl (by simp)) _ _) (by rw [← hw]; exact heap_store_state (s.setR 0 (x)) (KB.out.get 1 rfl) rfl)); have HU := Lib.hid (show Upd [w.heap.size + 1] wB wD from (by rw [← hw]; exact (Upd.refl [w.heap.size + 1] wB).setCells (q := w.heap.size + 1) (.inl (by simp)) _ _)); clear hw tk2))
  refine bodyPost_ret (results_two' rfl (res_stateC 6 (w.heap.size + 1) (s.setR 0 (x)) rfl (KC.out.get 1 rfl)) (res_tmp 7 rfl)) rfl ?_
  obtain ⟨h0, h1, h2, h3⟩ := H03.out
  rw [h0, h1, h2, h3]
  have hn := HE.out.2.2
  refine ⟨rfl, (.slice sa2 t.length (sc - 1)), _, CR, HH.out, KC.out.get 3 rfl, KC.out.get 4 rfl, HR0.out.keep KC.out.u (by have h := HE.out.2.2; simp; omega), g3, HES.out.1.keep HU.out ?_, HES.out.2.1, KC.out.u⟩
  have hlt := HES.out.2.2
  simp; omega
end Go.Proofs.Ytdgclmibbmofcaa

/-
  The document's calls: Do, each kind of call. No condition. Printed by gen_rcj.py.
-/
namespace Go.Proofs.Ytdgclmibbmofcaa
open Go Go.RowKit Go.Maps
set_option linter.unusedVariables false
set_option linter.unusedSimpArgs false

set_option maxRecDepth 100000 in
set_option maxHeartbeats 8000000 in
theorem DoR_write (M : Mem) (rb d g1 g2 : Nat) (l : List Int) (inp : ByteArray) (L : List Ev) (rv ev : Value) (CR : Array Value) (s : St) (w : World) (hh : HoldsR CR M ∧ M.Ok) (hd0 : w.heap[d]? = some (.cells #[rv, .string inp, ev] 57 (0, 0))) (hr0 : w.heap[rb]? = some (.cells CR 30 (0, 0))) (ne : rb ≠ d) (hr : Rp w rv l g1) (he : ESl w ev L g2) (n1 : g1 ≠ d ∧ g1 ≠ rb ∧ g2 ≠ d ∧ g2 ≠ rb) (hs : s.Ok) (hn : L.length < 100) (hq : s.R 0 = 4) :
    Calls Try.prog 15 #[.pointer (some ⟨d, 0, none⟩), .pointer (some ⟨rb, 0, none⟩), .agg s.cells] w fun e w' => ∃ (rv2 ev2 : Value) (CR2 : Array Value) (g3 : Nat), e = .returned (.tuple #[.agg (s.setR 0 (wrR M (s.R 1) (s.R 2))).cells, .bool false]) ∧ (HoldsR CR2 M ∧ (M).Ok) ∧ w'.heap[d]? = some (.cells #[rv2, .string inp, ev2] 57 (0, 0)) ∧ w'.heap[rb]? = some (.cells CR2 30 (0, 0)) ∧ Rp w' rv2 l g1 ∧ ESl w' ev2 (L ++ [⟨s.R 0, s.R 3, s.R 1, s.R 2, (wrR M (s.R 1) (s.R 2)), (wrS M (s.R 1) (s.R 2))⟩]) g3 ∧ w.heap.size ≤ g3 ∧ Upd [rb, d] w w' := by
  have HR0 := Lib.hid hr
  have hsR := hs.R
  obtain ⟨x0, h0⟩ : ∃ x, s.R 0 = x := ⟨_, rfl⟩
  obtain ⟨x1, h1⟩ : ∃ x, s.R 1 = x := ⟨_, rfl⟩
  obtain ⟨x2, h2⟩ : ∃ x, s.R 2 = x := ⟨_, rfl⟩
  obtain ⟨x3, h3⟩ : ∃ x, s.R 3 = x := ⟨_, rfl⟩
  have hx0 := hsR 0
  have hx1 := hsR 1
  have hx2 := hsR 2
  have hx3 := hsR 3
  rw [h0] at hx0
  rw [h1] at hx1
  rw [h2] at hx2
  rw [h3] at hx3
  rw [h0] at hq
  have HX := Lib.hid (And.intro hx0 (And.intro hx1 (And.intro hx2 hx3)))
  have K0 := Lib.hid (hs_two hd0 hr0 (fun e => ne e.symm))
  have HH := Lib.hid hh
  have HE := Lib.hid (And.intro he (And.intro hn n1))
  have q1 : (x0 == 1) = false := by simp; omega
  have q3 : (x0 == 3) = false := by simp; omega
  have q4 : (x0 == 4) = true := by simp; omega
  have c0 : ∀ o1, (w.alloc (.cells s.cells 39) |>.alloc o1).cell? ⟨w.heap.size, 0, none⟩ = some (.int .u32 x0) := fun o1 => by rw [cells_of (heap_alloc2_old w (.cells s.cells 39) o1), St.cR s 0 (by decide), h0]
  have c1 : ∀ o1, (w.alloc (.cells s.cells 39) |>.alloc o1).cell? ⟨w.heap.size, 1, none⟩ = some (.int .u32 x1) := fun o1 => by rw [cells_of (heap_alloc2_old w (.cells s.cells 39) o1), St.cR s 1 (by decide), h1]
  have c2 : ∀ o1, (w.alloc (.cells s.cells 39) |>.alloc o1).cell? ⟨w.heap.size, 2, none⟩ = some (.int .u32 x2) := fun o1 => by rw [cells_of (heap_alloc2_old w (.cells s.cells 39) o1), St.cR s 2 (by decide), h2]
  have c3 : ∀ o1, (w.alloc (.cells s.cells 39) |>.alloc o1).cell? ⟨w.heap.size, 3, none⟩ = some (.int .u32 x3) := fun o1 => by rw [cells_of (heap_alloc2_old w (.cells s.cells 39) o1), St.cR s 3 (by decide), h3]
  have H03 := Lib.hid (And.intro h0 (And.intro h1 (And.intro h2 h3)))
  clear hs hsR hx0 hx1 hx2 hx3 h0 h1 h2 h3 hd0 hr0 hh ne hr he n1 hn hq
  go_enter Try.func15, Try.ntmps15
  go_upto_region 3 with fail
  have hk := ((K0.out.lay s.cells 39).lay St.zero.cells 39).lay #[.int .u32 x0, .int .u32 x3, .int .u32 x1, .int .u32 x2, .int .u32 0, .string ByteArray.empty] 70
  simp at hk
  refine wp_world (B := fun w1 => Hs [rb, d] w [((w.heap.size + 1 + 1), .cells (evC x0 x3 x1 x2 (0) (ByteArray.empty)) 70 (0, 0)), ((w.heap.size + 1), .cells St.zero.cells 39 (0, 0)), (w.heap.size, .cells (St.cells (s)) 39 (0, 0)), (d, .cells #[rv, .string (inp), ev] 57 (0, 0)), (rb, .cells CR 30 (0, 0))] w1) hk ?_
  intro w1 hk1
  have K1 := Lib.hid hk1
  clear hk hk1 c0 c1 c2 c3 K0
  have f3 := evC_cells (K1.out.get 0 rfl)
  have f4 := free_of (K1.out.get 0 rfl)
  go_upto_region 18 with (have _t := K1; clear _t; go_at_call 37; refine (write_rc M rb d (w.heap.size + 1 + 1) rv ev inp x0 x3 x1 x2 CR _ HH.out (hs_three (K1.out.get 0 rfl) (K1.out.get 3 rfl) (K1.out.get 4 rfl) (K1.out.ne 0 3 rfl rfl (by decide)) (K1.out.ne 0 4 rfl rfl (by decide)) (K1.out.ne 3 4 rfl rfl (by decide))) HX.out.2.1 HX.out.2.2.1).mono ?_; rintro e w2 ⟨rfl, hk⟩; have K2 := Lib.hid (hs_join K1.out hk); clear hk K1 f3 f4)
  have f3 := evC_cells (K2.out.get 0 rfl)
  have f5 := free_of (K2.out.get 2 rfl)
  have f6 := (cells_of (K2.out.get 2 rfl) 0).trans (St.cR s 0 (by decide))
  rw [H03.out.1] at f6
  go_upto_region 19 with fail
  have hk := K2.out.cell 2 rfl 0 (.int .u32 (wrR M x1 x2))
  dsimp only [List.set] at hk
  rw [St.cells_setR s 0 _ (by decide)] at hk
  refine wp_world (B := fun w1 => Hs [rb, d] w [((w.heap.size + 1 + 1), .cells (evC x0 x3 x1 x2 (wrR M x1 x2) (wrS M x1 x2)) 70 (0, 0)), ((w.heap.size + 1), .cells St.zero.cells 39 (0, 0)), (w.heap.size, .cells (St.cells (s.setR 0 (wrR M x1 x2))) 39 (0, 0)), (d, .cells #[rv, .string (inp), ev] 57 (0, 0)), (rb, .cells CR 30 (0, 0))] w1) hk ?_
  intro wA hk1
  have KA := Lib.hid hk1
  clear hk hk1 K2 f3 f5 f6
  have HXD := Lib.hid (show (w.heap.size + 1 + 1) ≠ d from KA.out.ne 0 3 rfl rfl (by decide))
  have HEA := Lib.hid (HE.out.1.keep KA.out.u (by have h := HE.out.2.2; simp; omega))
  have HEL := Lib.hid (show L.length ≤ 9000 by have := HE.out.2.1; omega)
  refine wp_drawE 12 (Ke wA d L ⟨x0, x3, x1, x2, wrR M x1 x2, wrS M x1 x2⟩ #[rv, .string (inp), ev]) (fun _ _ => False) (by kernel_rfl) (by decide +kernel) (fun r0 => Ke.start (KA.out.get 3 rfl) r0) (fun _ _ _ h => h.elim) ?_
  simp only [List.take_succ_cons, List.take_zero, List.drop_succ_cons, List.drop_zero]
  apply headE_val0 rfl rfl
  · intro dn r0 K hd hdep hK w5 hB1
    skip
    have HB := Lib.hid (hB1.same 0 (by decide))
    clear hB1 hdep
    go_wp2_with fail
    first | exact hK _ HB.out | exact HB.out
  · exact ⟨_, rfl⟩
  apply headE_val0 rfl rfl
  · intro dn r0 K hd hdep hK w5 hB1
    skip
    have HB := Lib.hid (hB1.same 1 (by decide))
    clear hB1 hdep
    go_wp2_with fail
    first | exact hK _ HB.out | exact HB.out
  · exact ⟨_, rfl⟩
  apply headE_val0 rfl rfl
  · intro dn r0 K hd hdep hK w5 hB1
    skip
    have HB := Lib.hid (hB1.same 2 (by decide))
    clear hB1 hdep
    go_wp2_with fail
    first | exact hK _ HB.out | exact HB.out
  · exact ⟨_, rfl⟩
  apply headE_val0 rfl rfl
  · intro dn r0 K hd hdep hK w5 hB1
    skip
    have HB := Lib.hid (hB1.same 3 (by decide))
    clear hB1 hdep
    go_wp2_with fail
    first | exact hK _ HB.out | exact HB.out
  · exact ⟨_, rfl⟩
  apply headE_val0 rfl rfl
  · intro dn r0 K hd hdep hK w5 hB1
    have f1 := cells_of (hB1.at4 hd)
    have HB := Lib.hid (hB1.same 4 (by decide))
    clear hB1 hdep
    go_wp2_with fail
    first | exact hK _ HB.out | exact HB.out
  · exact ⟨_, rfl⟩
  refine headE_freeD rfl (fun _ => rfl) 80 rfl (by simp [Act.put]) ?_ ?_
  · intro dn r0 K hd hdep w5 hB2 hK
    have h4 : dn 4 = true := hdep ⟨4, .data⟩ (by simp) rfl
    refine wp_append_ev _ _ rfl wA.heap.size (.slice none 0 0) [] rfl (ownE_nil _ _) ev L g2 rfl (HEA.out.keep hB2.u (by have h := HE.out.2.2.2.2.1; simpa using h)) (by have := HEL.out; simp; omega) hB2.u.size ?_
    intro v' w6 ho hu
    rw [List.nil_append] at ho
    exact hK _ _ (hB2.first hd h4 ho hu)
  apply headE_val rfl (fun _ => rfl)
  · intro dn r0 K hd hdep hK w5 hB2
    have f3 := evC_cells (hB2.u.get (KA.out.get 0 rfl) (by have := HXD.out; simpa using this))
    have HB := Lib.hid (hB2.same 6 (by decide))
    clear hB2 hdep
    simp only [fillE]
    go_wp2_with fail
    first | exact hK _ HB.out | exact HB.out
  · exact ⟨_, fun _ => rfl, Eq.symm (by go_simp; exact rfl)⟩
  refine headE_freeD rfl (fun _ => rfl) 82 rfl (by simp [Act.put]) ?_ ?_
  · intro dn r0 K hd hdep w5 hB2 hK
    refine wp_buildEv ⟨x0, x3, x1, x2, wrR M x1 x2, wrS M x1 x2⟩ _ rfl rfl ?_
    exact hK _ _ (hB2.lit hd)
  refine headE_freeD rfl (fun _ => rfl) 83 rfl (by simp [Act.put]) ?_ ?_
  · intro dn r0 K hd hdep w5 hB2 hK
    have h5 : dn 5 = true := hdep ⟨5, .data⟩ (by simp) rfl
    have h7 : dn 7 = true := hdep ⟨7, .data⟩ (by simp) rfl
    obtain ⟨g7, e7, b7⟩ := hB2.b hd h7
    refine wp_append_ev _ _ rfl wA.heap.size (r0 5) L rfl (hB2.a hd h5) (r0 7) [⟨x0, x3, x1, x2, wrR M x1 x2, wrS M x1 x2⟩] g7 rfl (by rw [e7]; exact esl_one b7) (by have := HEL.out; simp; omega) hB2.u.size ?_
    intro v' w6 ho hu
    exact hK _ _ (hB2.second hd h5 h7 ho hu)
  apply headE_val rfl (fun _ => rfl)
  · intro dn r0 K hd hdep hK w5 hB2
    have HB := Lib.hid (hB2.same 9 (by decide))
    clear hB2 hdep
    simp only [fillE]
    go_wp2_with fail
    first | exact hK _ HB.out | exact HB.out
  · exact ⟨_, fun _ => rfl, Eq.symm (by go_simp; exact rfl)⟩
  apply headE_val rfl (fun _ => rfl)
  · intro dn r0 K hd hdep hK w5 hB2
    have HB := Lib.hid (hB2.same 10 (by decide))
    clear hB2 hdep
    simp only [fillE]
    go_wp2_with fail
    first | exact hK _ HB.out | exact HB.out
  · exact ⟨_, fun _ => rfl, Eq.symm (by go_simp; exact rfl)⟩
  apply headE_val rfl (fun _ => rfl)
  · intro dn r0 K hd hdep hK w5 hB2
    have h8 : dn 8 = true := hdep ⟨8, .data⟩ (by simp) rfl
    have e8 := (hB2.c h8).form2
    generalize slA (r0 8) = a8 at e8
    generalize slC (r0 8) = k8 at e8
    have hdd := hB2.dd
    rw [hd] at hdd
    have f1 := (cells_of hdd 2)
    have f4 := free_of hdd
    have HB := Lib.hid (hB2.store hd h8)
    have E8 := Lib.hid e8
    clear hB2 hdep hdd h8
    simp only [fillE]
    rw [e8]
    clear e8
    simp only [Bool.false_eq_true, if_false] at f1 f4
    go_wp2_with fail
    rw [← E8.out]
    first | exact hK _ HB.out | exact HB.out
  · exact ⟨undef, fun _ => rfl, Eq.symm (by go_simp; exact rfl)⟩
  refine headE_nil (fun _ r0 wB dn hall hB2 => ?_)
  have ho := hB2.c (hall 8 (by decide))
  obtain ⟨a8, k8, e8⟩ := ho.form
  rw [List.length_append, List.length_singleton] at e8
  have hdd := hB2.dd
  rw [hall 11 (by decide), if_pos rfl] at hdd
  have hk := KA.out.put 3 rfl hB2.u hdd
  dsimp only [List.set] at hk
  rw [e8] at hk ho
  obtain ⟨g3, hes, hg3⟩ := ho.esl
  have e2s : (#[rv, .string (inp), ev] : Array Value).setIfInBounds 2 (.slice a8 (L.length + 1) k8) = #[rv, .string (inp), .slice a8 (L.length + 1) k8] := rfl
  rw [e2s] at hk
  have KB := Lib.hid (show Hs [rb, d] w [((w.heap.size + 1 + 1), .cells (evC x0 x3 x1 x2 (wrR M x1 x2) (wrS M x1 x2)) 70 (0, 0)), ((w.heap.size + 1), .cells St.zero.cells 39 (0, 0)), (w.heap.size, .cells (St.cells (s.setR 0 (wrR M x1 x2))) 39 (0, 0)), (d, .cells #[rv, .string (inp), (.slice a8 (L.length + 1) k8)] 57 (0, 0)), (rb, .cells CR 30 (0, 0))] _ from hk)
  have HES := Lib.hid (And.intro hes (And.intro (Nat.le_trans KA.out.u.size hg3) (Nat.lt_of_lt_of_le (lt_of_heap (KA.out.get 1 rfl)) hg3)))
  have d200 : decide (200 < ((L.length + 1 : Nat) : Int)) = false := by have := HE.out.2.1; simp; omega
  obtain ⟨ln, hln⟩ : ∃ ln : Nat, L.length + 1 = ln := ⟨_, rfl⟩
  have f1 := cells_of (KB.out.get 3 rfl)
  rw [hln] at d200 f1
  clear hall hB2 hk hdd ho hes hg3 HEA KA e8
  simp only [fillE]
  generalize r0 5 = z5 at *
  generalize r0 7 = z7 at *
  generalize r0 8 = z8 at *
  have tk1 : True := trivial
  have tk2 : True := trivial
  go_wp2_with (first
    | (have _t := tk1; clear _t; refine at_load 39 rfl ?_; refine wpList_load_state (s.setR 0 (wrR M x1 x2)) w.heap.size rfl _ rfl rfl (KB.out.get 2 rfl) ?_; clear tk1)
    | (have _t := tk2; clear _t; refine at_store 39 rfl ?_; refine wpList_store_state' (s.setR 0 (wrR M x1 x2)) (w.heap.size + 1) rfl _ _ rfl rfl rfl (KB.out.get 1 rfl) rfl ?_; intro wD hw; have KC := Lib.hid (KB.out.put (w2 := wD) (o' := .cells (St.cells (s.setR 0 (wrR M x1 x2))) 39 (0, 0)) 1 rfl (by rw [← hw]; exact (Upd.refl [w.heap.size + 1] wB).setCells (q := w.heap.size + 1) (.inl (by simp)) _ _) (by rw [← hw]; exact heap_store_state (s.setR 0 (wrR M x1 x2)) (KB.out.get 1 rfl) rfl)); have HU := Lib.hid (show Upd [w.heap.size + 1] wB wD from (by rw [← hw]; exact (Upd.refl [w.heap.size + 1] wB).setCells (q := w.heap.size + 1) (.inl (by simp)) _ _)); clear hw tk2))
  refine bodyPost_ret (results_two' rfl (res_stateC 6 (w.heap.size + 1) (s.setR 0 (wrR M x1 x2)) rfl (KC.out.get 1 rfl)) (res_tmp 7 rfl)) rfl ?_
  obtain ⟨h0, h1, h2, h3⟩ := H03.out
  rw [h0, h1, h2, h3]
  have hn := HE.out.2.2
  refine ⟨rfl, rv, _, CR, HH.out, KC.out.get 3 rfl, KC.out.get 4 rfl, HR0.out.keep KC.out.u (by have h := HE.out.2.2; simp; omega), g3, HES.out.1.keep HU.out ?_, HES.out.2.1, KC.out.u⟩
  have hlt := HES.out.2.2
  simp; omega
set_option maxRecDepth 100000 in
set_option maxHeartbeats 8000000 in
theorem DoR_read (M : Mem) (rb d g1 g2 : Nat) (l : List Int) (inp : ByteArray) (L : List Ev) (rv ev : Value) (CR : Array Value) (s : St) (w : World) (hh : HoldsR CR M ∧ M.Ok) (hd0 : w.heap[d]? = some (.cells #[rv, .string inp, ev] 57 (0, 0))) (hr0 : w.heap[rb]? = some (.cells CR 30 (0, 0))) (ne : rb ≠ d) (hr : Rp w rv l g1) (he : ESl w ev L g2) (n1 : g1 ≠ d ∧ g1 ≠ rb ∧ g2 ≠ d ∧ g2 ≠ rb) (hs : s.Ok) (hn : L.length < 100) (hq : s.R 0 = 3) :
    Calls Try.prog 15 #[.pointer (some ⟨d, 0, none⟩), .pointer (some ⟨rb, 0, none⟩), .agg s.cells] w fun e w' => ∃ (RV : Int) (SV I2 : ByteArray) (M2 : Mem), RdPost M (s.R 1) (rdN inp (s.R 2)) inp RV SV I2 M2 ∧ (∃ (rv2 ev2 : Value) (CR2 : Array Value) (g3 : Nat), e = .returned (.tuple #[.agg (s.setR 0 RV).cells, .bool false]) ∧ (HoldsR CR2 M2 ∧ (M2).Ok) ∧ w'.heap[d]? = some (.cells #[rv2, .string I2, ev2] 57 (0, 0)) ∧ w'.heap[rb]? = some (.cells CR2 30 (0, 0)) ∧ Rp w' rv2 l g1 ∧ ESl w' ev2 (L ++ [⟨s.R 0, s.R 3, s.R 1, s.R 2, RV, SV⟩]) g3 ∧ w.heap.size ≤ g3 ∧ Upd [rb, d] w w') := by
  have HR0 := Lib.hid hr
  have hsR := hs.R
  obtain ⟨x0, h0⟩ : ∃ x, s.R 0 = x := ⟨_, rfl⟩
  obtain ⟨x1, h1⟩ : ∃ x, s.R 1 = x := ⟨_, rfl⟩
  obtain ⟨x2, h2⟩ : ∃ x, s.R 2 = x := ⟨_, rfl⟩
  obtain ⟨x3, h3⟩ : ∃ x, s.R 3 = x := ⟨_, rfl⟩
  have hx0 := hsR 0
  have hx1 := hsR 1
  have hx2 := hsR 2
  have hx3 := hsR 3
  rw [h0] at hx0
  rw [h1] at hx1
  rw [h2] at hx2
  rw [h3] at hx3
  rw [h0] at hq
  have HX := Lib.hid (And.intro hx0 (And.intro hx1 (And.intro hx2 hx3)))
  have K0 := Lib.hid (hs_two hd0 hr0 (fun e => ne e.symm))
  have HH := Lib.hid hh
  have HE := Lib.hid (And.intro he (And.intro hn n1))
  have q1 : (x0 == 1) = false := by simp; omega
  have q3 : (x0 == 3) = true := by simp; omega
  have c0 : ∀ o1, (w.alloc (.cells s.cells 39) |>.alloc o1).cell? ⟨w.heap.size, 0, none⟩ = some (.int .u32 x0) := fun o1 => by rw [cells_of (heap_alloc2_old w (.cells s.cells 39) o1), St.cR s 0 (by decide), h0]
  have c1 : ∀ o1, (w.alloc (.cells s.cells 39) |>.alloc o1).cell? ⟨w.heap.size, 1, none⟩ = some (.int .u32 x1) := fun o1 => by rw [cells_of (heap_alloc2_old w (.cells s.cells 39) o1), St.cR s 1 (by decide), h1]
  have c2 : ∀ o1, (w.alloc (.cells s.cells 39) |>.alloc o1).cell? ⟨w.heap.size, 2, none⟩ = some (.int .u32 x2) := fun o1 => by rw [cells_of (heap_alloc2_old w (.cells s.cells 39) o1), St.cR s 2 (by decide), h2]
  have c3 : ∀ o1, (w.alloc (.cells s.cells 39) |>.alloc o1).cell? ⟨w.heap.size, 3, none⟩ = some (.int .u32 x3) := fun o1 => by rw [cells_of (heap_alloc2_old w (.cells s.cells 39) o1), St.cR s 3 (by decide), h3]
  have H03 := Lib.hid (And.intro h0 (And.intro h1 (And.intro h2 h3)))
  clear hs hsR hx0 hx1 hx2 hx3 h0 h1 h2 h3 hd0 hr0 hh ne hr he n1 hn hq
  go_enter Try.func15, Try.ntmps15
  go_upto_region 3 with fail
  have hk := ((K0.out.lay s.cells 39).lay St.zero.cells 39).lay #[.int .u32 x0, .int .u32 x3, .int .u32 x1, .int .u32 x2, .int .u32 0, .string ByteArray.empty] 70
  simp at hk
  refine wp_world (B := fun w1 => Hs [rb, d] w [((w.heap.size + 1 + 1), .cells (evC x0 x3 x1 x2 (0) (ByteArray.empty)) 70 (0, 0)), ((w.heap.size + 1), .cells St.zero.cells 39 (0, 0)), (w.heap.size, .cells (St.cells (s)) 39 (0, 0)), (d, .cells #[rv, .string (inp), ev] 57 (0, 0)), (rb, .cells CR 30 (0, 0))] w1) hk ?_
  intro w1 hk1
  have K1 := Lib.hid hk1
  clear hk hk1 c0 c1 c2 c3 K0
  have f3 := evC_cells (K1.out.get 0 rfl)
  have f4 := free_of (K1.out.get 0 rfl)
  go_upto_region 18 with (have _t := K1; clear _t; go_at_call 36; refine (read_rc M rb d (w.heap.size + 1 + 1) rv ev inp x0 x3 x1 x2 CR _ HH.out (hs_three (K1.out.get 0 rfl) (K1.out.get 3 rfl) (K1.out.get 4 rfl) (K1.out.ne 0 3 rfl rfl (by decide)) (K1.out.ne 0 4 rfl rfl (by decide)) (K1.out.ne 3 4 rfl rfl (by decide))) HX.out.2.1 HX.out.2.2.1).mono ?_; rintro e w2 ⟨RV, SV, I2, M2, CR2, rfl, hpost, hh2, hk⟩; have K2 := Lib.hid (hs_join K1.out hk); have HP := Lib.hid hpost; have HR2 := Lib.hid hh2; clear hk K1 f3 f4 hpost hh2)
  have f3 := evC_cells (K2.out.get 0 rfl)
  have f5 := free_of (K2.out.get 2 rfl)
  have f6 := (cells_of (K2.out.get 2 rfl) 0).trans (St.cR s 0 (by decide))
  rw [H03.out.1] at f6
  go_upto_region 19 with fail
  have hk := K2.out.cell 2 rfl 0 (.int .u32 (RV))
  dsimp only [List.set] at hk
  rw [St.cells_setR s 0 _ (by decide)] at hk
  refine wp_world (B := fun w1 => Hs [rb, d] w [((w.heap.size + 1 + 1), .cells (evC x0 x3 x1 x2 (RV) (SV)) 70 (0, 0)), ((w.heap.size + 1), .cells St.zero.cells 39 (0, 0)), (w.heap.size, .cells (St.cells (s.setR 0 (RV))) 39 (0, 0)), (d, .cells #[rv, .string (I2), ev] 57 (0, 0)), (rb, .cells CR2 30 (0, 0))] w1) hk ?_
  intro wA hk1
  have KA := Lib.hid hk1
  clear hk hk1 K2 f3 f5 f6
  have HXD := Lib.hid (show (w.heap.size + 1 + 1) ≠ d from KA.out.ne 0 3 rfl rfl (by decide))
  have HEA := Lib.hid (HE.out.1.keep KA.out.u (by have h := HE.out.2.2; simp; omega))
  have HEL := Lib.hid (show L.length ≤ 9000 by have := HE.out.2.1; omega)
  refine wp_drawE 12 (Ke wA d L ⟨x0, x3, x1, x2, RV, SV⟩ #[rv, .string (I2), ev]) (fun _ _ => False) (by kernel_rfl) (by decide +kernel) (fun r0 => Ke.start (KA.out.get 3 rfl) r0) (fun _ _ _ h => h.elim) ?_
  simp only [List.take_succ_cons, List.take_zero, List.drop_succ_cons, List.drop_zero]
  apply headE_val0 rfl rfl
  · intro dn r0 K hd hdep hK w5 hB1
    skip
    have HB := Lib.hid (hB1.same 0 (by decide))
    clear hB1 hdep
    go_wp2_with fail
    first | exact hK _ HB.out | exact HB.out
  · exact ⟨_, rfl⟩
  apply headE_val0 rfl rfl
  · intro dn r0 K hd hdep hK w5 hB1
    skip
    have HB := Lib.hid (hB1.same 1 (by decide))
    clear hB1 hdep
    go_wp2_with fail
    first | exact hK _ HB.out | exact HB.out
  · exact ⟨_, rfl⟩
  apply headE_val0 rfl rfl
  · intro dn r0 K hd hdep hK w5 hB1
    skip
    have HB := Lib.hid (hB1.same 2 (by decide))
    clear hB1 hdep
    go_wp2_with fail
    first | exact hK _ HB.out | exact HB.out
  · exact ⟨_, rfl⟩
  apply headE_val0 rfl rfl
  · intro dn r0 K hd hdep hK w5 hB1
    skip
    have HB := Lib.hid (hB1.same 3 (by decide))
    clear hB1 hdep
    go_wp2_with fail
    first | exact hK _ HB.out | exact HB.out
  · exact ⟨_, rfl⟩
  apply headE_val0 rfl rfl
  · intro dn r0 K hd hdep hK w5 hB1
    have f1 := cells_of (hB1.at4 hd)
    have HB := Lib.hid (hB1.same 4 (by decide))
    clear hB1 hdep
    go_wp2_with fail
    first | exact hK _ HB.out | exact HB.out
  · exact ⟨_, rfl⟩
  refine headE_freeD rfl (fun _ => rfl) 80 rfl (by simp [Act.put]) ?_ ?_
  · intro dn r0 K hd hdep w5 hB2 hK
    have h4 : dn 4 = true := hdep ⟨4, .data⟩ (by simp) rfl
    refine wp_append_ev _ _ rfl wA.heap.size (.slice none 0 0) [] rfl (ownE_nil _ _) ev L g2 rfl (HEA.out.keep hB2.u (by have h := HE.out.2.2.2.2.1; simpa using h)) (by have := HEL.out; simp; omega) hB2.u.size ?_
    intro v' w6 ho hu
    rw [List.nil_append] at ho
    exact hK _ _ (hB2.first hd h4 ho hu)
  apply headE_val rfl (fun _ => rfl)
  · intro dn r0 K hd hdep hK w5 hB2
    have f3 := evC_cells (hB2.u.get (KA.out.get 0 rfl) (by have := HXD.out; simpa using this))
    have HB := Lib.hid (hB2.same 6 (by decide))
    clear hB2 hdep
    simp only [fillE]
    go_wp2_with fail
    first | exact hK _ HB.out | exact HB.out
  · exact ⟨_, fun _ => rfl, Eq.symm (by go_simp; exact rfl)⟩
  refine headE_freeD rfl (fun _ => rfl) 82 rfl (by simp [Act.put]) ?_ ?_
  · intro dn r0 K hd hdep w5 hB2 hK
    refine wp_buildEv ⟨x0, x3, x1, x2, RV, SV⟩ _ rfl rfl ?_
    exact hK _ _ (hB2.lit hd)
  refine headE_freeD rfl (fun _ => rfl) 83 rfl (by simp [Act.put]) ?_ ?_
  · intro dn r0 K hd hdep w5 hB2 hK
    have h5 : dn 5 = true := hdep ⟨5, .data⟩ (by simp) rfl
    have h7 : dn 7 = true := hdep ⟨7, .data⟩ (by simp) rfl
    obtain ⟨g7, e7, b7⟩ := hB2.b hd h7
    refine wp_append_ev _ _ rfl wA.heap.size (r0 5) L rfl (hB2.a hd h5) (r0 7) [⟨x0, x3, x1, x2, RV, SV⟩] g7 rfl (by rw [e7]; exact esl_one b7) (by have := HEL.out; simp; omega) hB2.u.size ?_
    intro v' w6 ho hu
    exact hK _ _ (hB2.second hd h5 h7 ho hu)
  apply headE_val rfl (fun _ => rfl)
  · intro dn r0 K hd hdep hK w5 hB2
    have HB := Lib.hid (hB2.same 9 (by decide))
    clear hB2 hdep
    simp only [fillE]
    go_wp2_with fail
    first | exact hK _ HB.out | exact HB.out
  · exact ⟨_, fun _ => rfl, Eq.symm (by go_simp; exact rfl)⟩
  apply headE_val rfl (fun _ => rfl)
  · intro dn r0 K hd hdep hK w5 hB2
    have HB := Lib.hid (hB2.same 10 (by decide))
    clear hB2 hdep
    simp only [fillE]
    go_wp2_with fail
    first | exact hK _ HB.out | exact HB.out
  · exact ⟨_, fun _ => rfl, Eq.symm (by go_simp; exact rfl)⟩
  apply headE_val rfl (fun _ => rfl)
  · intro dn r0 K hd hdep hK w5 hB2
    have h8 : dn 8 = true := hdep ⟨8, .data⟩ (by simp) rfl
    have e8 := (hB2.c h8).form2
    generalize slA (r0 8) = a8 at e8
    generalize slC (r0 8) = k8 at e8
    have hdd := hB2.dd
    rw [hd] at hdd
    have f1 := (cells_of hdd 2)
    have f4 := free_of hdd
    have HB := Lib.hid (hB2.store hd h8)
    have E8 := Lib.hid e8
    clear hB2 hdep hdd h8
    simp only [fillE]
    rw [e8]
    clear e8
    simp only [Bool.false_eq_true, if_false] at f1 f4
    go_wp2_with fail
    rw [← E8.out]
    first | exact hK _ HB.out | exact HB.out
  · exact ⟨undef, fun _ => rfl, Eq.symm (by go_simp; exact rfl)⟩
  refine headE_nil (fun _ r0 wB dn hall hB2 => ?_)
  have ho := hB2.c (hall 8 (by decide))
  obtain ⟨a8, k8, e8⟩ := ho.form
  rw [List.length_append, List.length_singleton] at e8
  have hdd := hB2.dd
  rw [hall 11 (by decide), if_pos rfl] at hdd
  have hk := KA.out.put 3 rfl hB2.u hdd
  dsimp only [List.set] at hk
  rw [e8] at hk ho
  obtain ⟨g3, hes, hg3⟩ := ho.esl
  have e2s : (#[rv, .string (I2), ev] : Array Value).setIfInBounds 2 (.slice a8 (L.length + 1) k8) = #[rv, .string (I2), .slice a8 (L.length + 1) k8] := rfl
  rw [e2s] at hk
  have KB := Lib.hid (show Hs [rb, d] w [((w.heap.size + 1 + 1), .cells (evC x0 x3 x1 x2 (RV) (SV)) 70 (0, 0)), ((w.heap.size + 1), .cells St.zero.cells 39 (0, 0)), (w.heap.size, .cells (St.cells (s.setR 0 (RV))) 39 (0, 0)), (d, .cells #[rv, .string (I2), (.slice a8 (L.length + 1) k8)] 57 (0, 0)), (rb, .cells CR2 30 (0, 0))] _ from hk)
  have HES := Lib.hid (And.intro hes (And.intro (Nat.le_trans KA.out.u.size hg3) (Nat.lt_of_lt_of_le (lt_of_heap (KA.out.get 1 rfl)) hg3)))
  have d200 : decide (200 < ((L.length + 1 : Nat) : Int)) = false := by have := HE.out.2.1; simp; omega
  obtain ⟨ln, hln⟩ : ∃ ln : Nat, L.length + 1 = ln := ⟨_, rfl⟩
  have f1 := cells_of (KB.out.get 3 rfl)
  rw [hln] at d200 f1
  clear hall hB2 hk hdd ho hes hg3 HEA KA e8
  simp only [fillE]
  generalize r0 5 = z5 at *
  generalize r0 7 = z7 at *
  generalize r0 8 = z8 at *
  have tk1 : True := trivial
  have tk2 : True := trivial
  go_wp2_with (first
    | (have _t := tk1; clear _t; refine at_load 39 rfl ?_; refine wpList_load_state (s.setR 0 (RV)) w.heap.size rfl _ rfl rfl (KB.out.get 2 rfl) ?_; clear tk1)
    | (have _t := tk2; clear _t; refine at_store 39 rfl ?_; refine wpList_store_state' (s.setR 0 (RV)) (w.heap.size + 1) rfl _ _ rfl rfl rfl (KB.out.get 1 rfl) rfl ?_; intro wD hw; have KC := Lib.hid (KB.out.put (w2 := wD) (o' := .cells (St.cells (s.setR 0 (RV))) 39 (0, 0)) 1 rfl (by rw [← hw]; exact (Upd.refl [w.heap.size + 1] wB).setCells (q := w.heap.size + 1) (.inl (by simp)) _ _) (by rw [← hw]; exact heap_store_state (s.setR 0 (RV)) (KB.out.get 1 rfl) rfl)); have HU := Lib.hid (show Upd [w.heap.size + 1] wB wD from (by rw [← hw]; exact (Upd.refl [w.heap.size + 1] wB).setCells (q := w.heap.size + 1) (.inl (by simp)) _ _)); clear hw tk2))
  refine bodyPost_ret (results_two' rfl (res_stateC 6 (w.heap.size + 1) (s.setR 0 (RV)) rfl (KC.out.get 1 rfl)) (res_tmp 7 rfl)) rfl ?_
  obtain ⟨h0, h1, h2, h3⟩ := H03.out
  rw [h0, h1, h2, h3]
  have hn := HE.out.2.2
  refine ⟨RV, SV, I2, M2, HP.out, rfl, rv, _, CR2, HR2.out, KC.out.get 3 rfl, KC.out.get 4 rfl, HR0.out.keep KC.out.u (by have h := HE.out.2.2; simp; omega), g3, HES.out.1.keep HU.out ?_, HES.out.2.1, KC.out.u⟩
  have hlt := HES.out.2.2
  simp; omega
end Go.Proofs.Ytdgclmibbmofcaa
