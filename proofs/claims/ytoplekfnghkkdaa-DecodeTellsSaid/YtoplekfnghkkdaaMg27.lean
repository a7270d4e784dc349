/-
  The document's decoder in Go: Decode, by its contract. No condition.
-/
import Derived.Test.YtoplekfnghkkdaaMg05
import Derived.Test.YtoplekfnghkkdaaMg26
import Derived.Test.YtoplekfnghkkdaaMg23
import Derived.Test.YtoplekfnghkkdaaMg21
namespace Go.Proofs.Ytoplekfnghkkdaa
open Go Go.RowKit
set_option linter.unusedVariables false
set_option linter.unusedSimpArgs false

theorem IsRd.new {w : World} {v : Value} {L : List Int} {g : Nat} (h : BArg w v L g) : IsRd ((w.alloc (.cells #[.int .i64 0, .int .i64 0, .int .i64 0, .int .i64 0, .int .u32 0, .int .i64 0, .int .i64 0, .int .u32 0, .int .i64 0, .int .i64 0, .int .u32 0, .int .i64 0, .int .i64 0, .int .u32 0, .bool false, .int .i64 0] 28)).alloc (.cells #[v, .int .i64 0, .bool false, .bool false] 115)) (w.heap.size + 1) v L g ⟨0, false, false⟩ := by
  have u : Upd [] w ((w.alloc (.cells #[.int .i64 0, .int .i64 0, .int .i64 0, .int .i64 0, .int .u32 0, .int .i64 0, .int .i64 0, .int .u32 0, .int .i64 0, .int .i64 0, .int .u32 0, .int .i64 0, .int .i64 0, .int .u32 0, .bool false, .int .i64 0] 28)).alloc (.cells #[v, .int .i64 0, .bool false, .bool false] 115)) := ((Upd.refl [] w).alloc _).alloc _
  have n := heap_alloc_new (w.alloc (.cells #[.int .i64 0, .int .i64 0, .int .i64 0, .int .i64 0, .int .u32 0, .int .i64 0, .int .i64 0, .int .u32 0, .int .i64 0, .int .i64 0, .int .u32 0, .int .i64 0, .int .i64 0, .int .u32 0, .bool false, .int .i64 0] 28)) (.cells #[v, .int .i64 0, .bool false, .bool false] 115)
  rw [show (w.alloc (.cells #[.int .i64 0, .int .i64 0, .int .i64 0, .int .i64 0, .int .u32 0, .int .i64 0, .int .i64 0, .int .u32 0, .int .i64 0, .int .i64 0, .int .u32 0, .int .i64 0, .int .i64 0, .int .u32 0, .bool false, .int .i64 0] 28)).heap.size = w.heap.size + 1 from by simp] at n
  exact ⟨n, h.b.keep u (by simp), Nat.zero_le _, h.n, by have := h.g; omega, h.r, h.c⟩

/-- Along the walk: the reader, the result's variable, the instruction's. -/
structure DeQ (w : World) (v : Value) (L : List Int) (g : Nat) (s : Rd) (i : Ins) (ib : Nat) (w1 : World) : Prop where
  h : IsRd w1 (w.heap.size + 1) v L g s
  r : w1.heap[w.heap.size]? = some (.cells Ins.zero.cells 28 (0, 0))
  i : w1.heap[ib]? = some (.cells i.cells 28 (0, 0))
  u : Upd [] w w1
  l : w.heap.size + 1 < ib

section
variable {w w1 w2 w3 : World} {v : Value} {L : List Int} {g ib : Nat} {s : Rd} {i : Ins}
theorem DeQ.start (hr : IsRd w2 (w.heap.size + 1) v L g s) (hu : Upd [w.heap.size + 1] ((w.alloc (.cells #[.int .i64 0, .int .i64 0, .int .i64 0, .int .i64 0, .int .u32 0, .int .i64 0, .int .i64 0, .int .u32 0, .int .i64 0, .int .i64 0, .int .u32 0, .int .i64 0, .int .i64 0, .int .u32 0, .bool false, .int .i64 0] 28)).alloc (.cells #[v, .int .i64 0, .bool false, .bool false] 115)) w2) (hw : (w2.alloc (.cells Ins.zero.cells 28)).setCells w2.heap.size 0 i.cells.toList = w3) : DeQ w v L g s i w2.heap.size w3 := by
  obtain ⟨z1, z2⟩ := ins_new (S := []) (w0 := w2) hw (heap_alloc_new w2 (.cells Ins.zero.cells 28)) rfl ((Upd.refl [] w2).alloc _) (.inr (Nat.le_refl _))
  have hd := hr.lt
  have u0 : Upd [] w w2 := (((Upd.refl [] w).alloc (.cells #[.int .i64 0, .int .i64 0, .int .i64 0, .int .i64 0, .int .u32 0, .int .i64 0, .int .i64 0, .int .u32 0, .int .i64 0, .int .i64 0, .int .u32 0, .int .i64 0, .int .i64 0, .int .u32 0, .bool false, .int .i64 0] 28)).alloc (.cells #[v, .int .i64 0, .bool false, .bool false] 115)).also hu (by simp)
  have r0 : w2.heap[w.heap.size]? = some (.cells #[.int .i64 0, .int .i64 0, .int .i64 0, .int .i64 0, .int .u32 0, .int .i64 0, .int .i64 0, .int .u32 0, .int .i64 0, .int .i64 0, .int .u32 0, .int .i64 0, .int .i64 0, .int .u32 0, .bool false, .int .i64 0] 28) := hu.get (heap_alloc_keep _ (heap_alloc_new w (.cells #[.int .i64 0, .int .i64 0, .int .i64 0, .int .i64 0, .int .u32 0, .int .i64 0, .int .i64 0, .int .u32 0, .int .i64 0, .int .i64 0, .int .u32 0, .int .i64 0, .int .i64 0, .int .u32 0, .bool false, .int .i64 0] 28))) (by simp)
  exact ⟨hr.step z2, z2.get r0 (by simp), z1, u0.also z2 (by simp), hd⟩
theorem DeQ.step (h : DeQ w v L g s i ib w1) (u : Upd [] w1 w2) : DeQ w v L g s i ib w2 := ⟨h.h.step u, u.get h.r (by simp), u.get h.i (by simp), h.u.also u (by simp), h.l⟩
theorem DeQ.len (h : DeQ w v L g s i ib w1) (k : Int) : (w1.setCell ⟨ib, 15, none⟩ (.int .i64 k)).heap[ib]? = some (.cells ({ i with len := k } : Ins).cells 28 (0, 0)) ∧ (w1.setCell ⟨ib, 15, none⟩ (.int .i64 k)).heap[w.heap.size]? = some (.cells Ins.zero.cells 28 (0, 0)) ∧ Upd [] w (w1.setCell ⟨ib, 15, none⟩ (.int .i64 k)) := by
  have l := h.l
  exact ⟨heap_set_same h.i 15 (.int .i64 k), ((Upd.refl [ib] w1).setCell (p := ⟨ib, 15, none⟩) (by simp) _).get h.r (by simp; omega), h.u.also ((Upd.refl [ib] w1).setCell (p := ⟨ib, 15, none⟩) (by simp) (.int .i64 k)) (by simp; omega)⟩
theorem de_fin (hr : w1.heap[w.heap.size]? = some (.cells Ins.zero.cells 28 (0, 0))) (hu : Upd [] w w1) (hw : w1.setCells w.heap.size 0 i.cells.toList = w2) : w2.heap[w.heap.size]? = some (.cells i.cells 28 (0, 0)) ∧ Upd [] w w2 :=
  ins_new hw hr rfl hu (.inr (Nat.le_refl _))
end

set_option maxRecDepth 100000 in
set_option maxHeartbeats 2000000 in
theorem rdec_sh (v : Value) (L : List Int) (g : Nat) (w : World) (hv : BArg w v L g) (k : Nat) (bd : Bool) (e : Bool) (i : Ins) (hq : reInsn L ⟨0, false, false⟩ = ⟨i, e, ⟨k, true, bd⟩⟩) :
    Calls Try.prog 14 #[v] w fun e w' => e = .returned (.tuple #[(Ins.zero : Ins).val, .int .i64 10]) ∧ Upd [] w w' := by
  obtain ⟨sb, sc, rfl⟩ := hv.b.form
  have H1 := Lib.hid hv
  have HQ := Lib.hid hq
  clear hv hq
  go_enter Try.func14, Try.ntmps14
  go_wp2_with (first | (have _t := H1; clear _t; go_at_call 53; refine (rinsn_any (w.heap.size + 1) g 0 _ L _ (IsRd.new H1.out)).mono ?_; rintro e w2 ⟨rfl, h, hu⟩; rw [HQ.out] at h ⊢; have H2 := Lib.hid (And.intro h hu); clear h hu H1) | (have _t := H2; clear _t; refine at_store 28 rfl ?_; refine wpList_store_ins i w2.heap.size rfl _ _ rfl rfl rfl (heap_alloc_new w2 (.cells Ins.zero.cells 28)) rfl ?_; intro w3 hw; have H3 := Lib.hid (DeQ.start H2.out.1 H2.out.2 hw); have cs := cells_of H3.out.h.h; have ci := cells_of H3.out.i; unfold Ins.cells at ci; clear hw H2) | (have _t := H3; clear _t; refine at_store 28 rfl ?_; refine wpList_store_ins Ins.zero w.heap.size rfl _ _ rfl rfl rfl H3.out.r rfl ?_; intro w5 hw; have H5 := Lib.hid (de_fin H3.out.r H3.out.u hw); clear hw H3))
  exact bodyPost_ret (results_two' rfl (res_ins 2 w.heap.size _ rfl H5.out.1) (res_tmp 3 rfl)) rfl ⟨rfl, H5.out.2⟩

set_option maxRecDepth 100000 in
set_option maxHeartbeats 2000000 in
theorem rdec_bd (v : Value) (L : List Int) (g : Nat) (w : World) (hv : BArg w v L g) (k : Nat) (e : Bool) (i : Ins) (hq : reInsn L ⟨0, false, false⟩ = ⟨i, e, ⟨k, false, true⟩⟩) :
    Calls Try.prog 14 #[v] w fun e w' => e = .returned (.tuple #[(Ins.zero : Ins).val, .int .i64 90]) ∧ Upd [] w w' := by
  obtain ⟨sb, sc, rfl⟩ := hv.b.form
  have H1 := Lib.hid hv
  have HQ := Lib.hid hq
  clear hv hq
  go_enter Try.func14, Try.ntmps14
  go_wp2_with (first | (have _t := H1; clear _t; go_at_call 53; refine (rinsn_any (w.heap.size + 1) g 0 _ L _ (IsRd.new H1.out)).mono ?_; rintro e w2 ⟨rfl, h, hu⟩; rw [HQ.out] at h ⊢; have H2 := Lib.hid (And.intro h hu); clear h hu H1) | (have _t := H2; clear _t; refine at_store 28 rfl ?_; refine wpList_store_ins i w2.heap.size rfl _ _ rfl rfl rfl (heap_alloc_new w2 (.cells Ins.zero.cells 28)) rfl ?_; intro w3 hw; have H3 := Lib.hid (DeQ.start H2.out.1 H2.out.2 hw); have cs := cells_of H3.out.h.h; have ci := cells_of H3.out.i; unfold Ins.cells at ci; clear hw H2) | (have _t := H3; clear _t; refine at_store 28 rfl ?_; refine wpList_store_ins Ins.zero w.heap.size rfl _ _ rfl rfl rfl H3.out.r rfl ?_; intro w5 hw; have H5 := Lib.hid (de_fin H3.out.r H3.out.u hw); clear hw H3))
  exact bodyPost_ret (results_two' rfl (res_ins 2 w.heap.size _ rfl H5.out.1) (res_tmp 3 rfl)) rfl ⟨rfl, H5.out.2⟩

set_option maxRecDepth 100000 in
set_option maxHeartbeats 2000000 in
theorem rdec_e (v : Value) (L : List Int) (g : Nat) (w : World) (hv : BArg w v L g) (k : Nat) (i : Ins) (hq : reInsn L ⟨0, false, false⟩ = ⟨i, true, ⟨k, false, false⟩⟩) :
    Calls Try.prog 14 #[v] w fun e w' => e = .returned (.tuple #[(Ins.zero : Ins).val, .int .i64 12]) ∧ Upd [] w w' := by
  obtain ⟨sb, sc, rfl⟩ := hv.b.form
  have H1 := Lib.hid hv
  have HQ := Lib.hid hq
  clear hv hq
  go_enter Try.func14, Try.ntmps14
  go_wp2_with (first | (have _t := H1; clear _t; go_at_call 53; refine (rinsn_any (w.heap.size + 1) g 0 _ L _ (IsRd.new H1.out)).mono ?_; rintro e w2 ⟨rfl, h, hu⟩; rw [HQ.out] at h ⊢; have H2 := Lib.hid (And.intro h hu); clear h hu H1) | (have _t := H2; clear _t; refine at_store 28 rfl ?_; refine wpList_store_ins i w2.heap.size rfl _ _ rfl rfl rfl (heap_alloc_new w2 (.cells Ins.zero.cells 28)) rfl ?_; intro w3 hw; have H3 := Lib.hid (DeQ.start H2.out.1 H2.out.2 hw); have cs := cells_of H3.out.h.h; have ci := cells_of H3.out.i; unfold Ins.cells at ci; clear hw H2) | (have _t := H3; clear _t; refine at_store 28 rfl ?_; refine wpList_store_ins Ins.zero w.heap.size rfl _ _ rfl rfl rfl H3.out.r rfl ?_; intro w5 hw; have H5 := Lib.hid (de_fin H3.out.r H3.out.u hw); clear hw H3))
  exact bodyPost_ret (results_two' rfl (res_ins 2 w.heap.size _ rfl H5.out.1) (res_tmp 3 rfl)) rfl ⟨rfl, H5.out.2⟩

set_option maxRecDepth 100000 in
set_option maxHeartbeats 2000000 in
theorem rdec_no (v : Value) (L : List Int) (g : Nat) (w : World) (hv : BArg w v L g) (k : Nat) (i : Ins) (hq : reInsn L ⟨0, false, false⟩ = ⟨i, false, ⟨k, false, false⟩⟩) (hi : isB i = false) :
    Calls Try.prog 14 #[v] w fun e w' => e = .returned (.tuple #[(Ins.zero : Ins).val, .int .i64 12]) ∧ Upd [] w w' := by
  obtain ⟨sb, sc, rfl⟩ := hv.b.form
  have H1 := Lib.hid hv
  have HQ := Lib.hid hq
  have HIs := Lib.hid hi
  clear hv hq hi
  go_enter Try.func14, Try.ntmps14
  go_wp2_with (first | (have _t := H1; clear _t; go_at_call 53; refine (rinsn_any (w.heap.size + 1) g 0 _ L _ (IsRd.new H1.out)).mono ?_; rintro e w2 ⟨rfl, h, hu⟩; rw [HQ.out] at h ⊢; have H2 := Lib.hid (And.intro h hu); clear h hu H1) | (have _t := H2; clear _t; refine at_store 28 rfl ?_; refine wpList_store_ins i w2.heap.size rfl _ _ rfl rfl rfl (heap_alloc_new w2 (.cells Ins.zero.cells 28)) rfl ?_; intro w3 hw; have H3 := Lib.hid (DeQ.start H2.out.1 H2.out.2 hw); have cs := cells_of H3.out.h.h; have ci := cells_of H3.out.i; unfold Ins.cells at ci; clear hw H2) | (have _t := H3; clear _t; go_at_call 54; refine (Is9_any i _).mono ?_; rintro e w4 ⟨rfl, hu⟩; rw [HIs.out]; have H4 := Lib.hid (H3.out.step hu); clear cs ci; have cs := cells_of H4.out.h.h; have ci := cells_of H4.out.i; unfold Ins.cells at ci; have fi := free_of H4.out.i; clear hu H3) | (have _t := H4; clear _t; refine at_store 28 rfl ?_; refine wpList_store_ins Ins.zero w.heap.size rfl _ _ rfl rfl rfl H4.out.r rfl ?_; intro w5 hw; have H5 := Lib.hid (de_fin H4.out.r H4.out.u hw); clear hw H4))
  exact bodyPost_ret (results_two' rfl (res_ins 2 w.heap.size _ rfl H5.out.1) (res_tmp 3 rfl)) rfl ⟨rfl, H5.out.2⟩

set_option maxRecDepth 100000 in
set_option maxHeartbeats 2000000 in
theorem rdec_ok (v : Value) (L : List Int) (g : Nat) (w : World) (hv : BArg w v L g) (k : Nat) (i : Ins) (hq : reInsn L ⟨0, false, false⟩ = ⟨i, false, ⟨k, false, false⟩⟩) (hi : isB i = true) :
    Calls Try.prog 14 #[v] w fun e w' => e = .returned (.tuple #[({ i with len := (k : Int) } : Ins).val, .int .i64 0]) ∧ Upd [] w w' := by
  obtain ⟨sb, sc, rfl⟩ := hv.b.form
  have H1 := Lib.hid hv
  have HQ := Lib.hid hq
  have HIs := Lib.hid hi
  clear hv hq hi
  go_enter Try.func14, Try.ntmps14
  go_wp2_with (first | (have _t := H1; clear _t; go_at_call 53; refine (rinsn_any (w.heap.size + 1) g 0 _ L _ (IsRd.new H1.out)).mono ?_; rintro e w2 ⟨rfl, h, hu⟩; rw [HQ.out] at h ⊢; have H2 := Lib.hid (And.intro h hu); clear h hu H1) | (have _t := H2; clear _t; refine at_store 28 rfl ?_; refine wpList_store_ins i w2.heap.size rfl _ _ rfl rfl rfl (heap_alloc_new w2 (.cells Ins.zero.cells 28)) rfl ?_; intro w3 hw; have H3 := Lib.hid (DeQ.start H2.out.1 H2.out.2 hw); have cs := cells_of H3.out.h.h; have ci := cells_of H3.out.i; unfold Ins.cells at ci; clear hw H2) | (have _t := H3; clear _t; go_at_call 54; refine (Is9_any i _).mono ?_; rintro e w4 ⟨rfl, hu⟩; rw [HIs.out]; have H4 := Lib.hid (H3.out.step hu); clear cs ci; have cs := cells_of H4.out.h.h; have ci := cells_of H4.out.i; unfold Ins.cells at ci; have fi := free_of H4.out.i; clear hu H3) | (have _t := H4; clear _t; refine at_load 28 rfl ?_; refine wpList_load_ins ({ i with len := k } : Ins) w2.heap.size rfl _ rfl rfl (H4.out.len k).1 ?_) | (have _t := H4; clear _t; refine at_store 28 rfl ?_; refine wpList_store_ins ({ i with len := k } : Ins) w.heap.size rfl _ _ rfl rfl rfl (H4.out.len k).2.1 rfl ?_; intro w5 hw; have H5 := Lib.hid (de_fin (H4.out.len k).2.1 (H4.out.len k).2.2 hw); clear hw H4))
  exact bodyPost_ret (results_two' rfl (res_ins 2 w.heap.size _ rfl H5.out.1) (res_tmp 3 rfl)) rfl ⟨rfl, H5.out.2⟩

theorem Decode_ref (v : Value) (L : List Int) (g : Nat) (w : World) (hv : BArg w v L g) :
    Calls Try.prog 14 #[v] w fun e w' => e = .returned (.tuple #[(refI L).val, .int .i64 (refE L)]) ∧ Upd [] w w' := by
  obtain ⟨⟨i, e, ⟨k, sh, bd⟩⟩, hq⟩ : ∃ q, reInsn L ⟨0, false, false⟩ = q := ⟨_, rfl⟩
  have hI : refI L = if sh = true ∨ bd = true ∨ e = true ∨ isB i = false then Ins.zero else { i with len := (k : Int) } := by unfold refI; rw [hq]
  have hE : refE L = if sh = true then 10 else if bd = true then 90 else if e = true ∨ isB i = false then 12 else 0 := by unfold refE; rw [hq]
  rw [hI, hE]
  cases sh
  · cases bd
    · cases e
      · cases hi : isB i
        · simp only [Bool.false_eq_true, false_or, or_true, if_true, if_false]
          exact rdec_no v L g w hv k i hq hi
        · simp only [Bool.false_eq_true, Bool.true_eq_false, false_or, if_false]
          exact rdec_ok v L g w hv k i hq hi
      · simp only [Bool.false_eq_true, false_or, true_or, if_true, if_false]
        exact rdec_e v L g w hv k i hq
    · simp only [Bool.false_eq_true, false_or, true_or, if_true, if_false]
      exact rdec_bd v L g w hv k e i hq
  · simp only [true_or, if_true]
    exact rdec_sh v L g w hv k bd e i hq

end Go.Proofs.Ytoplekfnghkkdaa

/-
  The document's decoder against the decoder, both as plain data: of every bytes they tell the same. No condition; no program in sight.
-/
namespace Go.Proofs.Ytoplekfnghkkdaa
open Go Go.RowKit
set_option linter.unusedVariables false
set_option linter.unusedSimpArgs false

theorem mem_ne_reg {o : Opd} {r : Int} (h : o.k = 3) : ¬ o = regO r := by
  intro e
  rw [e] at h
  exact absurd h (by simp [regO])
theorem regO_inj {a b : Int} (h : regO a = regO b) : a = b := congrArg Opd.r h

theorem rel_217 {L : List Int} (hL : BOk L) :
    Rel ((dcByte L 1).bind fun x k => if x = 224 then .ok (bareI 51) k else if x = 225 then .ok (bareI 52) k else .err 12) (reModded L 217 (Rd.at 1)) := by
  have hx := reB_range hL (Rd.at 1)
  refine rel_modded hL 217 rfl (by decide) _ (fun m k => if m.mod = 3 ∧ m.reg = 4 ∧ m.rm = 0 then .ok (bareI 51) k else if m.mod = 3 ∧ m.reg = 4 ∧ m.rm = 1 then .ok (bareI 52) k else .err 12) ?_ (fun m hr h3 hp => ?_) (fun m o k hm hp => ?_)
  · unfold dcMrm
    rcases rel_byte L 1 with ⟨a, b⟩ | ⟨a, b⟩
    · rw [a, DR.bind_ok, DR.bind_ok, DR.bind_ok]
      obtain ⟨x, hxe⟩ : ∃ x, reB L (Rd.at 1) = x := ⟨_, rfl⟩
      rw [hxe] at hx ⊢
      by_cases h1 : x = 224
      · subst h1; rfl
      by_cases h2 : x = 225
      · subst h2; rfl
      have e : ∀ r : Int, r = 0 ∨ r = 1 → ¬ ((mrmOf x).mod = 3 ∧ (mrmOf x).reg = 4 ∧ (mrmOf x).rm = r) := fun r hr h => by
        have h' : x / 64 = 3 ∧ x / 8 % 8 = 4 ∧ x % 8 = r := h
        omega
      rw [if_neg h1, if_neg h2, if_neg (e 0 (.inl rfl)), if_neg (e 1 (.inr rfl))]
    · rw [a]; rfl
  · exact .inl ⟨rfl, rfl, by rw [if_neg (fun h => h3 h.1), if_neg (fun h => h3 h.1)]⟩
  · rw [show reModRest L 217 o m.reg (Rd.at k) = if o.eqB (regO 0) = true ∧ m.reg = 4 then ⟨bareI 51, false, Rd.at k⟩ else ⟨bareI 52, !(o.eqB (regO 1) && m.reg == 4), Rd.at k⟩ from rfl]
    rcases hm.o with ⟨h1, rfl, hr⟩ | ⟨h1, h2, h3⟩
    · have hk : k = 2 := by
        rw [dcPlace, if_pos h1] at hp
        injection hp with _ h
        exact h.symm
      subst hk
      by_cases a : m.rm = 0 ∧ m.reg = 4
      · rw [if_pos ⟨h1, a.2, a.1⟩, if_pos ⟨by rw [a.1]; exact Opd.eqB_self _, a.2⟩]
        exact Rel.ok rfl rfl
      · have n1 : ¬ (m.mod = 3 ∧ m.reg = 4 ∧ m.rm = 0) := fun h => a ⟨h.2.2, h.2.1⟩
        have n2 : ¬ ((regO m.rm).eqB (regO 0) = true ∧ m.reg = 4) := fun h => a ⟨regO_inj ((Opd.eqB_iff _ _).1 h.1), h.2⟩
        rw [if_neg n1, if_neg n2]
        by_cases b : m.rm = 1 ∧ m.reg = 4
        · rw [if_pos ⟨h1, b.2, b.1⟩, b.1, b.2, Opd.eqB_self]
          exact Rel.ok rfl rfl
        · have n3 : ¬ (m.mod = 3 ∧ m.reg = 4 ∧ m.rm = 1) := fun h => b ⟨h.2.2, h.2.1⟩
          rw [if_neg n3]
          refine Rel.e12 rfl rfl (.inl ?_)
          have : ((regO m.rm).eqB (regO 1) && m.reg == 4) = false := by
            rw [← Bool.not_eq_true, Bool.and_eq_true, Opd.eqB_iff, beq_iff_eq]
            exact fun h => b ⟨regO_inj h.1, h.2⟩
          rw [this]; rfl
    · have n2 : ¬ (o.eqB (regO 0) = true ∧ m.reg = 4) := fun h => mem_ne_reg h2 ((Opd.eqB_iff _ _).1 h.1)
      rw [if_neg (fun h => h1 h.1), if_neg (fun h => h1 h.1), if_neg n2]
      refine Rel.e12 rfl rfl (.inl ?_)
      have : (o.eqB (regO 1) && m.reg == 4) = false := by
        rw [← Bool.not_eq_true, Bool.and_eq_true, Opd.eqB_iff]
        exact fun h => mem_ne_reg h2 h.1
      rw [this]; rfl

/-! ### Without ModRM -/
theorem isB_bare (op : Int) (h : op = 31 ∨ 38 ≤ op ∧ op ≤ 42 ∨ op = 44 ∨ op = 51 ∨ op = 52) : isB (bareI op) = true := by
  refine isB_mk _ _ _ ?_
  rcases h with rfl | h | rfl | rfl | rfl
  · rfl
  · have : op = 38 ∨ op = 39 ∨ op = 40 ∨ op = 41 ∨ op = 42 := by omega
    rcases this with rfl | rfl | rfl | rfl | rfl <;> rfl
  · rfl
  · rfl
  · rfl

theorem rel_plain {L : List Int} (hL : BOk L) (c : Int) (q : RI) (h : rePlain L c (Rd.at 1) = some q) : Rel (dcRest L c 1) q := by
  have hx := reB_range hL (Rd.at 1)
  unfold rePlain at h
  by_cases e : c = 104
  · subst e
    rw [if_pos rfl] at h; injection h with h; subst h
    exact rel_imm32 L 1 (fun i => ⟨28, 0, i, Opd.none, false, 0⟩) (fun v => ⟨isB_mk _ _ _ (of_jump 28 (by decide) (.inr (isImm_immO v))), rfl⟩)
  rw [if_neg e] at h; clear e
  by_cases e : c = 106
  · subst e
    rw [if_pos rfl] at h; injection h with h; subst h
    exact rel_imm8 L 1 (fun i => ⟨28, 0, i, Opd.none, false, 0⟩) (fun v => ⟨isB_mk _ _ _ (of_jump 28 (by decide) (.inr (isImm_immO v))), rfl⟩)
  rw [if_neg e] at h; clear e
  by_cases e : c = 144
  · subst e
    rw [if_pos rfl] at h; injection h with h; subst h
    exact Rel.ok (isB_bare 44 (by decide)) rfl
  rw [if_neg e] at h; clear e
  by_cases e : c = 153
  · subst e
    rw [if_pos rfl] at h; injection h with h; subst h
    exact Rel.ok (isB_bare 38 (by decide)) rfl
  rw [if_neg e] at h; clear e
  by_cases e : c = 165
  · subst e
    rw [if_pos rfl] at h; injection h with h; subst h
    exact Rel.ok (isB_bare 41 (by decide)) rfl
  rw [if_neg e] at h; clear e
  by_cases e : c = 169
  · subst e
    rw [if_pos rfl] at h; injection h with h; subst h
    exact rel_imm32 L 1 (fun i => ⟨11, 0, regO 0, i, false, 0⟩) (fun v => ⟨isB_mk _ _ _ (by
      have h1 : rmB (regO 0) = true := by decide
      simp [operandsB, isImm_immO, h1]), rfl⟩)
  rw [if_neg e] at h; clear e
  by_cases e : c = 171
  · subst e
    rw [if_pos rfl] at h; injection h with h; subst h
    exact Rel.ok (isB_bare 42 (by decide)) rfl
  rw [if_neg e] at h; clear e
  by_cases e : c = 195
  · subst e
    rw [if_pos rfl] at h; injection h with h; subst h
    exact Rel.ok (isB_bare 31 (by decide)) rfl
  rw [if_neg e] at h; clear e
  by_cases e : c = 232
  · subst e
    rw [if_pos rfl] at h; injection h with h; subst h
    exact rel_imm32 L 1 (fun i => ⟨30, 0, i, Opd.none, false, 0⟩) (fun v => ⟨isB_mk _ _ _ (of_jump 30 (by decide) (.inr (isImm_immO v))), rfl⟩)
  rw [if_neg e] at h; clear e
  by_cases e : c = 233
  · subst e
    rw [if_pos rfl] at h; injection h with h; subst h
    exact rel_imm32 L 1 (fun i => ⟨32, 0, i, Opd.none, false, 0⟩) (fun v => ⟨isB_mk _ _ _ (of_jump 32 (by decide) (.inr (isImm_immO v))), rfl⟩)
  rw [if_neg e] at h; clear e
  by_cases e : c = 235
  · subst e
    rw [if_pos rfl] at h; injection h with h; subst h
    exact rel_imm8 L 1 (fun i => ⟨32, 0, i, Opd.none, false, 0⟩) (fun v => ⟨isB_mk _ _ _ (of_jump 32 (by decide) (.inr (isImm_immO v))), rfl⟩)
  rw [if_neg e] at h; clear e
  by_cases e : c = 252
  · subst e
    rw [if_pos rfl] at h; injection h with h; subst h
    exact Rel.ok (isB_bare 39 (by decide)) rfl
  rw [if_neg e] at h; clear e
  by_cases e : c = 253
  · subst e
    rw [if_pos rfl] at h; injection h with h; subst h
    exact Rel.ok (isB_bare 40 (by decide)) rfl
  rw [if_neg e] at h; clear e
  by_cases e : c = 205
  · subst e
    rw [if_pos rfl] at h; injection h with h; subst h
    show Rel ((dcSmall L 1).bind fun o k => if o.imm = 128 then .ok ⟨43, 0, o, Opd.none, false, 0⟩ k else .err 12) _
    unfold dcSmall
    rcases rel_byte L 1 with ⟨a, b⟩ | ⟨a, b⟩
    · rw [a, b, DR.bind_ok, DR.bind_ok]
      have hi : (immO (reB L (Rd.at 1))).imm = reB L (Rd.at 1) := rfl
      have e : isB ⟨43, 0, immO (reB L (Rd.at 1)), Opd.none, false, 0⟩ = (reB L (Rd.at 1) == 128) := by
        simp [isB, operandsB, isImm_immO, hi, show noneB Opd.none = true from rfl]
      by_cases h8 : reB L (Rd.at 1) = 128
      · rw [if_pos (by rw [hi]; exact h8)]
        exact Rel.ok (by rw [e]; simp [h8]) rfl
      · rw [if_neg (by rw [hi]; exact h8)]
        exact Rel.e12 rfl rfl (.inr (by rw [e]; simp [h8]))
    · rw [a]; exact Rel.e10 b
  rw [if_neg e] at h; clear e
  by_cases e : c = 243
  · subst e
    rw [if_pos rfl] at h
    show Rel ((dcByte L 1).bind fun x k => if x = 165 then .ok ⟨41, 0, Opd.none, Opd.none, true, 0⟩ k else if x = 171 then .ok ⟨42, 0, Opd.none, Opd.none, true, 0⟩ k else .err 12) _
    rcases rel_byte L 1 with ⟨a, b⟩ | ⟨a, b⟩
    · rw [a, DR.bind_ok]
      by_cases h1 : reB L (Rd.at 1) = 165
      · rw [if_pos h1] at h ⊢; injection h with h; subst h
        rw [b]; exact Rel.ok rfl rfl
      rw [if_neg h1] at h ⊢
      by_cases h2 : reB L (Rd.at 1) = 171
      · rw [if_pos h2] at h ⊢; injection h with h; subst h
        rw [b]; exact Rel.ok rfl rfl
      rw [if_neg h2] at h ⊢; injection h with h; subst h
      rw [b]; exact Rel.e12 rfl rfl (.inr rfl)
    · rw [a, DR.bind_err]
      refine Rel.e10 ?_
      split at h
      · injection h with h; subst h; exact b
      split at h
      · injection h with h; subst h; exact b
      · injection h with h; subst h; exact b
  rw [if_neg e] at h
  cases h

/-- Those with ModRM, and the rest. -/
theorem rel_mods {L : List Int} (hL : BOk L) (c : Int) (hc : 0 ≤ c ∧ c ≤ 255) (h15 : c ≠ 15) (h0 : ¬(c < 64 ∧ (c % 8 = 1 ∨ c % 8 = 3 ∨ c % 8 = 5)) ∧ ¬(64 ≤ c ∧ c < 96) ∧ ¬(112 ≤ c ∧ c < 128) ∧ ¬(176 ≤ c ∧ c < 192)) (hp : rePlain L c (Rd.at 1) = none) :
    Rel (dcRest L c 1) (reModded L c (Rd.at 1)) := by
  by_cases hm : modL.contains c = true
  · have hm' : c = 129 ∨ c = 131 ∨ c = 133 ∨ c = 135 ∨ c = 136 ∨ c = 137 ∨ c = 138 ∨ c = 139 ∨ c = 141 ∨ c = 193 ∨ c = 198 ∨ c = 199 ∨ c = 209 ∨ c = 211 ∨ c = 217 ∨ c = 220 ∨ c = 221 ∨ c = 247 ∨ c = 255 := by
      simpa [modL] using hm
    rcases hm' with rfl | rfl | rfl | rfl | rfl | rfl | rfl | rfl | rfl | rfl | rfl | rfl | rfl | rfl | rfl | rfl | rfl | rfl | rfl
    · exact rel_129 hL
    · exact rel_131 hL
    · exact rel_133 hL
    · exact rel_135 hL
    · exact rel_136 hL
    · exact rel_137 hL
    · exact rel_138 hL
    · exact rel_139 hL
    · exact rel_141 hL
    · exact rel_shift hL 193 (by decide)
    · exact rel_lays hL 198 (by decide)
    · exact rel_lays hL 199 (by decide)
    · exact rel_shift hL 209 (by decide)
    · exact rel_shift hL 211 (by decide)
    · exact rel_217 hL
    · exact rel_220 hL
    · exact rel_221 hL
    · exact rel_247 hL
    · exact rel_255 hL
  · have hq : reModded L c (Rd.at 1) = ⟨Ins.zero, true, Rd.at 1⟩ := by
      unfold reModded
      rw [if_neg h15, if_neg hm]
    rw [hq]
    have hm' : c ≠ 129 ∧ c ≠ 131 ∧ c ≠ 133 ∧ c ≠ 135 ∧ c ≠ 136 ∧ c ≠ 137 ∧ c ≠ 138 ∧ c ≠ 139 ∧ c ≠ 141 ∧ c ≠ 193 ∧ c ≠ 198 ∧ c ≠ 199 ∧ c ≠ 209 ∧ c ≠ 211 ∧ c ≠ 217 ∧ c ≠ 220 ∧ c ≠ 221 ∧ c ≠ 247 ∧ c ≠ 255 := by
      simpa [modL] using hm
    have hp' : c ≠ 104 ∧ c ≠ 106 ∧ c ≠ 144 ∧ c ≠ 153 ∧ c ≠ 165 ∧ c ≠ 169 ∧ c ≠ 171 ∧ c ≠ 195 ∧ c ≠ 232 ∧ c ≠ 233 ∧ c ≠ 235 ∧ c ≠ 252 ∧ c ≠ 253 ∧ c ≠ 205 ∧ c ≠ 243 := by
      refine ⟨?_, ?_, ?_, ?_, ?_, ?_, ?_, ?_, ?_, ?_, ?_, ?_, ?_, ?_, ?_⟩ <;> (rintro rfl; revert hp; unfold rePlain; simp)
      split
      · simp
      split <;> simp
    have he : dcRest L c 1 = .err 12 := by
      by_cases h64 : c < 64
      · unfold dcRest
        rw [if_neg h15, if_pos h64]
        unfold dcRow
        rw [if_neg (by omega), if_neg (by omega), if_neg (by omega)]
      · rw [moves_of L c (by omega)]
        unfold dcMoves
        rw [if_neg (by omega), if_neg (by omega), if_neg (by omega), if_neg (by omega), if_neg (by omega), if_neg (by omega), if_neg (by omega), if_neg (by omega), if_neg (by omega), if_neg (by omega), if_neg (by omega), if_neg (by omega), if_neg (by omega)]
        unfold dcPlain
        rw [if_neg (by omega), if_neg (by omega), if_neg (by omega), if_neg (by omega), if_neg (by omega), if_neg (by omega), if_neg (by omega), if_neg (by omega), if_neg (by omega), if_neg (by omega)]
        unfold dcGroups
        rw [if_neg (by omega), if_neg (by omega), if_neg (by omega), if_neg (by omega), if_neg (by omega), if_neg (by omega), if_neg (by omega)]
    rw [he]
    exact Rel.e12 rfl rfl (.inl rfl)

/-! ### Two bytes -/
theorem rel_two2 {L : List Int} (hL : BOk L) (k : Nat) (op cond : Int) (hB : ∀ (o : Opd) r, rmB o = true → 0 ≤ r ∧ r < 8 → isB ⟨op, cond, regO r, o, false, 0⟩ = true) :
    Rel ((dcTwo L op true k).bind fun i k => .ok { i with cond := cond } k) ⟨⟨op, cond, regO (reN L (Rd.at k)), reM L (Rd.at k), false, 0⟩, false, reM' L (Rd.at k)⟩ := by
  unfold dcTwo
  rcases rel_modrm hL k with ⟨m, h1, hm, hl, hn, hr, hmod, hp, ho⟩ | ⟨h1, h2, h3⟩
  · rw [h1, DR.bind_ok, hn]
    rcases hp with ⟨k2, hp, hs⟩ | ⟨hp, hs, h3⟩
    · rw [hp, hs]
      exact Rel.ok (hB _ _ (MO.rm ⟨hr, hmod, ho⟩) hr) rfl
    · rw [hp]
      exact Rel.e10 hs
  · rw [h1]
    exact Rel.e10 h2

theorem rel_second {L : List Int} (hL : BOk L) : Rel (dcSecond L 1) (reTwo L (Rd.at 1)) := by
  unfold dcSecond reTwo
  have hx := reB_range hL (Rd.at 1)
  rcases rel_byte L 1 with ⟨a, b⟩ | ⟨a, b⟩
  · rw [a, b, DR.bind_ok]
    obtain ⟨c, hc⟩ : ∃ c, reB L (Rd.at 1) = c := ⟨_, rfl⟩
    rw [hc] at hx ⊢
    dsimp only
    rw [show (1 : Nat) + 1 = 2 from rfl, if_neg (show ¬ (Rd.at 2).sh = true from Bool.false_ne_true)]
    by_cases h11 : c = 11
    · rw [if_pos h11, if_pos h11]; exact Rel.e90 rfl rfl
    rw [if_neg h11, if_neg h11]
    by_cases h8 : c / 16 = 8
    · rw [if_neg (by omega), if_pos (show 128 ≤ c ∧ c < 144 by omega), if_pos h8]
      exact rel_imm32 L 2 (fun i => ⟨33, c % 16, i, Opd.none, false, 0⟩) (fun v => ⟨isB_cond 33 _ _ _ (by omega) (by decide) (by simp [operandsB, isImm_immO, show noneB Opd.none = true from rfl]), rfl⟩)
    rw [if_neg h8]
    by_cases h4 : c / 16 = 4
    · rw [if_pos (show 64 ≤ c ∧ c < 80 by omega), if_pos h4]
      exact rel_two2 hL 2 35 (c % 16) (fun o r h hr => isB_cond 35 _ _ _ (by omega) (by decide) (of_reg 35 (by decide) hr h))
    rw [if_neg (by omega), if_neg (by omega), if_neg h4]
    by_cases h9 : c / 16 = 9
    · rw [if_pos (show 144 ≤ c ∧ c < 160 by omega), if_pos h9]
      rcases rel_modrm hL 2 with ⟨m, h1, hm, hl, hn, hr, hmod, hp, ho⟩ | ⟨h1, h2, h3⟩
      · rw [h1, DR.bind_ok, hn]
        have hg : L.getD 2 0 / 8 % 8 = m.reg := by rw [hm]; rfl
        rw [hg]
        rcases hp with ⟨k2, hp, hs⟩ | ⟨hp, hs, h3⟩
        · have n1 : ¬ ((Rd.at k2).sh = true ∧ 2 < L.length ∧ m.reg ≠ 0) := fun h => Bool.false_ne_true h.1
          rw [hp, hs, if_neg n1]
          by_cases h0 : m.reg = 0
          · rw [if_neg (by rw [h0]; simp), DR.bind_ok, show (m.reg != 0) = false from by simpa using h0]
            exact Rel.ok (isB_cond 34 _ _ _ (by omega) (by decide) (of_one 34 (by decide) (MO.rm ⟨hr, hmod, ho⟩))) rfl
          · rw [if_pos (show m.reg ≠ 0 from h0)]
            exact Rel.e12 rfl rfl (.inl (by simpa using h0))
        · rw [hp]
          by_cases h0 : m.reg = 0
          · have n1 : ¬ ((reM' L (Rd.at 2)).sh = true ∧ 2 < L.length ∧ m.reg ≠ 0) := fun h => h.2.2 h0
            rw [if_neg (show ¬ m.reg ≠ 0 by rw [h0]; simp), if_neg n1]
            exact Rel.e10 hs
          · rw [if_pos (show m.reg ≠ 0 from h0), if_pos (show (reM' L (Rd.at 2)).sh = true ∧ 2 < L.length ∧ m.reg ≠ 0 from ⟨hs, hl, h0⟩)]
            exact Rel.e12 rfl (bd_modrm _ _) (.inl rfl)
      · have n1 : ¬ ((reM' L (Rd.at 2)).sh = true ∧ 2 < L.length ∧ L.getD 2 0 / 8 % 8 ≠ 0) := fun h => by omega
        rw [h1, DR.bind_err, if_neg n1]
        exact Rel.e10 h2
    rw [if_neg (by omega), if_neg h9]
    have hz : ∀ op, dcTwo L op true 2 = (dcTwo L op true 2).bind fun i k => .ok { i with cond := 0 } k := fun op => by
      unfold dcTwo
      rcases rel_modrm hL 2 with ⟨m, h1, hm, hl, hn, hr, hmod, hp, ho⟩ | ⟨h1, h2, h3⟩
      · rw [h1, DR.bind_ok]
        rcases hp with ⟨k2, hp, hs⟩ | ⟨hp, hs, h3⟩ <;> rw [hp] <;> rfl
      · rw [h1]; rfl
    by_cases h1 : c = 175
    · rw [if_pos h1, if_pos h1, hz]
      exact rel_two2 hL 2 18 0 (fun o r h hr => isB_mk _ _ _ (of_reg 18 (by decide) hr h))
    rw [if_neg h1, if_neg h1]
    by_cases h1 : c = 182
    · rw [if_pos h1, if_pos h1, hz]
      exact rel_two2 hL 2 36 0 (fun o r h hr => isB_mk _ _ _ (of_reg 36 (by decide) hr h))
    rw [if_neg h1, if_neg h1]
    by_cases h1 : c = 190
    · rw [if_pos h1, if_pos h1, hz]
      exact rel_two2 hL 2 37 0 (fun o r h hr => isB_mk _ _ _ (of_reg 37 (by decide) hr h))
    rw [if_neg h1, if_neg h1]
    exact Rel.e12 rfl rfl (.inl rfl)
  · rw [a, DR.bind_err, if_pos b]
    exact Rel.e10 b

/-! ### Whole -/
theorem rel_group {L : List Int} (hL : BOk L) (c : Int) (hc : 0 ≤ c ∧ c < 64) (hk : c % 8 = 1 ∨ c % 8 = 3 ∨ c % 8 = 5) : Rel (dcRow L c 1) (reGroup L (eightI (c / 8)) (c % 8) (Rd.at 1)) := by
  have h8 := eight_ok (c / 8) (by omega)
  unfold dcRow reGroup
  rcases hk with h | h | h
  · rw [if_pos h, if_neg (by omega), if_pos h, dcTwo]
    rcases rel_modrm hL 1 with ⟨m, h1, hm, hl, hn, hr, hmod, hp, ho⟩ | ⟨h1, h2, h3⟩
    · rw [h1, DR.bind_ok, hn]
      rcases hp with ⟨k2, hp, hs⟩ | ⟨hp, hs, h3⟩
      · rw [hp, hs]
        exact Rel.ok (isB_mk _ _ _ (of_two1 _ h8 (MO.rm ⟨hr, hmod, ho⟩) hr)) rfl
      · rw [hp]; exact Rel.e10 hs
    · rw [h1]; exact Rel.e10 h2
  · rw [if_neg (by omega), if_pos h, if_neg (by omega), if_neg (by omega), dcTwo]
    rcases rel_modrm hL 1 with ⟨m, h1, hm, hl, hn, hr, hmod, hp, ho⟩ | ⟨h1, h2, h3⟩
    · rw [h1, DR.bind_ok, hn]
      rcases hp with ⟨k2, hp, hs⟩ | ⟨hp, hs, h3⟩
      · rw [hp, hs]
        exact Rel.ok (isB_mk _ _ _ (of_two2 _ h8 (MO.rm ⟨hr, hmod, ho⟩) hr)) rfl
      · rw [hp]; exact Rel.e10 hs
    · rw [h1]; exact Rel.e10 h2
  · rw [if_neg (by omega), if_neg (by omega), if_pos h, if_pos h]
    exact rel_imm32 L 1 (fun i => ⟨eightI (c / 8), 0, regO 0, i, false, 0⟩) (fun v => ⟨isB_mk _ _ _ (of_imm _ h8 v (by decide)), rfl⟩)

theorem rel_insn {L : List Int} (hL : BOk L) : Rel (dcInsn L 0) (reInsn L (Rd.at 0)) := by
  unfold dcInsn reInsn
  have hx := reB_range hL (Rd.at 0)
  rcases rel_byte L 0 with ⟨a, b⟩ | ⟨a, b⟩
  · rw [a, b, DR.bind_ok]
    obtain ⟨c, hc⟩ : ∃ c, reB L (Rd.at 0) = c := ⟨_, rfl⟩
    rw [hc] at hx ⊢
    dsimp only
    rw [show 0 + 1 = 1 from rfl, if_neg (show ¬ (Rd.at 1).sh = true from Bool.false_ne_true)]
    by_cases h1 : c < 64 ∧ (c % 8 = 1 ∨ c % 8 = 3 ∨ c % 8 = 5)
    · rw [if_pos h1]
      have : dcRest L c 1 = dcRow L c 1 := by unfold dcRest; rw [if_neg (by omega), if_pos h1.1]
      rw [this]
      exact rel_group hL c ⟨hx.1, h1.1⟩ h1.2
    rw [if_neg h1]
    have hreg : ∀ op, (12 ≤ op ∧ op ≤ 17 ∨ op = 19 ∨ op = 20 ∨ op = 34) ∨ (op = 28 ∨ op = 30 ∨ op = 32) ∨ op = 29 → isB ⟨op, 0, regO (c % 8), Opd.none, false, 0⟩ = true := fun op h => by
      rcases h with h | h | h
      · exact isB_mk _ _ _ (of_one op h (reg_rm _ (by omega)))
      · exact isB_mk _ _ _ (of_jump op h (.inl (reg_rm _ (by omega))))
      · subst h
        exact isB_mk _ _ _ (by simp [operandsB, isReg_regO (c % 8) (by omega), show noneB Opd.none = true from rfl])
    by_cases h2 : 64 ≤ c ∧ c < 72
    · rw [if_pos h2, dcRest, if_neg (by omega), if_neg (by omega), if_pos h2.2]
      exact Rel.ok (hreg 12 (by decide)) rfl
    rw [if_neg h2]
    by_cases h3 : 72 ≤ c ∧ c < 80
    · rw [if_pos h3, dcRest, if_neg (by omega), if_neg (by omega), if_neg (by omega), if_pos h3.2]
      exact Rel.ok (hreg 13 (by decide)) rfl
    rw [if_neg h3]
    by_cases h4 : 80 ≤ c ∧ c < 88
    · rw [if_pos h4, dcRest, if_neg (by omega), if_neg (by omega), if_neg (by omega), if_neg (by omega), if_pos h4.2]
      exact Rel.ok (hreg 28 (by decide)) rfl
    rw [if_neg h4]
    by_cases h5 : 88 ≤ c ∧ c < 96
    · rw [if_pos h5, dcRest, if_neg (by omega), if_neg (by omega), if_neg (by omega), if_neg (by omega), if_neg (by omega), if_pos h5.2]
      exact Rel.ok (hreg 29 (by decide)) rfl
    rw [if_neg h5]
    by_cases h6 : 112 ≤ c ∧ c < 128
    · rw [if_pos h6, dcRest, if_neg (by omega), if_neg (by omega), if_neg (by omega), if_neg (by omega), if_neg (by omega), if_neg (by omega), if_pos h6]
      exact rel_imm8 L 1 (fun i => ⟨33, c % 16, i, Opd.none, false, 0⟩) (fun v => ⟨isB_cond 33 _ _ _ (by omega) (by decide) (by simp [operandsB, isImm_immO, show noneB Opd.none = true from rfl]), rfl⟩)
    rw [if_neg h6]
    by_cases h7 : 176 ≤ c ∧ c < 184
    · rw [if_pos h7, dcRest, if_neg (by omega), if_neg (by omega), if_neg (by omega), if_neg (by omega), if_neg (by omega), if_neg (by omega), if_neg (by omega), if_pos h7]
      exact rel_small hL 1 (fun i => ⟨2, 0, regO (c % 8), i, false, 0⟩) (fun v hv => ⟨isB_mk _ _ _ (by
        have h2 : v < 256 := hv.2
        have hi : (immO v).imm = v := rfl
        simp [operandsB, reg_rm (c % 8) (by omega), byteImmB, isImm_immO, hi, h2]), rfl⟩)
    rw [if_neg h7]
    by_cases h8 : 184 ≤ c ∧ c < 192
    · rw [if_pos h8, dcRest, if_neg (by omega), if_neg (by omega), if_neg (by omega), if_neg (by omega), if_neg (by omega), if_neg (by omega), if_neg (by omega), if_neg (by omega), if_pos h8]
      exact rel_imm32 L 1 (fun i => ⟨1, 0, regO (c % 8), i, false, 0⟩) (fun v => ⟨isB_mk _ _ _ (of_imm 1 (.inl rfl) v (reg_rm _ (by omega))), rfl⟩)
    rw [if_neg h8]
    cases hp : rePlain L c (Rd.at 1) with
    | some q => exact rel_plain hL c q hp
    | none =>
      dsimp only
      by_cases h15 : c = 15
      · subst h15
        exact rel_second hL
      · exact rel_mods hL c hx h15 ⟨h1, by omega, h6, by omega⟩ hp
  · rw [a, DR.bind_err]
    dsimp only
    rw [if_pos b]
    exact Rel.e10 b

/-- Of every bytes both tell the same. -/
theorem ref_dec {L : List Int} (hL : BOk L) : refI L = decI L ∧ refE L = decE L ∧ decN L = (decI L).len := by
  have h := rel_insn hL
  unfold refI refE decI decE decN
  rw [show (⟨0, false, false⟩ : Rd) = Rd.at 0 from rfl]
  cases hd : dcInsn L 0 with
  | ok i k =>
    rw [hd] at h
    obtain ⟨h1, h2, h3⟩ := h
    rw [h1]
    dsimp only
    simp [Rd.at, h2]
  | err c =>
    rw [hd] at h
    dsimp only
    rcases h with ⟨rfl, h⟩ | ⟨rfl, h, h1⟩ | ⟨rfl, h, h1, h2⟩
    · simp [h, Ins.zero]
    · simp [h, h1, Ins.zero]
    · simp [h, h1, h2, Ins.zero]

end Go.Proofs.Ytoplekfnghkkdaa

/-
  The law DecodeTells: the walk. No condition.
-/
namespace Go.Proofs.Ytoplekfnghkkdaa
open Go Go.RowKit
set_option linter.unusedVariables false
set_option linter.unusedSimpArgs false

set_option maxRecDepth 100000 in
set_option maxHeartbeats 2000000 in
theorem tells_long (b : Option Addr) (c : Nat) (L : List Int) (w : World) (hl : 30 < L.length) :
    Calls Try.prog 3 #[.slice b L.length c] w fun e w' => e = .returned (.bool true) ∧ Upd [] w w' := by
  have hn1 : decide ((30 : Int) < (L.length : Int)) = true := by simp; omega
  have hn2 : decide (30 < L.length) = true := by simp; omega
  have U0 := Lib.hid (Upd.refl [] w)
  clear hl
  go_enter Try.func3, Try.ntmps3
  go_wp2_with (have _t := U0; clear _t; go_at_call 12; refine (known10_any _).mono ?_; rintro e w0 ⟨rfl, hu⟩; have U1 := Lib.hid hu; clear hu U0)
  go_ret
  exact ⟨rfl, U1.out⟩

set_option maxRecDepth 100000 in
set_option maxHeartbeats 4000000 in
theorem tells_12 (b : Option Addr) (c : Nat) (L : List Int) (g : Nat) (w : World) (hv : BArg w (.slice b L.length c) L g) (hl : L.length ≤ 30) (he : decE L = 12) :
    Calls Try.prog 3 #[.slice b L.length c] w fun e w' => e = .returned (.bool true) ∧ Upd [] w w' := by
  have hn1 : decide ((30 : Int) < (L.length : Int)) = false := by simp; omega
  have hn2 : decide (30 < L.length) = false := by simp; omega
  obtain ⟨r1, r2, r3⟩ := ref_dec hv.r
  have kd : kindM L = 4 := by unfold kindM; rw [he]; rfl
  rw [he] at r2
  obtain ⟨i, hi⟩ : ∃ i, decI L = i := ⟨_, rfl⟩
  rw [hi] at r1 r3
  have DI := Lib.hid hi
  have DN := Lib.hid r3
  have DE := Lib.hid he
  have RI_ := Lib.hid r1
  have RE_ := Lib.hid r2
  have KD := Lib.hid kd
  have B0 := Lib.hid hv
  have hL := Lib.hid hl
  have U0 := Lib.hid (Upd.refl [] w)
  have tokA : True := trivial
  have hq := fun w : World => show (binOp .eql 28 (.agg i.cells) (.agg i.cells)).run Try.prog w = .ok (.bool true) w from by have := run_eql_ins i i w; rw [Ins.eqB_self] at this; exact this
  clear hv hl he hi r1 r2 r3 kd
  go_enter Try.func3, Try.ntmps3
  go_wp2_with (first | (have _t := U0; clear _t; go_at_call 12; refine (known10_any _).mono ?_; rintro e w0 ⟨rfl, hu⟩; have U1 := Lib.hid hu; clear hu U0) | (have _t := U1; clear _t; at_builtin; refine wpList_append_by rfl _ _ rfl w.heap.size (.slice none 0 0) [] rfl (own_nil _ _) (.slice b L.length c) L g rfl (B0.out.b.keep U1.out (by simp)) (by have := hL.out; simp; omega) U1.out.size ?_; intro v2 y2 hg; have A1 := Lib.hid (show Fi w _ v2 L y2 from (Fi.start U1.out).grow hg); clear hg U1) | (have _t := A1; clear _t; go_at_call 13; obtain ⟨g3, hb3, _⟩ := A1.out.d.o.barg B0.out.r (by have := hL.out; simp [maxLen]; omega); have HB3 := Lib.hid hb3; clear hb3; refine (Decode_any v2 L g3 _ HB3.out).mono ?_; rintro e w3 ⟨rfl, hu⟩; rw [DI.out, DN.out, DE.out]; have V3 := Lib.hid (A1.out.step hu); clear hu A1) | (have _t := V3; clear _t; refine at_store 28 rfl ?_; refine wpList_store_ins i w3.heap.size rfl _ _ rfl rfl rfl (heap_alloc_new w3 (.cells Ins.zero.cells 28)) rfl ?_; intro x3 hw; have G3 := Lib.hid (V3.out.ins hw); clear hw V3) | (have _t := G3; clear _t; go_at_call 14; refine (Decode_ref (.slice b L.length c) L g _ (B0.out.keep G3.out.d.u)).mono ?_; rintro e w4 ⟨rfl, hu⟩; rw [RI_.out, RE_.out]; have V4 := Lib.hid (G3.out.step hu); clear hu G3) | (have _t := V4; clear _t; refine at_store 28 rfl ?_; refine wpList_store_ins i w4.heap.size rfl _ _ rfl rfl rfl (heap_alloc_new w4 (.cells Ins.zero.cells 28)) rfl ?_; intro x4 hw; have G4 := Lib.hid (V4.out.ins hw); have cj := cells_of (G4.out.i (w4.heap.size, i) (by simp)) 15; rw [show (i.cells)[15]? = some (.int .i64 i.len) from rfl] at cj; clear hw V4) | (have _t := G4; clear _t; refine at_load 28 rfl ?_; have _t2 := tokA; clear _t2; refine wpList_load_ins i w3.heap.size rfl _ rfl rfl (G4.out.i (w3.heap.size, i) (by simp)) ?_; clear tokA) | (have _t := G4; clear _t; refine at_load 28 rfl ?_; refine wpList_load_ins i w4.heap.size rfl _ rfl rfl (G4.out.i (w4.heap.size, i) (by simp)) ?_) | (have _t := G4; clear _t; go_at_call 15; refine (Kind_any (.slice b L.length c) L g _ (B0.out.keep G4.out.d.u)).mono ?_; rintro e w5 ⟨rfl, hu⟩; rw [KD.out]; have V5 := Lib.hid (G4.out.d.u.also hu (by simp)); clear hu))
  go_ret
  exact ⟨rfl, V5.out⟩

set_option maxRecDepth 100000 in
set_option maxHeartbeats 4000000 in
theorem tells_90 (b : Option Addr) (c : Nat) (L : List Int) (g : Nat) (w : World) (hv : BArg w (.slice b L.length c) L g) (hl : L.length ≤ 30) (he : decE L = 90) :
    Calls Try.prog 3 #[.slice b L.length c] w fun e w' => e = .returned (.bool true) ∧ Upd [] w w' := by
  have hn1 : decide ((30 : Int) < (L.length : Int)) = false := by simp; omega
  have hn2 : decide (30 < L.length) = false := by simp; omega
  obtain ⟨r1, r2, r3⟩ := ref_dec hv.r
  have kd : kindM L = 3 := by unfold kindM; rw [he]; rfl
  rw [he] at r2
  obtain ⟨i, hi⟩ : ∃ i, decI L = i := ⟨_, rfl⟩
  rw [hi] at r1 r3
  have DI := Lib.hid hi
  have DN := Lib.hid r3
  have DE := Lib.hid he
  have RI_ := Lib.hid r1
  have RE_ := Lib.hid r2
  have KD := Lib.hid kd
  have B0 := Lib.hid hv
  have hL := Lib.hid hl
  have U0 := Lib.hid (Upd.refl [] w)
  have tokA : True := trivial
  have hq := fun w : World => show (binOp .eql 28 (.agg i.cells) (.agg i.cells)).run Try.prog w = .ok (.bool true) w from by have := run_eql_ins i i w; rw [Ins.eqB_self] at this; exact this
  clear hv hl he hi r1 r2 r3 kd
  go_enter Try.func3, Try.ntmps3
  go_wp2_with (first | (have _t := U0; clear _t; go_at_call 12; refine (known10_any _).mono ?_; rintro e w0 ⟨rfl, hu⟩; have U1 := Lib.hid hu; clear hu U0) | (have _t := U1; clear _t; at_builtin; refine wpList_append_by rfl _ _ rfl w.heap.size (.slice none 0 0) [] rfl (own_nil _ _) (.slice b L.length c) L g rfl (B0.out.b.keep U1.out (by simp)) (by have := hL.out; simp; omega) U1.out.size ?_; intro v2 y2 hg; have A1 := Lib.hid (show Fi w _ v2 L y2 from (Fi.start U1.out).grow hg); clear hg U1) | (have _t := A1; clear _t; go_at_call 13; obtain ⟨g3, hb3, _⟩ := A1.out.d.o.barg B0.out.r (by have := hL.out; simp [maxLen]; omega); have HB3 := Lib.hid hb3; clear hb3; refine (Decode_any v2 L g3 _ HB3.out).mono ?_; rintro e w3 ⟨rfl, hu⟩; rw [DI.out, DN.out, DE.out]; have V3 := Lib.hid (A1.out.step hu); clear hu A1) | (have _t := V3; clear _t; refine at_store 28 rfl ?_; refine wpList_store_ins i w3.heap.size rfl _ _ rfl rfl rfl (heap_alloc_new w3 (.cells Ins.zero.cells 28)) rfl ?_; intro x3 hw; have G3 := Lib.hid (V3.out.ins hw); clear hw V3) | (have _t := G3; clear _t; go_at_call 14; refine (Decode_ref (.slice b L.length c) L g _ (B0.out.keep G3.out.d.u)).mono ?_; rintro e w4 ⟨rfl, hu⟩; rw [RI_.out, RE_.out]; have V4 := Lib.hid (G3.out.step hu); clear hu G3) | (have _t := V4; clear _t; refine at_store 28 rfl ?_; refine wpList_store_ins i w4.heap.size rfl _ _ rfl rfl rfl (heap_alloc_new w4 (.cells Ins.zero.cells 28)) rfl ?_; intro x4 hw; have G4 := Lib.hid (V4.out.ins hw); have cj := cells_of (G4.out.i (w4.heap.size, i) (by simp)) 15; rw [show (i.cells)[15]? = some (.int .i64 i.len) from rfl] at cj; clear hw V4) | (have _t := G4; clear _t; refine at_load 28 rfl ?_; have _t2 := tokA; clear _t2; refine wpList_load_ins i w3.heap.size rfl _ rfl rfl (G4.out.i (w3.heap.size, i) (by simp)) ?_; clear tokA) | (have _t := G4; clear _t; refine at_load 28 rfl ?_; refine wpList_load_ins i w4.heap.size rfl _ rfl rfl (G4.out.i (w4.heap.size, i) (by simp)) ?_) | (have _t := G4; clear _t; go_at_call 15; refine (Kind_any (.slice b L.length c) L g _ (B0.out.keep G4.out.d.u)).mono ?_; rintro e w5 ⟨rfl, hu⟩; rw [KD.out]; have V5 := Lib.hid (G4.out.d.u.also hu (by simp)); clear hu))
  go_ret
  exact ⟨rfl, V5.out⟩

set_option maxRecDepth 100000 in
set_option maxHeartbeats 4000000 in
theorem tells_o (b : Option Addr) (c : Nat) (L : List Int) (g : Nat) (w : World) (hv : BArg w (.slice b L.length c) L g) (hl : L.length ≤ 30) (x : Int) (he : decE L = x) (h12 : x ≠ 12) (h90 : x ≠ 90) :
    Calls Try.prog 3 #[.slice b L.length c] w fun e w' => e = .returned (.bool true) ∧ Upd [] w w' := by
  have hn1 : decide ((30 : Int) < (L.length : Int)) = false := by simp; omega
  have hn2 : decide (30 < L.length) = false := by simp; omega
  obtain ⟨r1, r2, r3⟩ := ref_dec hv.r
  have kd : kindM L = 0 := by unfold kindM; rw [he, if_neg (by omega), if_neg (by omega)]
  rw [he] at r2
  obtain ⟨i, hi⟩ : ∃ i, decI L = i := ⟨_, rfl⟩
  rw [hi] at r1 r3
  have DI := Lib.hid hi
  have DN := Lib.hid r3
  have DE := Lib.hid he
  have RI_ := Lib.hid r1
  have RE_ := Lib.hid r2
  have KD := Lib.hid kd
  have B0 := Lib.hid hv
  have hL := Lib.hid hl
  have U0 := Lib.hid (Upd.refl [] w)
  have tokA : True := trivial
  have hq := fun w : World => show (binOp .eql 28 (.agg i.cells) (.agg i.cells)).run Try.prog w = .ok (.bool true) w from by have := run_eql_ins i i w; rw [Ins.eqB_self] at this; exact this
  have q1 : (x == 12) = false := by simpa using h12
  have q2 : (x == 90) = false := by simpa using h90
  clear hv hl he hi r1 r2 r3 kd h12 h90
  go_enter Try.func3, Try.ntmps3
  go_wp2_with (first | (have _t := U0; clear _t; go_at_call 12; refine (known10_any _).mono ?_; rintro e w0 ⟨rfl, hu⟩; have U1 := Lib.hid hu; clear hu U0) | (have _t := U1; clear _t; at_builtin; refine wpList_append_by rfl _ _ rfl w.heap.size (.slice none 0 0) [] rfl (own_nil _ _) (.slice b L.length c) L g rfl (B0.out.b.keep U1.out (by simp)) (by have := hL.out; simp; omega) U1.out.size ?_; intro v2 y2 hg; have A1 := Lib.hid (show Fi w _ v2 L y2 from (Fi.start U1.out).grow hg); clear hg U1) | (have _t := A1; clear _t; go_at_call 13; obtain ⟨g3, hb3, _⟩ := A1.out.d.o.barg B0.out.r (by have := hL.out; simp [maxLen]; omega); have HB3 := Lib.hid hb3; clear hb3; refine (Decode_any v2 L g3 _ HB3.out).mono ?_; rintro e w3 ⟨rfl, hu⟩; rw [DI.out, DN.out, DE.out]; have V3 := Lib.hid (A1.out.step hu); clear hu A1) | (have _t := V3; clear _t; refine at_store 28 rfl ?_; refine wpList_store_ins i w3.heap.size rfl _ _ rfl rfl rfl (heap_alloc_new w3 (.cells Ins.zero.cells 28)) rfl ?_; intro x3 hw; have G3 := Lib.hid (V3.out.ins hw); clear hw V3) | (have _t := G3; clear _t; go_at_call 14; refine (Decode_ref (.slice b L.length c) L g _ (B0.out.keep G3.out.d.u)).mono ?_; rintro e w4 ⟨rfl, hu⟩; rw [RI_.out, RE_.out]; have V4 := Lib.hid (G3.out.step hu); clear hu G3) | (have _t := V4; clear _t; refine at_store 28 rfl ?_; refine wpList_store_ins i w4.heap.size rfl _ _ rfl rfl rfl (heap_alloc_new w4 (.cells Ins.zero.cells 28)) rfl ?_; intro x4 hw; have G4 := Lib.hid (V4.out.ins hw); have cj := cells_of (G4.out.i (w4.heap.size, i) (by simp)) 15; rw [show (i.cells)[15]? = some (.int .i64 i.len) from rfl] at cj; clear hw V4) | (have _t := G4; clear _t; refine at_load 28 rfl ?_; have _t2 := tokA; clear _t2; refine wpList_load_ins i w3.heap.size rfl _ rfl rfl (G4.out.i (w3.heap.size, i) (by simp)) ?_; clear tokA) | (have _t := G4; clear _t; refine at_load 28 rfl ?_; refine wpList_load_ins i w4.heap.size rfl _ rfl rfl (G4.out.i (w4.heap.size, i) (by simp)) ?_) | (have _t := G4; clear _t; go_at_call 15; refine (Kind_any (.slice b L.length c) L g _ (B0.out.keep G4.out.d.u)).mono ?_; rintro e w5 ⟨rfl, hu⟩; rw [KD.out]; have V5 := Lib.hid (G4.out.d.u.also hu (by simp)); clear hu))
  go_ret
  exact ⟨rfl, V5.out⟩

theorem DecodeTells_walk (v : Value) (L : List Int) (g : Nat) (w : World) (hv : BArg w v L g) :
    Calls Try.prog 3 #[v] w fun e w' => e = .returned (.bool true) ∧ Upd [] w w' := by
  obtain ⟨b, c, rfl⟩ := hv.b.form
  by_cases hl : 30 < L.length
  · exact tells_long b c L w hl
  by_cases h12 : decE L = 12
  · exact tells_12 b c L g w hv (by omega) h12
  by_cases h90 : decE L = 90
  · exact tells_90 b c L g w hv (by omega) h90
  · exact tells_o b c L g w hv (by omega) _ rfl h12 h90

end Go.Proofs.Ytoplekfnghkkdaa
