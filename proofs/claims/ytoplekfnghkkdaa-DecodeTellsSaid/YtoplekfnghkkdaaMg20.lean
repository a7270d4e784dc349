/-
  The document's decoder in Go: early, by its contract. No condition.
-/
import Derived.Test.YtoplekfnghkkdaaMg19
namespace Go.Proofs.Ytoplekfnghkkdaa
open Go Go.RowKit
set_option linter.unusedVariables false
set_option linter.unusedSimpArgs false

theorem mrm_bits8 (c : Int) (hc : 0 ≤ c ∧ c ≤ 255) : bits .and .u8 (c / 8) 7 = c / 8 % 8 := by
  have h : ∀ k : Fin 256, bits .and .u8 ((k.val : Int) / 8) 7 = (k.val : Int) / 8 % 8 := by decide +kernel
  have := h ⟨c.toNat, by omega⟩
  simpa only [show ((c.toNat : Nat) : Int) = c by omega] using this

set_option maxRecDepth 100000 in
set_option maxHeartbeats 2000000 in
theorem rearly_len (d g : Nat) (s : Rd) (v : Value) (L : List Int) (w : World) (hD : IsRd w d v L g s) (c : Int) (hl : L.length < 2) :
    Calls Try.prog 175 #[.pointer (some ⟨d, 0, none⟩), .int .u8 c] w (RAns d v L g w ⟨Ins.zero, false, s⟩) := by
  obtain ⟨sb, sc, rfl⟩ := hD.b.form
  have q1 : decide ((L.length : Int) < 2) = true := by simp; omega
  have q2 : decide (L.length < 2) = true := by simp; omega
  have c0 := cells_of (heap_alloc_keep (.cells #[.int .i64 0, .int .i64 0, .int .i64 0, .int .i64 0, .int .u32 0, .int .i64 0, .int .i64 0, .int .u32 0, .int .i64 0, .int .i64 0, .int .u32 0, .int .i64 0, .int .i64 0, .int .u32 0, .bool false, .int .i64 0] 28) hD.h)
  have H1 := Lib.hid (RiS.start hD)
  clear hD hl
  go_enter Try.func175, Try.ntmps175
  go_wp2_with (have _t := H1; clear _t; refine at_store 28 rfl ?_; refine wpList_store_ins Ins.zero (w.heap.size) rfl _ _ rfl rfl rfl (H1.out).r (H1.out).z ?_; intro w2 hw; have H2 := Lib.hid ((H1.out).store hw); clear hw H1)
  exact bodyPost_ret (results_two' rfl (res_ins 4 (w.heap.size) _ rfl H2.out.r) (res_tmp 5 rfl)) rfl ⟨rfl, H2.out.h, H2.out.u⟩

set_option maxRecDepth 100000 in
set_option maxHeartbeats 2000000 in
theorem rearly_129 (d g : Nat) (s : Rd) (v : Value) (L : List Int) (w : World) (hD : IsRd w d v L g s) (k : Nat) (sh : Bool) (hs : s = ⟨k, sh, false⟩) (hl : 1 < L.length)  :
    Calls Try.prog 175 #[.pointer (some ⟨d, 0, none⟩), .int .u8 129] w (RAns d v L g w ⟨Ins.zero, false, ⟨k, sh, false⟩⟩) := by
  subst hs
  obtain ⟨ao, sc, rfl, hsc⟩ : ∃ ao c, v = .slice (some ⟨g, ao, none⟩) L.length c ∧ L.length ≤ c := by
    rcases hD.b with ⟨_, h1⟩ | ⟨ao, c, _, _, _, h1, _⟩
    · rw [h1] at hl; simp at hl
    · exact ⟨ao, c, h1, hD.c _ _ _ h1⟩
  have hL := hD.r
  have hx := hL 1
  have hls := hD.n
  unfold maxLen at hls
  have q1 : decide ((L.length : Int) < 2) = false := by simp; omega
  have q2 : decide (L.length < 2) = false := by simp; omega
  have q3 : 1 < L.length := hl
  have HC := Lib.hid (fun (W : World) (hb : BySl W (.slice (some ⟨g, ao, none⟩) L.length sc) L g) => bysl_cell W hl hb)
  obtain ⟨x, hxe⟩ : ∃ x, L.getD 1 0 = x := ⟨_, rfl⟩
  rw [hxe] at hx HC
  have q4 := mrm_bits8 x hx
  obtain ⟨n, hn⟩ : ∃ n, x / 8 % 8 = n := ⟨_, rfl⟩
  obtain ⟨md, hmd⟩ : ∃ md, x / 64 = md := ⟨_, rfl⟩
  have hn8 : 0 ≤ n ∧ n < 8 := by omega
  rw [hn] at q4
  have q5 : x / 64 = md := hmd
  clear hn hmd hxe
  have c0 := cells_of (heap_alloc_keep (.cells #[.int .i64 0, .int .i64 0, .int .i64 0, .int .i64 0, .int .u32 0, .int .i64 0, .int .i64 0, .int .u32 0, .int .i64 0, .int .i64 0, .int .u32 0, .int .i64 0, .int .i64 0, .int .u32 0, .bool false, .int .i64 0] 28) hD.h)
  have H1 := Lib.hid (RiS.start hD)
  clear hD hl hx hls hL
  go_enter Try.func175, Try.ntmps175
  go_wp2_with fail
  clear c0
  have HQ := Lib.hid q5
  refine wp_draw 18 (RiS w d (.slice (some ⟨g, ao, none⟩) L.length sc) L g ⟨k, sh, false⟩ w.heap.size Ins.zero.cells) (fun _ _ => False) (by kernel_rfl) (by kernel_rfl) (H1.out.step (Upd.refl [] _).drew) (fun _ _ _ h => h.elim) ?_
  simp only [List.take_succ_cons, List.take_zero, List.drop_succ_cons, List.drop_zero]
  iterate 18
    apply headW_val rfl rfl
    · intro K hK w1 hB1
      obtain ⟨c0, c1, c2, c3⟩ := hB1.h.cells
      have cb := HC.out _ hB1.h.b
      have HB := Lib.hid hB1
      clear hB1
      go_wp2_with fail
      first
      | exact hK _ HB.out
      | exact HB.out
    · exact ⟨_, rfl⟩
  refine headW_nil (fun _ w2 hB2 => ?_)
  obtain ⟨c0, c1, c2, c3⟩ := hB2.h.cells
  have f2 := free_of hB2.h.h
  have H2 := Lib.hid hB2
  clear hB2 H1
  go_wp2_with (have _t := H2; clear _t; refine at_store 28 rfl ?_; refine wpList_store_ins Ins.zero (w.heap.size) rfl _ _ rfl rfl rfl (H2.out).r (H2.out).z ?_; intro w3 hw; have H3 := Lib.hid ((H2.out).store hw); clear hw H2)
  exact bodyPost_ret (results_two' rfl (res_ins 4 (w.heap.size) _ rfl H3.out.r) (res_tmp 5 rfl)) rfl ⟨rfl, H3.out.h, H3.out.u⟩

set_option maxRecDepth 100000 in
set_option maxHeartbeats 2000000 in
theorem rearly_131 (d g : Nat) (s : Rd) (v : Value) (L : List Int) (w : World) (hD : IsRd w d v L g s) (k : Nat) (sh : Bool) (hs : s = ⟨k, sh, false⟩) (hl : 1 < L.length)  :
    Calls Try.prog 175 #[.pointer (some ⟨d, 0, none⟩), .int .u8 131] w (RAns d v L g w ⟨Ins.zero, false, ⟨k, sh, false⟩⟩) := by
  subst hs
  obtain ⟨ao, sc, rfl, hsc⟩ : ∃ ao c, v = .slice (some ⟨g, ao, none⟩) L.length c ∧ L.length ≤ c := by
    rcases hD.b with ⟨_, h1⟩ | ⟨ao, c, _, _, _, h1, _⟩
    · rw [h1] at hl; simp at hl
    · exact ⟨ao, c, h1, hD.c _ _ _ h1⟩
  have hL := hD.r
  have hx := hL 1
  have hls := hD.n
  unfold maxLen at hls
  have q1 : decide ((L.length : Int) < 2) = false := by simp; omega
  have q2 : decide (L.length < 2) = false := by simp; omega
  have q3 : 1 < L.length := hl
  have HC := Lib.hid (fun (W : World) (hb : BySl W (.slice (some ⟨g, ao, none⟩) L.length sc) L g) => bysl_cell W hl hb)
  obtain ⟨x, hxe⟩ : ∃ x, L.getD 1 0 = x := ⟨_, rfl⟩
  rw [hxe] at hx HC
  have q4 := mrm_bits8 x hx
  obtain ⟨n, hn⟩ : ∃ n, x / 8 % 8 = n := ⟨_, rfl⟩
  obtain ⟨md, hmd⟩ : ∃ md, x / 64 = md := ⟨_, rfl⟩
  have hn8 : 0 ≤ n ∧ n < 8 := by omega
  rw [hn] at q4
  have q5 : x / 64 = md := hmd
  clear hn hmd hxe
  have c0 := cells_of (heap_alloc_keep (.cells #[.int .i64 0, .int .i64 0, .int .i64 0, .int .i64 0, .int .u32 0, .int .i64 0, .int .i64 0, .int .u32 0, .int .i64 0, .int .i64 0, .int .u32 0, .int .i64 0, .int .i64 0, .int .u32 0, .bool false, .int .i64 0] 28) hD.h)
  have H1 := Lib.hid (RiS.start hD)
  clear hD hl hx hls hL
  go_enter Try.func175, Try.ntmps175
  go_wp2_with fail
  clear c0
  have HQ := Lib.hid q5
  refine wp_draw 18 (RiS w d (.slice (some ⟨g, ao, none⟩) L.length sc) L g ⟨k, sh, false⟩ w.heap.size Ins.zero.cells) (fun _ _ => False) (by kernel_rfl) (by kernel_rfl) (H1.out.step (Upd.refl [] _).drew) (fun _ _ _ h => h.elim) ?_
  simp only [List.take_succ_cons, List.take_zero, List.drop_succ_cons, List.drop_zero]
  iterate 18
    apply headW_val rfl rfl
    · intro K hK w1 hB1
      obtain ⟨c0, c1, c2, c3⟩ := hB1.h.cells
      have cb := HC.out _ hB1.h.b
      have HB := Lib.hid hB1
      clear hB1
      go_wp2_with fail
      first
      | exact hK _ HB.out
      | exact HB.out
    · exact ⟨_, rfl⟩
  refine headW_nil (fun _ w2 hB2 => ?_)
  obtain ⟨c0, c1, c2, c3⟩ := hB2.h.cells
  have f2 := free_of hB2.h.h
  have H2 := Lib.hid hB2
  clear hB2 H1
  go_wp2_with (have _t := H2; clear _t; refine at_store 28 rfl ?_; refine wpList_store_ins Ins.zero (w.heap.size) rfl _ _ rfl rfl rfl (H2.out).r (H2.out).z ?_; intro w3 hw; have H3 := Lib.hid ((H2.out).store hw); clear hw H2)
  exact bodyPost_ret (results_two' rfl (res_ins 4 (w.heap.size) _ rfl H3.out.r) (res_tmp 5 rfl)) rfl ⟨rfl, H3.out.h, H3.out.u⟩

set_option maxRecDepth 100000 in
set_option maxHeartbeats 2000000 in
theorem rearly_133 (d g : Nat) (s : Rd) (v : Value) (L : List Int) (w : World) (hD : IsRd w d v L g s) (k : Nat) (sh : Bool) (hs : s = ⟨k, sh, false⟩) (hl : 1 < L.length)  :
    Calls Try.prog 175 #[.pointer (some ⟨d, 0, none⟩), .int .u8 133] w (RAns d v L g w ⟨Ins.zero, false, ⟨k, sh, false⟩⟩) := by
  subst hs
  obtain ⟨ao, sc, rfl, hsc⟩ : ∃ ao c, v = .slice (some ⟨g, ao, none⟩) L.length c ∧ L.length ≤ c := by
    rcases hD.b with ⟨_, h1⟩ | ⟨ao, c, _, _, _, h1, _⟩
    · rw [h1] at hl; simp at hl
    · exact ⟨ao, c, h1, hD.c _ _ _ h1⟩
  have hL := hD.r
  have hx := hL 1
  have hls := hD.n
  unfold maxLen at hls
  have q1 : decide ((L.length : Int) < 2) = false := by simp; omega
  have q2 : decide (L.length < 2) = false := by simp; omega
  have q3 : 1 < L.length := hl
  have HC := Lib.hid (fun (W : World) (hb : BySl W (.slice (some ⟨g, ao, none⟩) L.length sc) L g) => bysl_cell W hl hb)
  obtain ⟨x, hxe⟩ : ∃ x, L.getD 1 0 = x := ⟨_, rfl⟩
  rw [hxe] at hx HC
  have q4 := mrm_bits8 x hx
  obtain ⟨n, hn⟩ : ∃ n, x / 8 % 8 = n := ⟨_, rfl⟩
  obtain ⟨md, hmd⟩ : ∃ md, x / 64 = md := ⟨_, rfl⟩
  have hn8 : 0 ≤ n ∧ n < 8 := by omega
  rw [hn] at q4
  have q5 : x / 64 = md := hmd
  clear hn hmd hxe
  have c0 := cells_of (heap_alloc_keep (.cells #[.int .i64 0, .int .i64 0, .int .i64 0, .int .i64 0, .int .u32 0, .int .i64 0, .int .i64 0, .int .u32 0, .int .i64 0, .int .i64 0, .int .u32 0, .int .i64 0, .int .i64 0, .int .u32 0, .bool false, .int .i64 0] 28) hD.h)
  have H1 := Lib.hid (RiS.start hD)
  clear hD hl hx hls hL
  go_enter Try.func175, Try.ntmps175
  go_wp2_with fail
  clear c0
  have HQ := Lib.hid q5
  refine wp_draw 18 (RiS w d (.slice (some ⟨g, ao, none⟩) L.length sc) L g ⟨k, sh, false⟩ w.heap.size Ins.zero.cells) (fun _ _ => False) (by kernel_rfl) (by kernel_rfl) (H1.out.step (Upd.refl [] _).drew) (fun _ _ _ h => h.elim) ?_
  simp only [List.take_succ_cons, List.take_zero, List.drop_succ_cons, List.drop_zero]
  iterate 18
    apply headW_val rfl rfl
    · intro K hK w1 hB1
      obtain ⟨c0, c1, c2, c3⟩ := hB1.h.cells
      have cb := HC.out _ hB1.h.b
      have HB := Lib.hid hB1
      clear hB1
      go_wp2_with fail
      first
      | exact hK _ HB.out
      | exact HB.out
    · exact ⟨_, rfl⟩
  refine headW_nil (fun _ w2 hB2 => ?_)
  obtain ⟨c0, c1, c2, c3⟩ := hB2.h.cells
  have f2 := free_of hB2.h.h
  have H2 := Lib.hid hB2
  clear hB2 H1
  go_wp2_with (have _t := H2; clear _t; refine at_store 28 rfl ?_; refine wpList_store_ins Ins.zero (w.heap.size) rfl _ _ rfl rfl rfl (H2.out).r (H2.out).z ?_; intro w3 hw; have H3 := Lib.hid ((H2.out).store hw); clear hw H2)
  exact bodyPost_ret (results_two' rfl (res_ins 4 (w.heap.size) _ rfl H3.out.r) (res_tmp 5 rfl)) rfl ⟨rfl, H3.out.h, H3.out.u⟩

set_option maxRecDepth 100000 in
set_option maxHeartbeats 2000000 in
theorem rearly_135 (d g : Nat) (s : Rd) (v : Value) (L : List Int) (w : World) (hD : IsRd w d v L g s) (k : Nat) (sh : Bool) (hs : s = ⟨k, sh, false⟩) (hl : 1 < L.length)  :
    Calls Try.prog 175 #[.pointer (some ⟨d, 0, none⟩), .int .u8 135] w (RAns d v L g w ⟨Ins.zero, false, ⟨k, sh, false⟩⟩) := by
  subst hs
  obtain ⟨ao, sc, rfl, hsc⟩ : ∃ ao c, v = .slice (some ⟨g, ao, none⟩) L.length c ∧ L.length ≤ c := by
    rcases hD.b with ⟨_, h1⟩ | ⟨ao, c, _, _, _, h1, _⟩
    · rw [h1] at hl; simp at hl
    · exact ⟨ao, c, h1, hD.c _ _ _ h1⟩
  have hL := hD.r
  have hx := hL 1
  have hls := hD.n
  unfold maxLen at hls
  have q1 : decide ((L.length : Int) < 2) = false := by simp; omega
  have q2 : decide (L.length < 2) = false := by simp; omega
  have q3 : 1 < L.length := hl
  have HC := Lib.hid (fun (W : World) (hb : BySl W (.slice (some ⟨g, ao, none⟩) L.length sc) L g) => bysl_cell W hl hb)
  obtain ⟨x, hxe⟩ : ∃ x, L.getD 1 0 = x := ⟨_, rfl⟩
  rw [hxe] at hx HC
  have q4 := mrm_bits8 x hx
  obtain ⟨n, hn⟩ : ∃ n, x / 8 % 8 = n := ⟨_, rfl⟩
  obtain ⟨md, hmd⟩ : ∃ md, x / 64 = md := ⟨_, rfl⟩
  have hn8 : 0 ≤ n ∧ n < 8 := by omega
  rw [hn] at q4
  have q5 : x / 64 = md := hmd
  clear hn hmd hxe
  have c0 := cells_of (heap_alloc_keep (.cells #[.int .i64 0, .int .i64 0, .int .i64 0, .int .i64 0, .int .u32 0, .int .i64 0, .int .i64 0, .int .u32 0, .int .i64 0, .int .i64 0, .int .u32 0, .int .i64 0, .int .i64 0, .int .u32 0, .bool false, .int .i64 0] 28) hD.h)
  have H1 := Lib.hid (RiS.start hD)
  clear hD hl hx hls hL
  go_enter Try.func175, Try.ntmps175
  go_wp2_with fail
  clear c0
  have HQ := Lib.hid q5
  refine wp_draw 18 (RiS w d (.slice (some ⟨g, ao, none⟩) L.length sc) L g ⟨k, sh, false⟩ w.heap.size Ins.zero.cells) (fun _ _ => False) (by kernel_rfl) (by kernel_rfl) (H1.out.step (Upd.refl [] _).drew) (fun _ _ _ h => h.elim) ?_
  simp only [List.take_succ_cons, List.take_zero, List.drop_succ_cons, List.drop_zero]
  iterate 18
    apply headW_val rfl rfl
    · intro K hK w1 hB1
      obtain ⟨c0, c1, c2, c3⟩ := hB1.h.cells
      have cb := HC.out _ hB1.h.b
      have HB := Lib.hid hB1
      clear hB1
      go_wp2_with fail
      first
      | exact hK _ HB.out
      | exact HB.out
    · exact ⟨_, rfl⟩
  refine headW_nil (fun _ w2 hB2 => ?_)
  obtain ⟨c0, c1, c2, c3⟩ := hB2.h.cells
  have f2 := free_of hB2.h.h
  have H2 := Lib.hid hB2
  clear hB2 H1
  go_wp2_with (have _t := H2; clear _t; refine at_store 28 rfl ?_; refine wpList_store_ins Ins.zero (w.heap.size) rfl _ _ rfl rfl rfl (H2.out).r (H2.out).z ?_; intro w3 hw; have H3 := Lib.hid ((H2.out).store hw); clear hw H2)
  exact bodyPost_ret (results_two' rfl (res_ins 4 (w.heap.size) _ rfl H3.out.r) (res_tmp 5 rfl)) rfl ⟨rfl, H3.out.h, H3.out.u⟩

set_option maxRecDepth 100000 in
set_option maxHeartbeats 2000000 in
theorem rearly_136 (d g : Nat) (s : Rd) (v : Value) (L : List Int) (w : World) (hD : IsRd w d v L g s) (k : Nat) (sh : Bool) (hs : s = ⟨k, sh, false⟩) (hl : 1 < L.length)  :
    Calls Try.prog 175 #[.pointer (some ⟨d, 0, none⟩), .int .u8 136] w (RAns d v L g w ⟨Ins.zero, false, ⟨k, sh, false⟩⟩) := by
  subst hs
  obtain ⟨ao, sc, rfl, hsc⟩ : ∃ ao c, v = .slice (some ⟨g, ao, none⟩) L.length c ∧ L.length ≤ c := by
    rcases hD.b with ⟨_, h1⟩ | ⟨ao, c, _, _, _, h1, _⟩
    · rw [h1] at hl; simp at hl
    · exact ⟨ao, c, h1, hD.c _ _ _ h1⟩
  have hL := hD.r
  have hx := hL 1
  have hls := hD.n
  unfold maxLen at hls
  have q1 : decide ((L.length : Int) < 2) = false := by simp; omega
  have q2 : decide (L.length < 2) = false := by simp; omega
  have q3 : 1 < L.length := hl
  have HC := Lib.hid (fun (W : World) (hb : BySl W (.slice (some ⟨g, ao, none⟩) L.length sc) L g) => bysl_cell W hl hb)
  obtain ⟨x, hxe⟩ : ∃ x, L.getD 1 0 = x := ⟨_, rfl⟩
  rw [hxe] at hx HC
  have q4 := mrm_bits8 x hx
  obtain ⟨n, hn⟩ : ∃ n, x / 8 % 8 = n := ⟨_, rfl⟩
  obtain ⟨md, hmd⟩ : ∃ md, x / 64 = md := ⟨_, rfl⟩
  have hn8 : 0 ≤ n ∧ n < 8 := by omega
  rw [hn] at q4
  have q5 : x / 64 = md := hmd
  clear hn hmd hxe
  have c0 := cells_of (heap_alloc_keep (.cells #[.int .i64 0, .int .i64 0, .int .i64 0, .int .i64 0, .int .u32 0, .int .i64 0, .int .i64 0, .int .u32 0, .int .i64 0, .int .i64 0, .int .u32 0, .int .i64 0, .int .i64 0, .int .u32 0, .bool false, .int .i64 0] 28) hD.h)
  have H1 := Lib.hid (RiS.start hD)
  clear hD hl hx hls hL
  go_enter Try.func175, Try.ntmps175
  go_wp2_with fail
  clear c0
  have HQ := Lib.hid q5
  refine wp_draw 18 (RiS w d (.slice (some ⟨g, ao, none⟩) L.length sc) L g ⟨k, sh, false⟩ w.heap.size Ins.zero.cells) (fun _ _ => False) (by kernel_rfl) (by kernel_rfl) (H1.out.step (Upd.refl [] _).drew) (fun _ _ _ h => h.elim) ?_
  simp only [List.take_succ_cons, List.take_zero, List.drop_succ_cons, List.drop_zero]
  iterate 18
    apply headW_val rfl rfl
    · intro K hK w1 hB1
      obtain ⟨c0, c1, c2, c3⟩ := hB1.h.cells
      have cb := HC.out _ hB1.h.b
      have HB := Lib.hid hB1
      clear hB1
      go_wp2_with fail
      first
      | exact hK _ HB.out
      | exact HB.out
    · exact ⟨_, rfl⟩
  refine headW_nil (fun _ w2 hB2 => ?_)
  obtain ⟨c0, c1, c2, c3⟩ := hB2.h.cells
  have f2 := free_of hB2.h.h
  have H2 := Lib.hid hB2
  clear hB2 H1
  go_wp2_with (have _t := H2; clear _t; refine at_store 28 rfl ?_; refine wpList_store_ins Ins.zero (w.heap.size) rfl _ _ rfl rfl rfl (H2.out).r (H2.out).z ?_; intro w3 hw; have H3 := Lib.hid ((H2.out).store hw); clear hw H2)
  exact bodyPost_ret (results_two' rfl (res_ins 4 (w.heap.size) _ rfl H3.out.r) (res_tmp 5 rfl)) rfl ⟨rfl, H3.out.h, H3.out.u⟩

set_option maxRecDepth 100000 in
set_option maxHeartbeats 2000000 in
theorem rearly_137 (d g : Nat) (s : Rd) (v : Value) (L : List Int) (w : World) (hD : IsRd w d v L g s) (k : Nat) (sh : Bool) (hs : s = ⟨k, sh, false⟩) (hl : 1 < L.length)  :
    Calls Try.prog 175 #[.pointer (some ⟨d, 0, none⟩), .int .u8 137] w (RAns d v L g w ⟨Ins.zero, false, ⟨k, sh, false⟩⟩) := by
  subst hs
  obtain ⟨ao, sc, rfl, hsc⟩ : ∃ ao c, v = .slice (some ⟨g, ao, none⟩) L.length c ∧ L.length ≤ c := by
    rcases hD.b with ⟨_, h1⟩ | ⟨ao, c, _, _, _, h1, _⟩
    · rw [h1] at hl; simp at hl
    · exact ⟨ao, c, h1, hD.c _ _ _ h1⟩
  have hL := hD.r
  have hx := hL 1
  have hls := hD.n
  unfold maxLen at hls
  have q1 : decide ((L.length : Int) < 2) = false := by simp; omega
  have q2 : decide (L.length < 2) = false := by simp; omega
  have q3 : 1 < L.length := hl
  have HC := Lib.hid (fun (W : World) (hb : BySl W (.slice (some ⟨g, ao, none⟩) L.length sc) L g) => bysl_cell W hl hb)
  obtain ⟨x, hxe⟩ : ∃ x, L.getD 1 0 = x := ⟨_, rfl⟩
  rw [hxe] at hx HC
  have q4 := mrm_bits8 x hx
  obtain ⟨n, hn⟩ : ∃ n, x / 8 % 8 = n := ⟨_, rfl⟩
  obtain ⟨md, hmd⟩ : ∃ md, x / 64 = md := ⟨_, rfl⟩
  have hn8 : 0 ≤ n ∧ n < 8 := by omega
  rw [hn] at q4
  have q5 : x / 64 = md := hmd
  clear hn hmd hxe
  have c0 := cells_of (heap_alloc_keep (.cells #[.int .i64 0, .int .i64 0, .int .i64 0, .int .i64 0, .int .u32 0, .int .i64 0, .int .i64 0, .int .u32 0, .int .i64 0, .int .i64 0, .int .u32 0, .int .i64 0, .int .i64 0, .int .u32 0, .bool false, .int .i64 0] 28) hD.h)
  have H1 := Lib.hid (RiS.start hD)
  clear hD hl hx hls hL
  go_enter Try.func175, Try.ntmps175
  go_wp2_with fail
  clear c0
  have HQ := Lib.hid q5
  refine wp_draw 18 (RiS w d (.slice (some ⟨g, ao, none⟩) L.length sc) L g ⟨k, sh, false⟩ w.heap.size Ins.zero.cells) (fun _ _ => False) (by kernel_rfl) (by kernel_rfl) (H1.out.step (Upd.refl [] _).drew) (fun _ _ _ h => h.elim) ?_
  simp only [List.take_succ_cons, List.take_zero, List.drop_succ_cons, List.drop_zero]
  iterate 18
    apply headW_val rfl rfl
    · intro K hK w1 hB1
      obtain ⟨c0, c1, c2, c3⟩ := hB1.h.cells
      have cb := HC.out _ hB1.h.b
      have HB := Lib.hid hB1
      clear hB1
      go_wp2_with fail
      first
      | exact hK _ HB.out
      | exact HB.out
    · exact ⟨_, rfl⟩
  refine headW_nil (fun _ w2 hB2 => ?_)
  obtain ⟨c0, c1, c2, c3⟩ := hB2.h.cells
  have f2 := free_of hB2.h.h
  have H2 := Lib.hid hB2
  clear hB2 H1
  go_wp2_with (have _t := H2; clear _t; refine at_store 28 rfl ?_; refine wpList_store_ins Ins.zero (w.heap.size) rfl _ _ rfl rfl rfl (H2.out).r (H2.out).z ?_; intro w3 hw; have H3 := Lib.hid ((H2.out).store hw); clear hw H2)
  exact bodyPost_ret (results_two' rfl (res_ins 4 (w.heap.size) _ rfl H3.out.r) (res_tmp 5 rfl)) rfl ⟨rfl, H3.out.h, H3.out.u⟩

set_option maxRecDepth 100000 in
set_option maxHeartbeats 2000000 in
theorem rearly_138 (d g : Nat) (s : Rd) (v : Value) (L : List Int) (w : World) (hD : IsRd w d v L g s) (k : Nat) (sh : Bool) (hs : s = ⟨k, sh, false⟩) (hl : 1 < L.length)  :
    Calls Try.prog 175 #[.pointer (some ⟨d, 0, none⟩), .int .u8 138] w (RAns d v L g w ⟨Ins.zero, false, ⟨k, sh, false⟩⟩) := by
  subst hs
  obtain ⟨ao, sc, rfl, hsc⟩ : ∃ ao c, v = .slice (some ⟨g, ao, none⟩) L.length c ∧ L.length ≤ c := by
    rcases hD.b with ⟨_, h1⟩ | ⟨ao, c, _, _, _, h1, _⟩
    · rw [h1] at hl; simp at hl
    · exact ⟨ao, c, h1, hD.c _ _ _ h1⟩
  have hL := hD.r
  have hx := hL 1
  have hls := hD.n
  unfold maxLen at hls
  have q1 : decide ((L.length : Int) < 2) = false := by simp; omega
  have q2 : decide (L.length < 2) = false := by simp; omega
  have q3 : 1 < L.length := hl
  have HC := Lib.hid (fun (W : World) (hb : BySl W (.slice (some ⟨g, ao, none⟩) L.length sc) L g) => bysl_cell W hl hb)
  obtain ⟨x, hxe⟩ : ∃ x, L.getD 1 0 = x := ⟨_, rfl⟩
  rw [hxe] at hx HC
  have q4 := mrm_bits8 x hx
  obtain ⟨n, hn⟩ : ∃ n, x / 8 % 8 = n := ⟨_, rfl⟩
  obtain ⟨md, hmd⟩ : ∃ md, x / 64 = md := ⟨_, rfl⟩
  have hn8 : 0 ≤ n ∧ n < 8 := by omega
  rw [hn] at q4
  have q5 : x / 64 = md := hmd
  clear hn hmd hxe
  have c0 := cells_of (heap_alloc_keep (.cells #[.int .i64 0, .int .i64 0, .int .i64 0, .int .i64 0, .int .u32 0, .int .i64 0, .int .i64 0, .int .u32 0, .int .i64 0, .int .i64 0, .int .u32 0, .int .i64 0, .int .i64 0, .int .u32 0, .bool false, .int .i64 0] 28) hD.h)
  have H1 := Lib.hid (RiS.start hD)
  clear hD hl hx hls hL
  go_enter Try.func175, Try.ntmps175
  go_wp2_with fail
  clear c0
  have HQ := Lib.hid q5
  refine wp_draw 18 (RiS w d (.slice (some ⟨g, ao, none⟩) L.length sc) L g ⟨k, sh, false⟩ w.heap.size Ins.zero.cells) (fun _ _ => False) (by kernel_rfl) (by kernel_rfl) (H1.out.step (Upd.refl [] _).drew) (fun _ _ _ h => h.elim) ?_
  simp only [List.take_succ_cons, List.take_zero, List.drop_succ_cons, List.drop_zero]
  iterate 18
    apply headW_val rfl rfl
    · intro K hK w1 hB1
      obtain ⟨c0, c1, c2, c3⟩ := hB1.h.cells
      have cb := HC.out _ hB1.h.b
      have HB := Lib.hid hB1
      clear hB1
      go_wp2_with fail
      first
      | exact hK _ HB.out
      | exact HB.out
    · exact ⟨_, rfl⟩
  refine headW_nil (fun _ w2 hB2 => ?_)
  obtain ⟨c0, c1, c2, c3⟩ := hB2.h.cells
  have f2 := free_of hB2.h.h
  have H2 := Lib.hid hB2
  clear hB2 H1
  go_wp2_with (have _t := H2; clear _t; refine at_store 28 rfl ?_; refine wpList_store_ins Ins.zero (w.heap.size) rfl _ _ rfl rfl rfl (H2.out).r (H2.out).z ?_; intro w3 hw; have H3 := Lib.hid ((H2.out).store hw); clear hw H2)
  exact bodyPost_ret (results_two' rfl (res_ins 4 (w.heap.size) _ rfl H3.out.r) (res_tmp 5 rfl)) rfl ⟨rfl, H3.out.h, H3.out.u⟩

set_option maxRecDepth 100000 in
set_option maxHeartbeats 2000000 in
theorem rearly_139 (d g : Nat) (s : Rd) (v : Value) (L : List Int) (w : World) (hD : IsRd w d v L g s) (k : Nat) (sh : Bool) (hs : s = ⟨k, sh, false⟩) (hl : 1 < L.length)  :
    Calls Try.prog 175 #[.pointer (some ⟨d, 0, none⟩), .int .u8 139] w (RAns d v L g w ⟨Ins.zero, false, ⟨k, sh, false⟩⟩) := by
  subst hs
  obtain ⟨ao, sc, rfl, hsc⟩ : ∃ ao c, v = .slice (some ⟨g, ao, none⟩) L.length c ∧ L.length ≤ c := by
    rcases hD.b with ⟨_, h1⟩ | ⟨ao, c, _, _, _, h1, _⟩
    · rw [h1] at hl; simp at hl
    · exact ⟨ao, c, h1, hD.c _ _ _ h1⟩
  have hL := hD.r
  have hx := hL 1
  have hls := hD.n
  unfold maxLen at hls
  have q1 : decide ((L.length : Int) < 2) = false := by simp; omega
  have q2 : decide (L.length < 2) = false := by simp; omega
  have q3 : 1 < L.length := hl
  have HC := Lib.hid (fun (W : World) (hb : BySl W (.slice (some ⟨g, ao, none⟩) L.length sc) L g) => bysl_cell W hl hb)
  obtain ⟨x, hxe⟩ : ∃ x, L.getD 1 0 = x := ⟨_, rfl⟩
  rw [hxe] at hx HC
  have q4 := mrm_bits8 x hx
  obtain ⟨n, hn⟩ : ∃ n, x / 8 % 8 = n := ⟨_, rfl⟩
  obtain ⟨md, hmd⟩ : ∃ md, x / 64 = md := ⟨_, rfl⟩
  have hn8 : 0 ≤ n ∧ n < 8 := by omega
  rw [hn] at q4
  have q5 : x / 64 = md := hmd
  clear hn hmd hxe
  have c0 := cells_of (heap_alloc_keep (.cells #[.int .i64 0, .int .i64 0, .int .i64 0, .int .i64 0, .int .u32 0, .int .i64 0, .int .i64 0, .int .u32 0, .int .i64 0, .int .i64 0, .int .u32 0, .int .i64 0, .int .i64 0, .int .u32 0, .bool false, .int .i64 0] 28) hD.h)
  have H1 := Lib.hid (RiS.start hD)
  clear hD hl hx hls hL
  go_enter Try.func175, Try.ntmps175
  go_wp2_with fail
  clear c0
  have HQ := Lib.hid q5
  refine wp_draw 18 (RiS w d (.slice (some ⟨g, ao, none⟩) L.length sc) L g ⟨k, sh, false⟩ w.heap.size Ins.zero.cells) (fun _ _ => False) (by kernel_rfl) (by kernel_rfl) (H1.out.step (Upd.refl [] _).drew) (fun _ _ _ h => h.elim) ?_
  simp only [List.take_succ_cons, List.take_zero, List.drop_succ_cons, List.drop_zero]
  iterate 18
    apply headW_val rfl rfl
    · intro K hK w1 hB1
      obtain ⟨c0, c1, c2, c3⟩ := hB1.h.cells
      have cb := HC.out _ hB1.h.b
      have HB := Lib.hid hB1
      clear hB1
      go_wp2_with fail
      first
      | exact hK _ HB.out
      | exact HB.out
    · exact ⟨_, rfl⟩
  refine headW_nil (fun _ w2 hB2 => ?_)
  obtain ⟨c0, c1, c2, c3⟩ := hB2.h.cells
  have f2 := free_of hB2.h.h
  have H2 := Lib.hid hB2
  clear hB2 H1
  go_wp2_with (have _t := H2; clear _t; refine at_store 28 rfl ?_; refine wpList_store_ins Ins.zero (w.heap.size) rfl _ _ rfl rfl rfl (H2.out).r (H2.out).z ?_; intro w3 hw; have H3 := Lib.hid ((H2.out).store hw); clear hw H2)
  exact bodyPost_ret (results_two' rfl (res_ins 4 (w.heap.size) _ rfl H3.out.r) (res_tmp 5 rfl)) rfl ⟨rfl, H3.out.h, H3.out.u⟩

set_option maxRecDepth 100000 in
set_option maxHeartbeats 2000000 in
theorem rearly_141 (d g : Nat) (s : Rd) (v : Value) (L : List Int) (w : World) (hD : IsRd w d v L g s) (k : Nat) (sh : Bool) (hs : s = ⟨k, sh, false⟩) (hl : 1 < L.length)  :
    Calls Try.prog 175 #[.pointer (some ⟨d, 0, none⟩), .int .u8 141] w (RAns d v L g w ⟨Ins.zero, false, ⟨k, sh, false⟩⟩) := by
  subst hs
  obtain ⟨ao, sc, rfl, hsc⟩ : ∃ ao c, v = .slice (some ⟨g, ao, none⟩) L.length c ∧ L.length ≤ c := by
    rcases hD.b with ⟨_, h1⟩ | ⟨ao, c, _, _, _, h1, _⟩
    · rw [h1] at hl; simp at hl
    · exact ⟨ao, c, h1, hD.c _ _ _ h1⟩
  have hL := hD.r
  have hx := hL 1
  have hls := hD.n
  unfold maxLen at hls
  have q1 : decide ((L.length : Int) < 2) = false := by simp; omega
  have q2 : decide (L.length < 2) = false := by simp; omega
  have q3 : 1 < L.length := hl
  have HC := Lib.hid (fun (W : World) (hb : BySl W (.slice (some ⟨g, ao, none⟩) L.length sc) L g) => bysl_cell W hl hb)
  obtain ⟨x, hxe⟩ : ∃ x, L.getD 1 0 = x := ⟨_, rfl⟩
  rw [hxe] at hx HC
  have q4 := mrm_bits8 x hx
  obtain ⟨n, hn⟩ : ∃ n, x / 8 % 8 = n := ⟨_, rfl⟩
  obtain ⟨md, hmd⟩ : ∃ md, x / 64 = md := ⟨_, rfl⟩
  have hn8 : 0 ≤ n ∧ n < 8 := by omega
  rw [hn] at q4
  have q5 : x / 64 = md := hmd
  clear hn hmd hxe
  have c0 := cells_of (heap_alloc_keep (.cells #[.int .i64 0, .int .i64 0, .int .i64 0, .int .i64 0, .int .u32 0, .int .i64 0, .int .i64 0, .int .u32 0, .int .i64 0, .int .i64 0, .int .u32 0, .int .i64 0, .int .i64 0, .int .u32 0, .bool false, .int .i64 0] 28) hD.h)
  have H1 := Lib.hid (RiS.start hD)
  clear hD hl hx hls hL
  go_enter Try.func175, Try.ntmps175
  go_wp2_with fail
  clear c0
  have HQ := Lib.hid q5
  refine wp_draw 18 (RiS w d (.slice (some ⟨g, ao, none⟩) L.length sc) L g ⟨k, sh, false⟩ w.heap.size Ins.zero.cells) (fun _ _ => False) (by kernel_rfl) (by kernel_rfl) (H1.out.step (Upd.refl [] _).drew) (fun _ _ _ h => h.elim) ?_
  simp only [List.take_succ_cons, List.take_zero, List.drop_succ_cons, List.drop_zero]
  iterate 18
    apply headW_val rfl rfl
    · intro K hK w1 hB1
      obtain ⟨c0, c1, c2, c3⟩ := hB1.h.cells
      have cb := HC.out _ hB1.h.b
      have HB := Lib.hid hB1
      clear hB1
      go_wp2_with fail
      first
      | exact hK _ HB.out
      | exact HB.out
    · exact ⟨_, rfl⟩
  refine headW_nil (fun _ w2 hB2 => ?_)
  obtain ⟨c0, c1, c2, c3⟩ := hB2.h.cells
  have f2 := free_of hB2.h.h
  have H2 := Lib.hid hB2
  clear hB2 H1
  go_wp2_with (have _t := H2; clear _t; refine at_store 28 rfl ?_; refine wpList_store_ins Ins.zero (w.heap.size) rfl _ _ rfl rfl rfl (H2.out).r (H2.out).z ?_; intro w3 hw; have H3 := Lib.hid ((H2.out).store hw); clear hw H2)
  exact bodyPost_ret (results_two' rfl (res_ins 4 (w.heap.size) _ rfl H3.out.r) (res_tmp 5 rfl)) rfl ⟨rfl, H3.out.h, H3.out.u⟩

set_option maxRecDepth 100000 in
set_option maxHeartbeats 2000000 in
theorem rearly_193_y (d g : Nat) (s : Rd) (v : Value) (L : List Int) (w : World) (hD : IsRd w d v L g s) (k : Nat) (sh : Bool) (hs : s = ⟨k, sh, false⟩) (hl : 1 < L.length) (hc : shiftsI (L.getD 1 0 / 8 % 8) = 0) :
    Calls Try.prog 175 #[.pointer (some ⟨d, 0, none⟩), .int .u8 193] w (RAns d v L g w ⟨Ins.zero, true, ⟨k, false, false⟩⟩) := by
  subst hs
  obtain ⟨ao, sc, rfl, hsc⟩ : ∃ ao c, v = .slice (some ⟨g, ao, none⟩) L.length c ∧ L.length ≤ c := by
    rcases hD.b with ⟨_, h1⟩ | ⟨ao, c, _, _, _, h1, _⟩
    · rw [h1] at hl; simp at hl
    · exact ⟨ao, c, h1, hD.c _ _ _ h1⟩
  have hL := hD.r
  have hx := hL 1
  have hls := hD.n
  unfold maxLen at hls
  have q1 : decide ((L.length : Int) < 2) = false := by simp; omega
  have q2 : decide (L.length < 2) = false := by simp; omega
  have q3 : 1 < L.length := hl
  have HC := Lib.hid (fun (W : World) (hb : BySl W (.slice (some ⟨g, ao, none⟩) L.length sc) L g) => bysl_cell W hl hb)
  obtain ⟨x, hxe⟩ : ∃ x, L.getD 1 0 = x := ⟨_, rfl⟩
  rw [hxe] at hx HC
  rw [hxe] at hc
  have q4 := mrm_bits8 x hx
  obtain ⟨n, hn⟩ : ∃ n, x / 8 % 8 = n := ⟨_, rfl⟩
  obtain ⟨md, hmd⟩ : ∃ md, x / 64 = md := ⟨_, rfl⟩
  have hn8 : 0 ≤ n ∧ n < 8 := by omega
  rw [hn] at q4 hc
  have q5 : x / 64 = md := hmd
  clear hn hmd hxe
  have c0 := cells_of (heap_alloc_keep (.cells #[.int .i64 0, .int .i64 0, .int .i64 0, .int .i64 0, .int .u32 0, .int .i64 0, .int .i64 0, .int .u32 0, .int .i64 0, .int .i64 0, .int .u32 0, .int .i64 0, .int .i64 0, .int .u32 0, .bool false, .int .i64 0] 28) hD.h)
  have hix := fun w : World => shifts_index hn8.1 hn8.2 w
  rw [hc] at hix
  have H1 := Lib.hid (RiS.start hD)
  clear hD hl hx hls hL hc
  go_enter Try.func175, Try.ntmps175
  go_wp2_with fail
  clear c0
  have HQ := Lib.hid q5
  refine wp_draw 18 (RiS w d (.slice (some ⟨g, ao, none⟩) L.length sc) L g ⟨k, sh, false⟩ w.heap.size Ins.zero.cells) (fun _ _ => False) (by kernel_rfl) (by kernel_rfl) (H1.out.step (Upd.refl [] _).drew) (fun _ _ _ h => h.elim) ?_
  simp only [List.take_succ_cons, List.take_zero, List.drop_succ_cons, List.drop_zero]
  iterate 18
    apply headW_val rfl rfl
    · intro K hK w1 hB1
      obtain ⟨c0, c1, c2, c3⟩ := hB1.h.cells
      have cb := HC.out _ hB1.h.b
      have HB := Lib.hid hB1
      clear hB1
      go_wp2_with fail
      first
      | exact hK _ HB.out
      | exact HB.out
    · exact ⟨_, rfl⟩
  refine headW_nil (fun _ w2 hB2 => ?_)
  obtain ⟨c0, c1, c2, c3⟩ := hB2.h.cells
  have f2 := free_of hB2.h.h
  have H2 := Lib.hid hB2
  clear hB2 H1
  go_wp2_with (first | (go_at_call 142; refine (rshifts_any _).mono ?_; rintro e w3 ⟨rfl, hu⟩; have H3 := Lib.hid (H2.out.step hu); obtain ⟨c0, c1, c2, c3⟩ := H3.out.h.cells; have f3 := free_of H3.out.h.h; clear hu H2 f2) | (have _t := H3; clear _t; refine at_store 28 rfl ?_; refine wpList_store_ins Ins.zero (w.heap.size) rfl _ _ rfl rfl rfl (((H3.out).setS false)).r (((H3.out).setS false)).z ?_; intro w4 hw; have H4 := Lib.hid ((((H3.out).setS false)).store hw); clear hw H3))
  exact bodyPost_ret (results_two' rfl (res_ins 4 (w.heap.size) _ rfl H4.out.r) (res_tmp 5 rfl)) rfl ⟨rfl, H4.out.h, H4.out.u⟩

set_option maxRecDepth 100000 in
set_option maxHeartbeats 2000000 in
theorem rearly_193_n (d g : Nat) (s : Rd) (v : Value) (L : List Int) (w : World) (hD : IsRd w d v L g s) (k : Nat) (sh : Bool) (hs : s = ⟨k, sh, false⟩) (hl : 1 < L.length) (hc : shiftsI (L.getD 1 0 / 8 % 8) ≠ 0) :
    Calls Try.prog 175 #[.pointer (some ⟨d, 0, none⟩), .int .u8 193] w (RAns d v L g w ⟨Ins.zero, false, ⟨k, sh, false⟩⟩) := by
  subst hs
  obtain ⟨ao, sc, rfl, hsc⟩ : ∃ ao c, v = .slice (some ⟨g, ao, none⟩) L.length c ∧ L.length ≤ c := by
    rcases hD.b with ⟨_, h1⟩ | ⟨ao, c, _, _, _, h1, _⟩
    · rw [h1] at hl; simp at hl
    · exact ⟨ao, c, h1, hD.c _ _ _ h1⟩
  have hL := hD.r
  have hx := hL 1
  have hls := hD.n
  unfold maxLen at hls
  have q1 : decide ((L.length : Int) < 2) = false := by simp; omega
  have q2 : decide (L.length < 2) = false := by simp; omega
  have q3 : 1 < L.length := hl
  have HC := Lib.hid (fun (W : World) (hb : BySl W (.slice (some ⟨g, ao, none⟩) L.length sc) L g) => bysl_cell W hl hb)
  obtain ⟨x, hxe⟩ : ∃ x, L.getD 1 0 = x := ⟨_, rfl⟩
  rw [hxe] at hx HC
  rw [hxe] at hc
  have q4 := mrm_bits8 x hx
  obtain ⟨n, hn⟩ : ∃ n, x / 8 % 8 = n := ⟨_, rfl⟩
  obtain ⟨md, hmd⟩ : ∃ md, x / 64 = md := ⟨_, rfl⟩
  have hn8 : 0 ≤ n ∧ n < 8 := by omega
  rw [hn] at q4 hc
  have q5 : x / 64 = md := hmd
  clear hn hmd hxe
  have c0 := cells_of (heap_alloc_keep (.cells #[.int .i64 0, .int .i64 0, .int .i64 0, .int .i64 0, .int .u32 0, .int .i64 0, .int .i64 0, .int .u32 0, .int .i64 0, .int .i64 0, .int .u32 0, .int .i64 0, .int .i64 0, .int .u32 0, .bool false, .int .i64 0] 28) hD.h)
  have hix := fun w : World => shifts_index hn8.1 hn8.2 w
  have q7 : (shiftsI n == 0) = false := by simpa using hc
  have H1 := Lib.hid (RiS.start hD)
  clear hD hl hx hls hL hc
  go_enter Try.func175, Try.ntmps175
  go_wp2_with fail
  clear c0
  have HQ := Lib.hid q5
  refine wp_draw 18 (RiS w d (.slice (some ⟨g, ao, none⟩) L.length sc) L g ⟨k, sh, false⟩ w.heap.size Ins.zero.cells) (fun _ _ => False) (by kernel_rfl) (by kernel_rfl) (H1.out.step (Upd.refl [] _).drew) (fun _ _ _ h => h.elim) ?_
  simp only [List.take_succ_cons, List.take_zero, List.drop_succ_cons, List.drop_zero]
  iterate 18
    apply headW_val rfl rfl
    · intro K hK w1 hB1
      obtain ⟨c0, c1, c2, c3⟩ := hB1.h.cells
      have cb := HC.out _ hB1.h.b
      have HB := Lib.hid hB1
      clear hB1
      go_wp2_with fail
      first
      | exact hK _ HB.out
      | exact HB.out
    · exact ⟨_, rfl⟩
  refine headW_nil (fun _ w2 hB2 => ?_)
  obtain ⟨c0, c1, c2, c3⟩ := hB2.h.cells
  have f2 := free_of hB2.h.h
  have H2 := Lib.hid hB2
  clear hB2 H1
  go_wp2_with (first | (go_at_call 142; refine (rshifts_any _).mono ?_; rintro e w3 ⟨rfl, hu⟩; have H3 := Lib.hid (H2.out.step hu); obtain ⟨c0, c1, c2, c3⟩ := H3.out.h.cells; have f3 := free_of H3.out.h.h; clear hu H2 f2) | (have _t := H3; clear _t; refine at_store 28 rfl ?_; refine wpList_store_ins Ins.zero (w.heap.size) rfl _ _ rfl rfl rfl (H3.out).r (H3.out).z ?_; intro w4 hw; have H4 := Lib.hid ((H3.out).store hw); clear hw H3))
  exact bodyPost_ret (results_two' rfl (res_ins 4 (w.heap.size) _ rfl H4.out.r) (res_tmp 5 rfl)) rfl ⟨rfl, H4.out.h, H4.out.u⟩

set_option maxRecDepth 100000 in
set_option maxHeartbeats 2000000 in
theorem rearly_209_y (d g : Nat) (s : Rd) (v : Value) (L : List Int) (w : World) (hD : IsRd w d v L g s) (k : Nat) (sh : Bool) (hs : s = ⟨k, sh, false⟩) (hl : 1 < L.length) (hc : shiftsI (L.getD 1 0 / 8 % 8) = 0) :
    Calls Try.prog 175 #[.pointer (some ⟨d, 0, none⟩), .int .u8 209] w (RAns d v L g w ⟨Ins.zero, true, ⟨k, false, false⟩⟩) := by
  subst hs
  obtain ⟨ao, sc, rfl, hsc⟩ : ∃ ao c, v = .slice (some ⟨g, ao, none⟩) L.length c ∧ L.length ≤ c := by
    rcases hD.b with ⟨_, h1⟩ | ⟨ao, c, _, _, _, h1, _⟩
    · rw [h1] at hl; simp at hl
    · exact ⟨ao, c, h1, hD.c _ _ _ h1⟩
  have hL := hD.r
  have hx := hL 1
  have hls := hD.n
  unfold maxLen at hls
  have q1 : decide ((L.length : Int) < 2) = false := by simp; omega
  have q2 : decide (L.length < 2) = false := by simp; omega
  have q3 : 1 < L.length := hl
  have HC := Lib.hid (fun (W : World) (hb : BySl W (.slice (some ⟨g, ao, none⟩) L.length sc) L g) => bysl_cell W hl hb)
  obtain ⟨x, hxe⟩ : ∃ x, L.getD 1 0 = x := ⟨_, rfl⟩
  rw [hxe] at hx HC
  rw [hxe] at hc
  have q4 := mrm_bits8 x hx
  obtain ⟨n, hn⟩ : ∃ n, x / 8 % 8 = n := ⟨_, rfl⟩
  obtain ⟨md, hmd⟩ : ∃ md, x / 64 = md := ⟨_, rfl⟩
  have hn8 : 0 ≤ n ∧ n < 8 := by omega
  rw [hn] at q4 hc
  have q5 : x / 64 = md := hmd
  clear hn hmd hxe
  have c0 := cells_of (heap_alloc_keep (.cells #[.int .i64 0, .int .i64 0, .int .i64 0, .int .i64 0, .int .u32 0, .int .i64 0, .int .i64 0, .int .u32 0, .int .i64 0, .int .i64 0, .int .u32 0, .int .i64 0, .int .i64 0, .int .u32 0, .bool false, .int .i64 0] 28) hD.h)
  have hix := fun w : World => shifts_index hn8.1 hn8.2 w
  rw [hc] at hix
  have H1 := Lib.hid (RiS.start hD)
  clear hD hl hx hls hL hc
  go_enter Try.func175, Try.ntmps175
  go_wp2_with fail
  clear c0
  have HQ := Lib.hid q5
  refine wp_draw 18 (RiS w d (.slice (some ⟨g, ao, none⟩) L.length sc) L g ⟨k, sh, false⟩ w.heap.size Ins.zero.cells) (fun _ _ => False) (by kernel_rfl) (by kernel_rfl) (H1.out.step (Upd.refl [] _).drew) (fun _ _ _ h => h.elim) ?_
  simp only [List.take_succ_cons, List.take_zero, List.drop_succ_cons, List.drop_zero]
  iterate 18
    apply headW_val rfl rfl
    · intro K hK w1 hB1
      obtain ⟨c0, c1, c2, c3⟩ := hB1.h.cells
      have cb := HC.out _ hB1.h.b
      have HB := Lib.hid hB1
      clear hB1
      go_wp2_with fail
      first
      | exact hK _ HB.out
      | exact HB.out
    · exact ⟨_, rfl⟩
  refine headW_nil (fun _ w2 hB2 => ?_)
  obtain ⟨c0, c1, c2, c3⟩ := hB2.h.cells
  have f2 := free_of hB2.h.h
  have H2 := Lib.hid hB2
  clear hB2 H1
  go_wp2_with (first | (go_at_call 142; refine (rshifts_any _).mono ?_; rintro e w3 ⟨rfl, hu⟩; have H3 := Lib.hid (H2.out.step hu); obtain ⟨c0, c1, c2, c3⟩ := H3.out.h.cells; have f3 := free_of H3.out.h.h; clear hu H2 f2) | (have _t := H3; clear _t; refine at_store 28 rfl ?_; refine wpList_store_ins Ins.zero (w.heap.size) rfl _ _ rfl rfl rfl (((H3.out).setS false)).r (((H3.out).setS false)).z ?_; intro w4 hw; have H4 := Lib.hid ((((H3.out).setS false)).store hw); clear hw H3))
  exact bodyPost_ret (results_two' rfl (res_ins 4 (w.heap.size) _ rfl H4.out.r) (res_tmp 5 rfl)) rfl ⟨rfl, H4.out.h, H4.out.u⟩

set_option maxRecDepth 100000 in
set_option maxHeartbeats 2000000 in
theorem rearly_209_n (d g : Nat) (s : Rd) (v : Value) (L : List Int) (w : World) (hD : IsRd w d v L g s) (k : Nat) (sh : Bool) (hs : s = ⟨k, sh, false⟩) (hl : 1 < L.length) (hc : shiftsI (L.getD 1 0 / 8 % 8) ≠ 0) :
    Calls Try.prog 175 #[.pointer (some ⟨d, 0, none⟩), .int .u8 209] w (RAns d v L g w ⟨Ins.zero, false, ⟨k, sh, false⟩⟩) := by
  subst hs
  obtain ⟨ao, sc, rfl, hsc⟩ : ∃ ao c, v = .slice (some ⟨g, ao, none⟩) L.length c ∧ L.length ≤ c := by
    rcases hD.b with ⟨_, h1⟩ | ⟨ao, c, _, _, _, h1, _⟩
    · rw [h1] at hl; simp at hl
    · exact ⟨ao, c, h1, hD.c _ _ _ h1⟩
  have hL := hD.r
  have hx := hL 1
  have hls := hD.n
  unfold maxLen at hls
  have q1 : decide ((L.length : Int) < 2) = false := by simp; omega
  have q2 : decide (L.length < 2) = false := by simp; omega
  have q3 : 1 < L.length := hl
  have HC := Lib.hid (fun (W : World) (hb : BySl W (.slice (some ⟨g, ao, none⟩) L.length sc) L g) => bysl_cell W hl hb)
  obtain ⟨x, hxe⟩ : ∃ x, L.getD 1 0 = x := ⟨_, rfl⟩
  rw [hxe] at hx HC
  rw [hxe] at hc
  have q4 := mrm_bits8 x hx
  obtain ⟨n, hn⟩ : ∃ n, x / 8 % 8 = n := ⟨_, rfl⟩
  obtain ⟨md, hmd⟩ : ∃ md, x / 64 = md := ⟨_, rfl⟩
  have hn8 : 0 ≤ n ∧ n < 8 := by omega
  rw [hn] at q4 hc
  have q5 : x / 64 = md := hmd
  clear hn hmd hxe
  have c0 := cells_of (heap_alloc_keep (.cells #[.int .i64 0, .int .i64 0, .int .i64 0, .int .i64 0, .int .u32 0, .int .i64 0, .int .i64 0, .int .u32 0, .int .i64 0, .int .i64 0, .int .u32 0, .int .i64 0, .int .i64 0, .int .u32 0, .bool false, .int .i64 0] 28) hD.h)
  have hix := fun w : World => shifts_index hn8.1 hn8.2 w
  have q7 : (shiftsI n == 0) = false := by simpa using hc
  have H1 := Lib.hid (RiS.start hD)
  clear hD hl hx hls hL hc
  go_enter Try.func175, Try.ntmps175
  go_wp2_with fail
  clear c0
  have HQ := Lib.hid q5
  refine wp_draw 18 (RiS w d (.slice (some ⟨g, ao, none⟩) L.length sc) L g ⟨k, sh, false⟩ w.heap.size Ins.zero.cells) (fun _ _ => False) (by kernel_rfl) (by kernel_rfl) (H1.out.step (Upd.refl [] _).drew) (fun _ _ _ h => h.elim) ?_
  simp only [List.take_succ_cons, List.take_zero, List.drop_succ_cons, List.drop_zero]
  iterate 18
    apply headW_val rfl rfl
    · intro K hK w1 hB1
      obtain ⟨c0, c1, c2, c3⟩ := hB1.h.cells
      have cb := HC.out _ hB1.h.b
      have HB := Lib.hid hB1
      clear hB1
      go_wp2_with fail
      first
      | exact hK _ HB.out
      | exact HB.out
    · exact ⟨_, rfl⟩
  refine headW_nil (fun _ w2 hB2 => ?_)
  obtain ⟨c0, c1, c2, c3⟩ := hB2.h.cells
  have f2 := free_of hB2.h.h
  have H2 := Lib.hid hB2
  clear hB2 H1
  go_wp2_with (first | (go_at_call 142; refine (rshifts_any _).mono ?_; rintro e w3 ⟨rfl, hu⟩; have H3 := Lib.hid (H2.out.step hu); obtain ⟨c0, c1, c2, c3⟩ := H3.out.h.cells; have f3 := free_of H3.out.h.h; clear hu H2 f2) | (have _t := H3; clear _t; refine at_store 28 rfl ?_; refine wpList_store_ins Ins.zero (w.heap.size) rfl _ _ rfl rfl rfl (H3.out).r (H3.out).z ?_; intro w4 hw; have H4 := Lib.hid ((H3.out).store hw); clear hw H3))
  exact bodyPost_ret (results_two' rfl (res_ins 4 (w.heap.size) _ rfl H4.out.r) (res_tmp 5 rfl)) rfl ⟨rfl, H4.out.h, H4.out.u⟩

set_option maxRecDepth 100000 in
set_option maxHeartbeats 2000000 in
theorem rearly_211_y (d g : Nat) (s : Rd) (v : Value) (L : List Int) (w : World) (hD : IsRd w d v L g s) (k : Nat) (sh : Bool) (hs : s = ⟨k, sh, false⟩) (hl : 1 < L.length) (hc : shiftsI (L.getD 1 0 / 8 % 8) = 0) :
    Calls Try.prog 175 #[.pointer (some ⟨d, 0, none⟩), .int .u8 211] w (RAns d v L g w ⟨Ins.zero, true, ⟨k, false, false⟩⟩) := by
  subst hs
  obtain ⟨ao, sc, rfl, hsc⟩ : ∃ ao c, v = .slice (some ⟨g, ao, none⟩) L.length c ∧ L.length ≤ c := by
    rcases hD.b with ⟨_, h1⟩ | ⟨ao, c, _, _, _, h1, _⟩
    · rw [h1] at hl; simp at hl
    · exact ⟨ao, c, h1, hD.c _ _ _ h1⟩
  have hL := hD.r
  have hx := hL 1
  have hls := hD.n
  unfold maxLen at hls
  have q1 : decide ((L.length : Int) < 2) = false := by simp; omega
  have q2 : decide (L.length < 2) = false := by simp; omega
  have q3 : 1 < L.length := hl
  have HC := Lib.hid (fun (W : World) (hb : BySl W (.slice (some ⟨g, ao, none⟩) L.length sc) L g) => bysl_cell W hl hb)
  obtain ⟨x, hxe⟩ : ∃ x, L.getD 1 0 = x := ⟨_, rfl⟩
  rw [hxe] at hx HC
  rw [hxe] at hc
  have q4 := mrm_bits8 x hx
  obtain ⟨n, hn⟩ : ∃ n, x / 8 % 8 = n := ⟨_, rfl⟩
  obtain ⟨md, hmd⟩ : ∃ md, x / 64 = md := ⟨_, rfl⟩
  have hn8 : 0 ≤ n ∧ n < 8 := by omega
  rw [hn] at q4 hc
  have q5 : x / 64 = md := hmd
  clear hn hmd hxe
  have c0 := cells_of (heap_alloc_keep (.cells #[.int .i64 0, .int .i64 0, .int .i64 0, .int .i64 0, .int .u32 0, .int .i64 0, .int .i64 0, .int .u32 0, .int .i64 0, .int .i64 0, .int .u32 0, .int .i64 0, .int .i64 0, .int .u32 0, .bool false, .int .i64 0] 28) hD.h)
  have hix := fun w : World => shifts_index hn8.1 hn8.2 w
  rw [hc] at hix
  have H1 := Lib.hid (RiS.start hD)
  clear hD hl hx hls hL hc
  go_enter Try.func175, Try.ntmps175
  go_wp2_with fail
  clear c0
  have HQ := Lib.hid q5
  refine wp_draw 18 (RiS w d (.slice (some ⟨g, ao, none⟩) L.length sc) L g ⟨k, sh, false⟩ w.heap.size Ins.zero.cells) (fun _ _ => False) (by kernel_rfl) (by kernel_rfl) (H1.out.step (Upd.refl [] _).drew) (fun _ _ _ h => h.elim) ?_
  simp only [List.take_succ_cons, List.take_zero, List.drop_succ_cons, List.drop_zero]
  iterate 18
    apply headW_val rfl rfl
    · intro K hK w1 hB1
      obtain ⟨c0, c1, c2, c3⟩ := hB1.h.cells
      have cb := HC.out _ hB1.h.b
      have HB := Lib.hid hB1
      clear hB1
      go_wp2_with fail
      first
      | exact hK _ HB.out
      | exact HB.out
    · exact ⟨_, rfl⟩
  refine headW_nil (fun _ w2 hB2 => ?_)
  obtain ⟨c0, c1, c2, c3⟩ := hB2.h.cells
  have f2 := free_of hB2.h.h
  have H2 := Lib.hid hB2
  clear hB2 H1
  go_wp2_with (first | (go_at_call 142; refine (rshifts_any _).mono ?_; rintro e w3 ⟨rfl, hu⟩; have H3 := Lib.hid (H2.out.step hu); obtain ⟨c0, c1, c2, c3⟩ := H3.out.h.cells; have f3 := free_of H3.out.h.h; clear hu H2 f2) | (have _t := H3; clear _t; refine at_store 28 rfl ?_; refine wpList_store_ins Ins.zero (w.heap.size) rfl _ _ rfl rfl rfl (((H3.out).setS false)).r (((H3.out).setS false)).z ?_; intro w4 hw; have H4 := Lib.hid ((((H3.out).setS false)).store hw); clear hw H3))
  exact bodyPost_ret (results_two' rfl (res_ins 4 (w.heap.size) _ rfl H4.out.r) (res_tmp 5 rfl)) rfl ⟨rfl, H4.out.h, H4.out.u⟩

set_option maxRecDepth 100000 in
set_option maxHeartbeats 2000000 in
theorem rearly_211_n (d g : Nat) (s : Rd) (v : Value) (L : List Int) (w : World) (hD : IsRd w d v L g s) (k : Nat) (sh : Bool) (hs : s = ⟨k, sh, false⟩) (hl : 1 < L.length) (hc : shiftsI (L.getD 1 0 / 8 % 8) ≠ 0) :
    Calls Try.prog 175 #[.pointer (some ⟨d, 0, none⟩), .int .u8 211] w (RAns d v L g w ⟨Ins.zero, false, ⟨k, sh, false⟩⟩) := by
  subst hs
  obtain ⟨ao, sc, rfl, hsc⟩ : ∃ ao c, v = .slice (some ⟨g, ao, none⟩) L.length c ∧ L.length ≤ c := by
    rcases hD.b with ⟨_, h1⟩ | ⟨ao, c, _, _, _, h1, _⟩
    · rw [h1] at hl; simp at hl
    · exact ⟨ao, c, h1, hD.c _ _ _ h1⟩
  have hL := hD.r
  have hx := hL 1
  have hls := hD.n
  unfold maxLen at hls
  have q1 : decide ((L.length : Int) < 2) = false := by simp; omega
  have q2 : decide (L.length < 2) = false := by simp; omega
  have q3 : 1 < L.length := hl
  have HC := Lib.hid (fun (W : World) (hb : BySl W (.slice (some ⟨g, ao, none⟩) L.length sc) L g) => bysl_cell W hl hb)
  obtain ⟨x, hxe⟩ : ∃ x, L.getD 1 0 = x := ⟨_, rfl⟩
  rw [hxe] at hx HC
  rw [hxe] at hc
  have q4 := mrm_bits8 x hx
  obtain ⟨n, hn⟩ : ∃ n, x / 8 % 8 = n := ⟨_, rfl⟩
  obtain ⟨md, hmd⟩ : ∃ md, x / 64 = md := ⟨_, rfl⟩
  have hn8 : 0 ≤ n ∧ n < 8 := by omega
  rw [hn] at q4 hc
  have q5 : x / 64 = md := hmd
  clear hn hmd hxe
  have c0 := cells_of (heap_alloc_keep (.cells #[.int .i64 0, .int .i64 0, .int .i64 0, .int .i64 0, .int .u32 0, .int .i64 0, .int .i64 0, .int .u32 0, .int .i64 0, .int .i64 0, .int .u32 0, .int .i64 0, .int .i64 0, .int .u32 0, .bool false, .int .i64 0] 28) hD.h)
  have hix := fun w : World => shifts_index hn8.1 hn8.2 w
  have q7 : (shiftsI n == 0) = false := by simpa using hc
  have H1 := Lib.hid (RiS.start hD)
  clear hD hl hx hls hL hc
  go_enter Try.func175, Try.ntmps175
  go_wp2_with fail
  clear c0
  have HQ := Lib.hid q5
  refine wp_draw 18 (RiS w d (.slice (some ⟨g, ao, none⟩) L.length sc) L g ⟨k, sh, false⟩ w.heap.size Ins.zero.cells) (fun _ _ => False) (by kernel_rfl) (by kernel_rfl) (H1.out.step (Upd.refl [] _).drew) (fun _ _ _ h => h.elim) ?_
  simp only [List.take_succ_cons, List.take_zero, List.drop_succ_cons, List.drop_zero]
  iterate 18
    apply headW_val rfl rfl
    · intro K hK w1 hB1
      obtain ⟨c0, c1, c2, c3⟩ := hB1.h.cells
      have cb := HC.out _ hB1.h.b
      have HB := Lib.hid hB1
      clear hB1
      go_wp2_with fail
      first
      | exact hK _ HB.out
      | exact HB.out
    · exact ⟨_, rfl⟩
  refine headW_nil (fun _ w2 hB2 => ?_)
  obtain ⟨c0, c1, c2, c3⟩ := hB2.h.cells
  have f2 := free_of hB2.h.h
  have H2 := Lib.hid hB2
  clear hB2 H1
  go_wp2_with (first | (go_at_call 142; refine (rshifts_any _).mono ?_; rintro e w3 ⟨rfl, hu⟩; have H3 := Lib.hid (H2.out.step hu); obtain ⟨c0, c1, c2, c3⟩ := H3.out.h.cells; have f3 := free_of H3.out.h.h; clear hu H2 f2) | (have _t := H3; clear _t; refine at_store 28 rfl ?_; refine wpList_store_ins Ins.zero (w.heap.size) rfl _ _ rfl rfl rfl (H3.out).r (H3.out).z ?_; intro w4 hw; have H4 := Lib.hid ((H3.out).store hw); clear hw H3))
  exact bodyPost_ret (results_two' rfl (res_ins 4 (w.heap.size) _ rfl H4.out.r) (res_tmp 5 rfl)) rfl ⟨rfl, H4.out.h, H4.out.u⟩

set_option maxRecDepth 100000 in
set_option maxHeartbeats 2000000 in
theorem rearly_217 (d g : Nat) (s : Rd) (v : Value) (L : List Int) (w : World) (hD : IsRd w d v L g s) (k : Nat) (sh : Bool) (hs : s = ⟨k, sh, false⟩) (hl : 1 < L.length)  :
    Calls Try.prog 175 #[.pointer (some ⟨d, 0, none⟩), .int .u8 217] w (RAns d v L g w ⟨Ins.zero, true, ⟨k, false, false⟩⟩) := by
  subst hs
  obtain ⟨ao, sc, rfl, hsc⟩ : ∃ ao c, v = .slice (some ⟨g, ao, none⟩) L.length c ∧ L.length ≤ c := by
    rcases hD.b with ⟨_, h1⟩ | ⟨ao, c, _, _, _, h1, _⟩
    · rw [h1] at hl; simp at hl
    · exact ⟨ao, c, h1, hD.c _ _ _ h1⟩
  have hL := hD.r
  have hx := hL 1
  have hls := hD.n
  unfold maxLen at hls
  have q1 : decide ((L.length : Int) < 2) = false := by simp; omega
  have q2 : decide (L.length < 2) = false := by simp; omega
  have q3 : 1 < L.length := hl
  have HC := Lib.hid (fun (W : World) (hb : BySl W (.slice (some ⟨g, ao, none⟩) L.length sc) L g) => bysl_cell W hl hb)
  obtain ⟨x, hxe⟩ : ∃ x, L.getD 1 0 = x := ⟨_, rfl⟩
  rw [hxe] at hx HC
  have q4 := mrm_bits8 x hx
  obtain ⟨n, hn⟩ : ∃ n, x / 8 % 8 = n := ⟨_, rfl⟩
  obtain ⟨md, hmd⟩ : ∃ md, x / 64 = md := ⟨_, rfl⟩
  have hn8 : 0 ≤ n ∧ n < 8 := by omega
  rw [hn] at q4
  have q5 : x / 64 = md := hmd
  clear hn hmd hxe
  have c0 := cells_of (heap_alloc_keep (.cells #[.int .i64 0, .int .i64 0, .int .i64 0, .int .i64 0, .int .u32 0, .int .i64 0, .int .i64 0, .int .u32 0, .int .i64 0, .int .i64 0, .int .u32 0, .int .i64 0, .int .i64 0, .int .u32 0, .bool false, .int .i64 0] 28) hD.h)
  have H1 := Lib.hid (RiS.start hD)
  clear hD hl hx hls hL
  go_enter Try.func175, Try.ntmps175
  go_wp2_with fail
  clear c0
  have HQ := Lib.hid q5
  refine wp_draw 18 (RiS w d (.slice (some ⟨g, ao, none⟩) L.length sc) L g ⟨k, sh, false⟩ w.heap.size Ins.zero.cells) (fun _ _ => False) (by kernel_rfl) (by kernel_rfl) (H1.out.step (Upd.refl [] _).drew) (fun _ _ _ h => h.elim) ?_
  simp only [List.take_succ_cons, List.take_zero, List.drop_succ_cons, List.drop_zero]
  iterate 18
    apply headW_val rfl rfl
    · intro K hK w1 hB1
      obtain ⟨c0, c1, c2, c3⟩ := hB1.h.cells
      have cb := HC.out _ hB1.h.b
      have HB := Lib.hid hB1
      clear hB1
      go_wp2_with fail
      first
      | exact hK _ HB.out
      | exact HB.out
    · exact ⟨_, rfl⟩
  refine headW_nil (fun _ w2 hB2 => ?_)
  obtain ⟨c0, c1, c2, c3⟩ := hB2.h.cells
  have f2 := free_of hB2.h.h
  have H2 := Lib.hid hB2
  clear hB2 H1
  go_wp2_with (have _t := H2; clear _t; refine at_store 28 rfl ?_; refine wpList_store_ins Ins.zero (w.heap.size) rfl _ _ rfl rfl rfl (((H2.out).setS false)).r (((H2.out).setS false)).z ?_; intro w3 hw; have H3 := Lib.hid ((((H2.out).setS false)).store hw); clear hw H2)
  exact bodyPost_ret (results_two' rfl (res_ins 4 (w.heap.size) _ rfl H3.out.r) (res_tmp 5 rfl)) rfl ⟨rfl, H3.out.h, H3.out.u⟩

set_option maxRecDepth 100000 in
set_option maxHeartbeats 2000000 in
theorem rearly_220_y (d g : Nat) (s : Rd) (v : Value) (L : List Int) (w : World) (hD : IsRd w d v L g s) (k : Nat) (sh : Bool) (hs : s = ⟨k, sh, false⟩) (hl : 1 < L.length) (hc : numbersI (L.getD 1 0 / 8 % 8) = 0) :
    Calls Try.prog 175 #[.pointer (some ⟨d, 0, none⟩), .int .u8 220] w (RAns d v L g w ⟨Ins.zero, true, ⟨k, false, false⟩⟩) := by
  subst hs
  obtain ⟨ao, sc, rfl, hsc⟩ : ∃ ao c, v = .slice (some ⟨g, ao, none⟩) L.length c ∧ L.length ≤ c := by
    rcases hD.b with ⟨_, h1⟩ | ⟨ao, c, _, _, _, h1, _⟩
    · rw [h1] at hl; simp at hl
    · exact ⟨ao, c, h1, hD.c _ _ _ h1⟩
  have hL := hD.r
  have hx := hL 1
  have hls := hD.n
  unfold maxLen at hls
  have q1 : decide ((L.length : Int) < 2) = false := by simp; omega
  have q2 : decide (L.length < 2) = false := by simp; omega
  have q3 : 1 < L.length := hl
  have HC := Lib.hid (fun (W : World) (hb : BySl W (.slice (some ⟨g, ao, none⟩) L.length sc) L g) => bysl_cell W hl hb)
  obtain ⟨x, hxe⟩ : ∃ x, L.getD 1 0 = x := ⟨_, rfl⟩
  rw [hxe] at hx HC
  rw [hxe] at hc
  have q4 := mrm_bits8 x hx
  obtain ⟨n, hn⟩ : ∃ n, x / 8 % 8 = n := ⟨_, rfl⟩
  obtain ⟨md, hmd⟩ : ∃ md, x / 64 = md := ⟨_, rfl⟩
  have hn8 : 0 ≤ n ∧ n < 8 := by omega
  rw [hn] at q4 hc
  have q5 : x / 64 = md := hmd
  clear hn hmd hxe
  have c0 := cells_of (heap_alloc_keep (.cells #[.int .i64 0, .int .i64 0, .int .i64 0, .int .i64 0, .int .u32 0, .int .i64 0, .int .i64 0, .int .u32 0, .int .i64 0, .int .i64 0, .int .u32 0, .int .i64 0, .int .i64 0, .int .u32 0, .bool false, .int .i64 0] 28) hD.h)
  have hix := fun w : World => numbers_index hn8.1 hn8.2 w
  rw [hc] at hix
  have H1 := Lib.hid (RiS.start hD)
  clear hD hl hx hls hL hc
  go_enter Try.func175, Try.ntmps175
  go_wp2_with fail
  clear c0
  have HQ := Lib.hid q5
  refine wp_draw 18 (RiS w d (.slice (some ⟨g, ao, none⟩) L.length sc) L g ⟨k, sh, false⟩ w.heap.size Ins.zero.cells) (fun _ _ => False) (by kernel_rfl) (by kernel_rfl) (H1.out.step (Upd.refl [] _).drew) (fun _ _ _ h => h.elim) ?_
  simp only [List.take_succ_cons, List.take_zero, List.drop_succ_cons, List.drop_zero]
  iterate 18
    apply headW_val rfl rfl
    · intro K hK w1 hB1
      obtain ⟨c0, c1, c2, c3⟩ := hB1.h.cells
      have cb := HC.out _ hB1.h.b
      have HB := Lib.hid hB1
      clear hB1
      go_wp2_with fail
      first
      | exact hK _ HB.out
      | exact HB.out
    · exact ⟨_, rfl⟩
  refine headW_nil (fun _ w2 hB2 => ?_)
  obtain ⟨c0, c1, c2, c3⟩ := hB2.h.cells
  have f2 := free_of hB2.h.h
  have H2 := Lib.hid hB2
  clear hB2 H1
  go_wp2_with (first | (go_at_call 143; refine (rnumbers_any _).mono ?_; rintro e w3 ⟨rfl, hu⟩; have H3 := Lib.hid (H2.out.step hu); obtain ⟨c0, c1, c2, c3⟩ := H3.out.h.cells; have f3 := free_of H3.out.h.h; clear hu H2 f2) | (have _t := H3; clear _t; refine at_store 28 rfl ?_; refine wpList_store_ins Ins.zero (w.heap.size) rfl _ _ rfl rfl rfl (((H3.out).setS false)).r (((H3.out).setS false)).z ?_; intro w4 hw; have H4 := Lib.hid ((((H3.out).setS false)).store hw); clear hw H3))
  exact bodyPost_ret (results_two' rfl (res_ins 4 (w.heap.size) _ rfl H4.out.r) (res_tmp 5 rfl)) rfl ⟨rfl, H4.out.h, H4.out.u⟩

set_option maxRecDepth 100000 in
set_option maxHeartbeats 2000000 in
theorem rearly_220_m (d g : Nat) (s : Rd) (v : Value) (L : List Int) (w : World) (hD : IsRd w d v L g s) (k : Nat) (sh : Bool) (hs : s = ⟨k, sh, false⟩) (hl : 1 < L.length) (hc : numbersI (L.getD 1 0 / 8 % 8) ≠ 0 ∧ L.getD 1 0 / 64 = 3) :
    Calls Try.prog 175 #[.pointer (some ⟨d, 0, none⟩), .int .u8 220] w (RAns d v L g w ⟨Ins.zero, true, ⟨k, false, false⟩⟩) := by
  subst hs
  obtain ⟨ao, sc, rfl, hsc⟩ : ∃ ao c, v = .slice (some ⟨g, ao, none⟩) L.length c ∧ L.length ≤ c := by
    rcases hD.b with ⟨_, h1⟩ | ⟨ao, c, _, _, _, h1, _⟩
    · rw [h1] at hl; simp at hl
    · exact ⟨ao, c, h1, hD.c _ _ _ h1⟩
  have hL := hD.r
  have hx := hL 1
  have hls := hD.n
  unfold maxLen at hls
  have q1 : decide ((L.length : Int) < 2) = false := by simp; omega
  have q2 : decide (L.length < 2) = false := by simp; omega
  have q3 : 1 < L.length := hl
  have HC := Lib.hid (fun (W : World) (hb : BySl W (.slice (some ⟨g, ao, none⟩) L.length sc) L g) => bysl_cell W hl hb)
  obtain ⟨x, hxe⟩ : ∃ x, L.getD 1 0 = x := ⟨_, rfl⟩
  rw [hxe] at hx HC
  rw [hxe] at hc
  have q4 := mrm_bits8 x hx
  obtain ⟨n, hn⟩ : ∃ n, x / 8 % 8 = n := ⟨_, rfl⟩
  obtain ⟨md, hmd⟩ : ∃ md, x / 64 = md := ⟨_, rfl⟩
  have hn8 : 0 ≤ n ∧ n < 8 := by omega
  rw [hn] at q4 hc
  rw [hmd] at hc
  have q5 : x / 64 = md := hmd
  clear hn hmd hxe
  have c0 := cells_of (heap_alloc_keep (.cells #[.int .i64 0, .int .i64 0, .int .i64 0, .int .i64 0, .int .u32 0, .int .i64 0, .int .i64 0, .int .u32 0, .int .i64 0, .int .i64 0, .int .u32 0, .int .i64 0, .int .i64 0, .int .u32 0, .bool false, .int .i64 0] 28) hD.h)
  have hix := fun w : World => numbers_index hn8.1 hn8.2 w
  have q7 : (numbersI n == 0) = false := by simpa using hc.1
  obtain rfl : md = 3 := hc.2
  have H1 := Lib.hid (RiS.start hD)
  clear hD hl hx hls hL hc
  go_enter Try.func175, Try.ntmps175
  go_wp2_with fail
  clear c0
  have HQ := Lib.hid q5
  refine wp_draw 18 (RiS w d (.slice (some ⟨g, ao, none⟩) L.length sc) L g ⟨k, sh, false⟩ w.heap.size Ins.zero.cells) (fun _ _ => False) (by kernel_rfl) (by kernel_rfl) (H1.out.step (Upd.refl [] _).drew) (fun _ _ _ h => h.elim) ?_
  simp only [List.take_succ_cons, List.take_zero, List.drop_succ_cons, List.drop_zero]
  iterate 18
    apply headW_val rfl rfl
    · intro K hK w1 hB1
      obtain ⟨c0, c1, c2, c3⟩ := hB1.h.cells
      have cb := HC.out _ hB1.h.b
      have HB := Lib.hid hB1
      clear hB1
      go_wp2_with fail
      first
      | exact hK _ HB.out
      | exact HB.out
    · exact ⟨_, rfl⟩
  refine headW_nil (fun _ w2 hB2 => ?_)
  obtain ⟨c0, c1, c2, c3⟩ := hB2.h.cells
  have f2 := free_of hB2.h.h
  have H2 := Lib.hid hB2
  clear hB2 H1
  go_wp2_with (first | (go_at_call 143; refine (rnumbers_any _).mono ?_; rintro e w3 ⟨rfl, hu⟩; have H3 := Lib.hid (H2.out.step hu); obtain ⟨c0, c1, c2, c3⟩ := H3.out.h.cells; have f3 := free_of H3.out.h.h; clear hu H2 f2) | (have _t := H3; clear _t; refine at_store 28 rfl ?_; refine wpList_store_ins Ins.zero (w.heap.size) rfl _ _ rfl rfl rfl (((H3.out).setS false)).r (((H3.out).setS false)).z ?_; intro w4 hw; have H4 := Lib.hid ((((H3.out).setS false)).store hw); clear hw H3))
  exact bodyPost_ret (results_two' rfl (res_ins 4 (w.heap.size) _ rfl H4.out.r) (res_tmp 5 rfl)) rfl ⟨rfl, H4.out.h, H4.out.u⟩

set_option maxRecDepth 100000 in
set_option maxHeartbeats 2000000 in
theorem rearly_220_n (d g : Nat) (s : Rd) (v : Value) (L : List Int) (w : World) (hD : IsRd w d v L g s) (k : Nat) (sh : Bool) (hs : s = ⟨k, sh, false⟩) (hl : 1 < L.length) (hc : numbersI (L.getD 1 0 / 8 % 8) ≠ 0 ∧ L.getD 1 0 / 64 ≠ 3) :
    Calls Try.prog 175 #[.pointer (some ⟨d, 0, none⟩), .int .u8 220] w (RAns d v L g w ⟨Ins.zero, false, ⟨k, sh, false⟩⟩) := by
  subst hs
  obtain ⟨ao, sc, rfl, hsc⟩ : ∃ ao c, v = .slice (some ⟨g, ao, none⟩) L.length c ∧ L.length ≤ c := by
    rcases hD.b with ⟨_, h1⟩ | ⟨ao, c, _, _, _, h1, _⟩
    · rw [h1] at hl; simp at hl
    · exact ⟨ao, c, h1, hD.c _ _ _ h1⟩
  have hL := hD.r
  have hx := hL 1
  have hls := hD.n
  unfold maxLen at hls
  have q1 : decide ((L.length : Int) < 2) = false := by simp; omega
  have q2 : decide (L.length < 2) = false := by simp; omega
  have q3 : 1 < L.length := hl
  have HC := Lib.hid (fun (W : World) (hb : BySl W (.slice (some ⟨g, ao, none⟩) L.length sc) L g) => bysl_cell W hl hb)
  obtain ⟨x, hxe⟩ : ∃ x, L.getD 1 0 = x := ⟨_, rfl⟩
  rw [hxe] at hx HC
  rw [hxe] at hc
  have q4 := mrm_bits8 x hx
  obtain ⟨n, hn⟩ : ∃ n, x / 8 % 8 = n := ⟨_, rfl⟩
  obtain ⟨md, hmd⟩ : ∃ md, x / 64 = md := ⟨_, rfl⟩
  have hn8 : 0 ≤ n ∧ n < 8 := by omega
  rw [hn] at q4 hc
  rw [hmd] at hc
  have q5 : x / 64 = md := hmd
  clear hn hmd hxe
  have c0 := cells_of (heap_alloc_keep (.cells #[.int .i64 0, .int .i64 0, .int .i64 0, .int .i64 0, .int .u32 0, .int .i64 0, .int .i64 0, .int .u32 0, .int .i64 0, .int .i64 0, .int .u32 0, .int .i64 0, .int .i64 0, .int .u32 0, .bool false, .int .i64 0] 28) hD.h)
  have hix := fun w : World => numbers_index hn8.1 hn8.2 w
  have q7 : (numbersI n == 0) = false := by simpa using hc.1
  have q8 : (md == 3) = false := by simpa using hc.2
  have H1 := Lib.hid (RiS.start hD)
  clear hD hl hx hls hL hc
  go_enter Try.func175, Try.ntmps175
  go_wp2_with fail
  clear c0
  have HQ := Lib.hid q5
  refine wp_draw 18 (RiS w d (.slice (some ⟨g, ao, none⟩) L.length sc) L g ⟨k, sh, false⟩ w.heap.size Ins.zero.cells) (fun _ _ => False) (by kernel_rfl) (by kernel_rfl) (H1.out.step (Upd.refl [] _).drew) (fun _ _ _ h => h.elim) ?_
  simp only [List.take_succ_cons, List.take_zero, List.drop_succ_cons, List.drop_zero]
  iterate 18
    apply headW_val rfl rfl
    · intro K hK w1 hB1
      obtain ⟨c0, c1, c2, c3⟩ := hB1.h.cells
      have cb := HC.out _ hB1.h.b
      have HB := Lib.hid hB1
      clear hB1
      go_wp2_with fail
      first
      | exact hK _ HB.out
      | exact HB.out
    · exact ⟨_, rfl⟩
  refine headW_nil (fun _ w2 hB2 => ?_)
  obtain ⟨c0, c1, c2, c3⟩ := hB2.h.cells
  have f2 := free_of hB2.h.h
  have H2 := Lib.hid hB2
  clear hB2 H1
  go_wp2_with (first | (go_at_call 143; refine (rnumbers_any _).mono ?_; rintro e w3 ⟨rfl, hu⟩; have H3 := Lib.hid (H2.out.step hu); obtain ⟨c0, c1, c2, c3⟩ := H3.out.h.cells; have f3 := free_of H3.out.h.h; clear hu H2 f2) | (have _t := H3; clear _t; refine at_store 28 rfl ?_; refine wpList_store_ins Ins.zero (w.heap.size) rfl _ _ rfl rfl rfl (H3.out).r (H3.out).z ?_; intro w4 hw; have H4 := Lib.hid ((H3.out).store hw); clear hw H3))
  exact bodyPost_ret (results_two' rfl (res_ins 4 (w.heap.size) _ rfl H4.out.r) (res_tmp 5 rfl)) rfl ⟨rfl, H4.out.h, H4.out.u⟩

set_option maxRecDepth 100000 in
set_option maxHeartbeats 2000000 in
theorem rearly_221_0 (d g : Nat) (s : Rd) (v : Value) (L : List Int) (w : World) (hD : IsRd w d v L g s) (k : Nat) (sh : Bool) (hs : s = ⟨k, sh, false⟩) (hl : 1 < L.length) (hc : L.getD 1 0 / 8 % 8 = 0) :
    Calls Try.prog 175 #[.pointer (some ⟨d, 0, none⟩), .int .u8 221] w (RAns d v L g w ⟨Ins.zero, false, ⟨k, sh, false⟩⟩) := by
  subst hs
  obtain ⟨ao, sc, rfl, hsc⟩ : ∃ ao c, v = .slice (some ⟨g, ao, none⟩) L.length c ∧ L.length ≤ c := by
    rcases hD.b with ⟨_, h1⟩ | ⟨ao, c, _, _, _, h1, _⟩
    · rw [h1] at hl; simp at hl
    · exact ⟨ao, c, h1, hD.c _ _ _ h1⟩
  have hL := hD.r
  have hx := hL 1
  have hls := hD.n
  unfold maxLen at hls
  have q1 : decide ((L.length : Int) < 2) = false := by simp; omega
  have q2 : decide (L.length < 2) = false := by simp; omega
  have q3 : 1 < L.length := hl
  have HC := Lib.hid (fun (W : World) (hb : BySl W (.slice (some ⟨g, ao, none⟩) L.length sc) L g) => bysl_cell W hl hb)
  obtain ⟨x, hxe⟩ : ∃ x, L.getD 1 0 = x := ⟨_, rfl⟩
  rw [hxe] at hx HC
  rw [hxe] at hc
  have q4 := mrm_bits8 x hx
  obtain ⟨n, hn⟩ : ∃ n, x / 8 % 8 = n := ⟨_, rfl⟩
  obtain ⟨md, hmd⟩ : ∃ md, x / 64 = md := ⟨_, rfl⟩
  have hn8 : 0 ≤ n ∧ n < 8 := by omega
  rw [hn] at q4 hc
  have q5 : x / 64 = md := hmd
  clear hn hmd hxe
  have c0 := cells_of (heap_alloc_keep (.cells #[.int .i64 0, .int .i64 0, .int .i64 0, .int .i64 0, .int .u32 0, .int .i64 0, .int .i64 0, .int .u32 0, .int .i64 0, .int .i64 0, .int .u32 0, .int .i64 0, .int .i64 0, .int .u32 0, .bool false, .int .i64 0] 28) hD.h)
  obtain rfl : n = 0 := hc
  have H1 := Lib.hid (RiS.start hD)
  clear hD hl hx hls hL
  go_enter Try.func175, Try.ntmps175
  go_wp2_with fail
  clear c0
  have HQ := Lib.hid q5
  refine wp_draw 18 (RiS w d (.slice (some ⟨g, ao, none⟩) L.length sc) L g ⟨k, sh, false⟩ w.heap.size Ins.zero.cells) (fun _ _ => False) (by kernel_rfl) (by kernel_rfl) (H1.out.step (Upd.refl [] _).drew) (fun _ _ _ h => h.elim) ?_
  simp only [List.take_succ_cons, List.take_zero, List.drop_succ_cons, List.drop_zero]
  iterate 18
    apply headW_val rfl rfl
    · intro K hK w1 hB1
      obtain ⟨c0, c1, c2, c3⟩ := hB1.h.cells
      have cb := HC.out _ hB1.h.b
      have HB := Lib.hid hB1
      clear hB1
      go_wp2_with fail
      first
      | exact hK _ HB.out
      | exact HB.out
    · exact ⟨_, rfl⟩
  refine headW_nil (fun _ w2 hB2 => ?_)
  obtain ⟨c0, c1, c2, c3⟩ := hB2.h.cells
  have f2 := free_of hB2.h.h
  have H2 := Lib.hid hB2
  clear hB2 H1
  go_wp2_with (have _t := H2; clear _t; refine at_store 28 rfl ?_; refine wpList_store_ins Ins.zero (w.heap.size) rfl _ _ rfl rfl rfl (H2.out).r (H2.out).z ?_; intro w3 hw; have H3 := Lib.hid ((H2.out).store hw); clear hw H2)
  exact bodyPost_ret (results_two' rfl (res_ins 4 (w.heap.size) _ rfl H3.out.r) (res_tmp 5 rfl)) rfl ⟨rfl, H3.out.h, H3.out.u⟩

set_option maxRecDepth 100000 in
set_option maxHeartbeats 2000000 in
theorem rearly_221_3 (d g : Nat) (s : Rd) (v : Value) (L : List Int) (w : World) (hD : IsRd w d v L g s) (k : Nat) (sh : Bool) (hs : s = ⟨k, sh, false⟩) (hl : 1 < L.length) (hc : L.getD 1 0 / 8 % 8 = 3) :
    Calls Try.prog 175 #[.pointer (some ⟨d, 0, none⟩), .int .u8 221] w (RAns d v L g w ⟨Ins.zero, false, ⟨k, sh, false⟩⟩) := by
  subst hs
  obtain ⟨ao, sc, rfl, hsc⟩ : ∃ ao c, v = .slice (some ⟨g, ao, none⟩) L.length c ∧ L.length ≤ c := by
    rcases hD.b with ⟨_, h1⟩ | ⟨ao, c, _, _, _, h1, _⟩
    · rw [h1] at hl; simp at hl
    · exact ⟨ao, c, h1, hD.c _ _ _ h1⟩
  have hL := hD.r
  have hx := hL 1
  have hls := hD.n
  unfold maxLen at hls
  have q1 : decide ((L.length : Int) < 2) = false := by simp; omega
  have q2 : decide (L.length < 2) = false := by simp; omega
  have q3 : 1 < L.length := hl
  have HC := Lib.hid (fun (W : World) (hb : BySl W (.slice (some ⟨g, ao, none⟩) L.length sc) L g) => bysl_cell W hl hb)
  obtain ⟨x, hxe⟩ : ∃ x, L.getD 1 0 = x := ⟨_, rfl⟩
  rw [hxe] at hx HC
  rw [hxe] at hc
  have q4 := mrm_bits8 x hx
  obtain ⟨n, hn⟩ : ∃ n, x / 8 % 8 = n := ⟨_, rfl⟩
  obtain ⟨md, hmd⟩ : ∃ md, x / 64 = md := ⟨_, rfl⟩
  have hn8 : 0 ≤ n ∧ n < 8 := by omega
  rw [hn] at q4 hc
  have q5 : x / 64 = md := hmd
  clear hn hmd hxe
  have c0 := cells_of (heap_alloc_keep (.cells #[.int .i64 0, .int .i64 0, .int .i64 0, .int .i64 0, .int .u32 0, .int .i64 0, .int .i64 0, .int .u32 0, .int .i64 0, .int .i64 0, .int .u32 0, .int .i64 0, .int .i64 0, .int .u32 0, .bool false, .int .i64 0] 28) hD.h)
  obtain rfl : n = 3 := hc
  have H1 := Lib.hid (RiS.start hD)
  clear hD hl hx hls hL
  go_enter Try.func175, Try.ntmps175
  go_wp2_with fail
  clear c0
  have HQ := Lib.hid q5
  refine wp_draw 18 (RiS w d (.slice (some ⟨g, ao, none⟩) L.length sc) L g ⟨k, sh, false⟩ w.heap.size Ins.zero.cells) (fun _ _ => False) (by kernel_rfl) (by kernel_rfl) (H1.out.step (Upd.refl [] _).drew) (fun _ _ _ h => h.elim) ?_
  simp only [List.take_succ_cons, List.take_zero, List.drop_succ_cons, List.drop_zero]
  iterate 18
    apply headW_val rfl rfl
    · intro K hK w1 hB1
      obtain ⟨c0, c1, c2, c3⟩ := hB1.h.cells
      have cb := HC.out _ hB1.h.b
      have HB := Lib.hid hB1
      clear hB1
      go_wp2_with fail
      first
      | exact hK _ HB.out
      | exact HB.out
    · exact ⟨_, rfl⟩
  refine headW_nil (fun _ w2 hB2 => ?_)
  obtain ⟨c0, c1, c2, c3⟩ := hB2.h.cells
  have f2 := free_of hB2.h.h
  have H2 := Lib.hid hB2
  clear hB2 H1
  go_wp2_with (have _t := H2; clear _t; refine at_store 28 rfl ?_; refine wpList_store_ins Ins.zero (w.heap.size) rfl _ _ rfl rfl rfl (H2.out).r (H2.out).z ?_; intro w3 hw; have H3 := Lib.hid ((H2.out).store hw); clear hw H2)
  exact bodyPost_ret (results_two' rfl (res_ins 4 (w.heap.size) _ rfl H3.out.r) (res_tmp 5 rfl)) rfl ⟨rfl, H3.out.h, H3.out.u⟩

set_option maxRecDepth 100000 in
set_option maxHeartbeats 2000000 in
theorem rearly_221_n (d g : Nat) (s : Rd) (v : Value) (L : List Int) (w : World) (hD : IsRd w d v L g s) (k : Nat) (sh : Bool) (hs : s = ⟨k, sh, false⟩) (hl : 1 < L.length) (hc : L.getD 1 0 / 8 % 8 ≠ 0 ∧ L.getD 1 0 / 8 % 8 ≠ 3) :
    Calls Try.prog 175 #[.pointer (some ⟨d, 0, none⟩), .int .u8 221] w (RAns d v L g w ⟨Ins.zero, true, ⟨k, false, false⟩⟩) := by
  subst hs
  obtain ⟨ao, sc, rfl, hsc⟩ : ∃ ao c, v = .slice (some ⟨g, ao, none⟩) L.length c ∧ L.length ≤ c := by
    rcases hD.b with ⟨_, h1⟩ | ⟨ao, c, _, _, _, h1, _⟩
    · rw [h1] at hl; simp at hl
    · exact ⟨ao, c, h1, hD.c _ _ _ h1⟩
  have hL := hD.r
  have hx := hL 1
  have hls := hD.n
  unfold maxLen at hls
  have q1 : decide ((L.length : Int) < 2) = false := by simp; omega
  have q2 : decide (L.length < 2) = false := by simp; omega
  have q3 : 1 < L.length := hl
  have HC := Lib.hid (fun (W : World) (hb : BySl W (.slice (some ⟨g, ao, none⟩) L.length sc) L g) => bysl_cell W hl hb)
  obtain ⟨x, hxe⟩ : ∃ x, L.getD 1 0 = x := ⟨_, rfl⟩
  rw [hxe] at hx HC
  rw [hxe] at hc
  have q4 := mrm_bits8 x hx
  obtain ⟨n, hn⟩ : ∃ n, x / 8 % 8 = n := ⟨_, rfl⟩
  obtain ⟨md, hmd⟩ : ∃ md, x / 64 = md := ⟨_, rfl⟩
  have hn8 : 0 ≤ n ∧ n < 8 := by omega
  rw [hn] at q4 hc
  have q5 : x / 64 = md := hmd
  clear hn hmd hxe
  have c0 := cells_of (heap_alloc_keep (.cells #[.int .i64 0, .int .i64 0, .int .i64 0, .int .i64 0, .int .u32 0, .int .i64 0, .int .i64 0, .int .u32 0, .int .i64 0, .int .i64 0, .int .u32 0, .int .i64 0, .int .i64 0, .int .u32 0, .bool false, .int .i64 0] 28) hD.h)
  have q7 : (n != 0) = true := by simpa using hc.1
  have q8 : (n != 3) = true := by simpa using hc.2
  have H1 := Lib.hid (RiS.start hD)
  clear hD hl hx hls hL hc
  go_enter Try.func175, Try.ntmps175
  go_wp2_with fail
  clear c0
  have HQ := Lib.hid q5
  refine wp_draw 18 (RiS w d (.slice (some ⟨g, ao, none⟩) L.length sc) L g ⟨k, sh, false⟩ w.heap.size Ins.zero.cells) (fun _ _ => False) (by kernel_rfl) (by kernel_rfl) (H1.out.step (Upd.refl [] _).drew) (fun _ _ _ h => h.elim) ?_
  simp only [List.take_succ_cons, List.take_zero, List.drop_succ_cons, List.drop_zero]
  iterate 18
    apply headW_val rfl rfl
    · intro K hK w1 hB1
      obtain ⟨c0, c1, c2, c3⟩ := hB1.h.cells
      have cb := HC.out _ hB1.h.b
      have HB := Lib.hid hB1
      clear hB1
      go_wp2_with fail
      first
      | exact hK _ HB.out
      | exact HB.out
    · exact ⟨_, rfl⟩
  refine headW_nil (fun _ w2 hB2 => ?_)
  obtain ⟨c0, c1, c2, c3⟩ := hB2.h.cells
  have f2 := free_of hB2.h.h
  have H2 := Lib.hid hB2
  clear hB2 H1
  go_wp2_with (have _t := H2; clear _t; refine at_store 28 rfl ?_; refine wpList_store_ins Ins.zero (w.heap.size) rfl _ _ rfl rfl rfl (((H2.out).setS false)).r (((H2.out).setS false)).z ?_; intro w3 hw; have H3 := Lib.hid ((((H2.out).setS false)).store hw); clear hw H2)
  exact bodyPost_ret (results_two' rfl (res_ins 4 (w.heap.size) _ rfl H3.out.r) (res_tmp 5 rfl)) rfl ⟨rfl, H3.out.h, H3.out.u⟩

set_option maxRecDepth 100000 in
set_option maxHeartbeats 2000000 in
theorem rearly_247_1 (d g : Nat) (s : Rd) (v : Value) (L : List Int) (w : World) (hD : IsRd w d v L g s) (k : Nat) (sh : Bool) (hs : s = ⟨k, sh, false⟩) (hl : 1 < L.length) (hc : L.getD 1 0 / 8 % 8 = 1) :
    Calls Try.prog 175 #[.pointer (some ⟨d, 0, none⟩), .int .u8 247] w (RAns d v L g w ⟨Ins.zero, true, ⟨k, false, false⟩⟩) := by
  subst hs
  obtain ⟨ao, sc, rfl, hsc⟩ : ∃ ao c, v = .slice (some ⟨g, ao, none⟩) L.length c ∧ L.length ≤ c := by
    rcases hD.b with ⟨_, h1⟩ | ⟨ao, c, _, _, _, h1, _⟩
    · rw [h1] at hl; simp at hl
    · exact ⟨ao, c, h1, hD.c _ _ _ h1⟩
  have hL := hD.r
  have hx := hL 1
  have hls := hD.n
  unfold maxLen at hls
  have q1 : decide ((L.length : Int) < 2) = false := by simp; omega
  have q2 : decide (L.length < 2) = false := by simp; omega
  have q3 : 1 < L.length := hl
  have HC := Lib.hid (fun (W : World) (hb : BySl W (.slice (some ⟨g, ao, none⟩) L.length sc) L g) => bysl_cell W hl hb)
  obtain ⟨x, hxe⟩ : ∃ x, L.getD 1 0 = x := ⟨_, rfl⟩
  rw [hxe] at hx HC
  rw [hxe] at hc
  have q4 := mrm_bits8 x hx
  obtain ⟨n, hn⟩ : ∃ n, x / 8 % 8 = n := ⟨_, rfl⟩
  obtain ⟨md, hmd⟩ : ∃ md, x / 64 = md := ⟨_, rfl⟩
  have hn8 : 0 ≤ n ∧ n < 8 := by omega
  rw [hn] at q4 hc
  have q5 : x / 64 = md := hmd
  clear hn hmd hxe
  have c0 := cells_of (heap_alloc_keep (.cells #[.int .i64 0, .int .i64 0, .int .i64 0, .int .i64 0, .int .u32 0, .int .i64 0, .int .i64 0, .int .u32 0, .int .i64 0, .int .i64 0, .int .u32 0, .int .i64 0, .int .i64 0, .int .u32 0, .bool false, .int .i64 0] 28) hD.h)
  obtain rfl : n = 1 := hc
  have H1 := Lib.hid (RiS.start hD)
  clear hD hl hx hls hL
  go_enter Try.func175, Try.ntmps175
  go_wp2_with fail
  clear c0
  have HQ := Lib.hid q5
  refine wp_draw 18 (RiS w d (.slice (some ⟨g, ao, none⟩) L.length sc) L g ⟨k, sh, false⟩ w.heap.size Ins.zero.cells) (fun _ _ => False) (by kernel_rfl) (by kernel_rfl) (H1.out.step (Upd.refl [] _).drew) (fun _ _ _ h => h.elim) ?_
  simp only [List.take_succ_cons, List.take_zero, List.drop_succ_cons, List.drop_zero]
  iterate 18
    apply headW_val rfl rfl
    · intro K hK w1 hB1
      obtain ⟨c0, c1, c2, c3⟩ := hB1.h.cells
      have cb := HC.out _ hB1.h.b
      have HB := Lib.hid hB1
      clear hB1
      go_wp2_with fail
      first
      | exact hK _ HB.out
      | exact HB.out
    · exact ⟨_, rfl⟩
  refine headW_nil (fun _ w2 hB2 => ?_)
  obtain ⟨c0, c1, c2, c3⟩ := hB2.h.cells
  have f2 := free_of hB2.h.h
  have H2 := Lib.hid hB2
  clear hB2 H1
  go_wp2_with (have _t := H2; clear _t; refine at_store 28 rfl ?_; refine wpList_store_ins Ins.zero (w.heap.size) rfl _ _ rfl rfl rfl (((H2.out).setS false)).r (((H2.out).setS false)).z ?_; intro w3 hw; have H3 := Lib.hid ((((H2.out).setS false)).store hw); clear hw H2)
  exact bodyPost_ret (results_two' rfl (res_ins 4 (w.heap.size) _ rfl H3.out.r) (res_tmp 5 rfl)) rfl ⟨rfl, H3.out.h, H3.out.u⟩

set_option maxRecDepth 100000 in
set_option maxHeartbeats 2000000 in
theorem rearly_247_n (d g : Nat) (s : Rd) (v : Value) (L : List Int) (w : World) (hD : IsRd w d v L g s) (k : Nat) (sh : Bool) (hs : s = ⟨k, sh, false⟩) (hl : 1 < L.length) (hc : L.getD 1 0 / 8 % 8 ≠ 1) :
    Calls Try.prog 175 #[.pointer (some ⟨d, 0, none⟩), .int .u8 247] w (RAns d v L g w ⟨Ins.zero, false, ⟨k, sh, false⟩⟩) := by
  subst hs
  obtain ⟨ao, sc, rfl, hsc⟩ : ∃ ao c, v = .slice (some ⟨g, ao, none⟩) L.length c ∧ L.length ≤ c := by
    rcases hD.b with ⟨_, h1⟩ | ⟨ao, c, _, _, _, h1, _⟩
    · rw [h1] at hl; simp at hl
    · exact ⟨ao, c, h1, hD.c _ _ _ h1⟩
  have hL := hD.r
  have hx := hL 1
  have hls := hD.n
  unfold maxLen at hls
  have q1 : decide ((L.length : Int) < 2) = false := by simp; omega
  have q2 : decide (L.length < 2) = false := by simp; omega
  have q3 : 1 < L.length := hl
  have HC := Lib.hid (fun (W : World) (hb : BySl W (.slice (some ⟨g, ao, none⟩) L.length sc) L g) => bysl_cell W hl hb)
  obtain ⟨x, hxe⟩ : ∃ x, L.getD 1 0 = x := ⟨_, rfl⟩
  rw [hxe] at hx HC
  rw [hxe] at hc
  have q4 := mrm_bits8 x hx
  obtain ⟨n, hn⟩ : ∃ n, x / 8 % 8 = n := ⟨_, rfl⟩
  obtain ⟨md, hmd⟩ : ∃ md, x / 64 = md := ⟨_, rfl⟩
  have hn8 : 0 ≤ n ∧ n < 8 := by omega
  rw [hn] at q4 hc
  have q5 : x / 64 = md := hmd
  clear hn hmd hxe
  have c0 := cells_of (heap_alloc_keep (.cells #[.int .i64 0, .int .i64 0, .int .i64 0, .int .i64 0, .int .u32 0, .int .i64 0, .int .i64 0, .int .u32 0, .int .i64 0, .int .i64 0, .int .u32 0, .int .i64 0, .int .i64 0, .int .u32 0, .bool false, .int .i64 0] 28) hD.h)
  have q7 : (n == 1) = false := by simpa using hc
  have H1 := Lib.hid (RiS.start hD)
  clear hD hl hx hls hL hc
  go_enter Try.func175, Try.ntmps175
  go_wp2_with fail
  clear c0
  have HQ := Lib.hid q5
  refine wp_draw 18 (RiS w d (.slice (some ⟨g, ao, none⟩) L.length sc) L g ⟨k, sh, false⟩ w.heap.size Ins.zero.cells) (fun _ _ => False) (by kernel_rfl) (by kernel_rfl) (H1.out.step (Upd.refl [] _).drew) (fun _ _ _ h => h.elim) ?_
  simp only [List.take_succ_cons, List.take_zero, List.drop_succ_cons, List.drop_zero]
  iterate 18
    apply headW_val rfl rfl
    · intro K hK w1 hB1
      obtain ⟨c0, c1, c2, c3⟩ := hB1.h.cells
      have cb := HC.out _ hB1.h.b
      have HB := Lib.hid hB1
      clear hB1
      go_wp2_with fail
      first
      | exact hK _ HB.out
      | exact HB.out
    · exact ⟨_, rfl⟩
  refine headW_nil (fun _ w2 hB2 => ?_)
  obtain ⟨c0, c1, c2, c3⟩ := hB2.h.cells
  have f2 := free_of hB2.h.h
  have H2 := Lib.hid hB2
  clear hB2 H1
  go_wp2_with (have _t := H2; clear _t; refine at_store 28 rfl ?_; refine wpList_store_ins Ins.zero (w.heap.size) rfl _ _ rfl rfl rfl (H2.out).r (H2.out).z ?_; intro w3 hw; have H3 := Lib.hid ((H2.out).store hw); clear hw H2)
  exact bodyPost_ret (results_two' rfl (res_ins 4 (w.heap.size) _ rfl H3.out.r) (res_tmp 5 rfl)) rfl ⟨rfl, H3.out.h, H3.out.u⟩

set_option maxRecDepth 100000 in
set_option maxHeartbeats 2000000 in
theorem rearly_255_3 (d g : Nat) (s : Rd) (v : Value) (L : List Int) (w : World) (hD : IsRd w d v L g s) (k : Nat) (sh : Bool) (hs : s = ⟨k, sh, false⟩) (hl : 1 < L.length) (hc : L.getD 1 0 / 8 % 8 = 3) :
    Calls Try.prog 175 #[.pointer (some ⟨d, 0, none⟩), .int .u8 255] w (RAns d v L g w ⟨Ins.zero, true, ⟨k, false, false⟩⟩) := by
  subst hs
  obtain ⟨ao, sc, rfl, hsc⟩ : ∃ ao c, v = .slice (some ⟨g, ao, none⟩) L.length c ∧ L.length ≤ c := by
    rcases hD.b with ⟨_, h1⟩ | ⟨ao, c, _, _, _, h1, _⟩
    · rw [h1] at hl; simp at hl
    · exact ⟨ao, c, h1, hD.c _ _ _ h1⟩
  have hL := hD.r
  have hx := hL 1
  have hls := hD.n
  unfold maxLen at hls
  have q1 : decide ((L.length : Int) < 2) = false := by simp; omega
  have q2 : decide (L.length < 2) = false := by simp; omega
  have q3 : 1 < L.length := hl
  have HC := Lib.hid (fun (W : World) (hb : BySl W (.slice (some ⟨g, ao, none⟩) L.length sc) L g) => bysl_cell W hl hb)
  obtain ⟨x, hxe⟩ : ∃ x, L.getD 1 0 = x := ⟨_, rfl⟩
  rw [hxe] at hx HC
  rw [hxe] at hc
  have q4 := mrm_bits8 x hx
  obtain ⟨n, hn⟩ : ∃ n, x / 8 % 8 = n := ⟨_, rfl⟩
  obtain ⟨md, hmd⟩ : ∃ md, x / 64 = md := ⟨_, rfl⟩
  have hn8 : 0 ≤ n ∧ n < 8 := by omega
  rw [hn] at q4 hc
  have q5 : x / 64 = md := hmd
  clear hn hmd hxe
  have c0 := cells_of (heap_alloc_keep (.cells #[.int .i64 0, .int .i64 0, .int .i64 0, .int .i64 0, .int .u32 0, .int .i64 0, .int .i64 0, .int .u32 0, .int .i64 0, .int .i64 0, .int .u32 0, .int .i64 0, .int .i64 0, .int .u32 0, .bool false, .int .i64 0] 28) hD.h)
  obtain rfl : n = 3 := hc
  have H1 := Lib.hid (RiS.start hD)
  clear hD hl hx hls hL
  go_enter Try.func175, Try.ntmps175
  go_wp2_with fail
  clear c0
  have HQ := Lib.hid q5
  refine wp_draw 18 (RiS w d (.slice (some ⟨g, ao, none⟩) L.length sc) L g ⟨k, sh, false⟩ w.heap.size Ins.zero.cells) (fun _ _ => False) (by kernel_rfl) (by kernel_rfl) (H1.out.step (Upd.refl [] _).drew) (fun _ _ _ h => h.elim) ?_
  simp only [List.take_succ_cons, List.take_zero, List.drop_succ_cons, List.drop_zero]
  iterate 18
    apply headW_val rfl rfl
    · intro K hK w1 hB1
      obtain ⟨c0, c1, c2, c3⟩ := hB1.h.cells
      have cb := HC.out _ hB1.h.b
      have HB := Lib.hid hB1
      clear hB1
      go_wp2_with fail
      first
      | exact hK _ HB.out
      | exact HB.out
    · exact ⟨_, rfl⟩
  refine headW_nil (fun _ w2 hB2 => ?_)
  obtain ⟨c0, c1, c2, c3⟩ := hB2.h.cells
  have f2 := free_of hB2.h.h
  have H2 := Lib.hid hB2
  clear hB2 H1
  go_wp2_with (have _t := H2; clear _t; refine at_store 28 rfl ?_; refine wpList_store_ins Ins.zero (w.heap.size) rfl _ _ rfl rfl rfl (((H2.out).setS false)).r (((H2.out).setS false)).z ?_; intro w3 hw; have H3 := Lib.hid ((((H2.out).setS false)).store hw); clear hw H2)
  exact bodyPost_ret (results_two' rfl (res_ins 4 (w.heap.size) _ rfl H3.out.r) (res_tmp 5 rfl)) rfl ⟨rfl, H3.out.h, H3.out.u⟩

set_option maxRecDepth 100000 in
set_option maxHeartbeats 2000000 in
theorem rearly_255_5 (d g : Nat) (s : Rd) (v : Value) (L : List Int) (w : World) (hD : IsRd w d v L g s) (k : Nat) (sh : Bool) (hs : s = ⟨k, sh, false⟩) (hl : 1 < L.length) (hc : L.getD 1 0 / 8 % 8 = 5) :
    Calls Try.prog 175 #[.pointer (some ⟨d, 0, none⟩), .int .u8 255] w (RAns d v L g w ⟨Ins.zero, true, ⟨k, false, false⟩⟩) := by
  subst hs
  obtain ⟨ao, sc, rfl, hsc⟩ : ∃ ao c, v = .slice (some ⟨g, ao, none⟩) L.length c ∧ L.length ≤ c := by
    rcases hD.b with ⟨_, h1⟩ | ⟨ao, c, _, _, _, h1, _⟩
    · rw [h1] at hl; simp at hl
    · exact ⟨ao, c, h1, hD.c _ _ _ h1⟩
  have hL := hD.r
  have hx := hL 1
  have hls := hD.n
  unfold maxLen at hls
  have q1 : decide ((L.length : Int) < 2) = false := by simp; omega
  have q2 : decide (L.length < 2) = false := by simp; omega
  have q3 : 1 < L.length := hl
  have HC := Lib.hid (fun (W : World) (hb : BySl W (.slice (some ⟨g, ao, none⟩) L.length sc) L g) => bysl_cell W hl hb)
  obtain ⟨x, hxe⟩ : ∃ x, L.getD 1 0 = x := ⟨_, rfl⟩
  rw [hxe] at hx HC
  rw [hxe] at hc
  have q4 := mrm_bits8 x hx
  obtain ⟨n, hn⟩ : ∃ n, x / 8 % 8 = n := ⟨_, rfl⟩
  obtain ⟨md, hmd⟩ : ∃ md, x / 64 = md := ⟨_, rfl⟩
  have hn8 : 0 ≤ n ∧ n < 8 := by omega
  rw [hn] at q4 hc
  have q5 : x / 64 = md := hmd
  clear hn hmd hxe
  have c0 := cells_of (heap_alloc_keep (.cells #[.int .i64 0, .int .i64 0, .int .i64 0, .int .i64 0, .int .u32 0, .int .i64 0, .int .i64 0, .int .u32 0, .int .i64 0, .int .i64 0, .int .u32 0, .int .i64 0, .int .i64 0, .int .u32 0, .bool false, .int .i64 0] 28) hD.h)
  obtain rfl : n = 5 := hc
  have H1 := Lib.hid (RiS.start hD)
  clear hD hl hx hls hL
  go_enter Try.func175, Try.ntmps175
  go_wp2_with fail
  clear c0
  have HQ := Lib.hid q5
  refine wp_draw 18 (RiS w d (.slice (some ⟨g, ao, none⟩) L.length sc) L g ⟨k, sh, false⟩ w.heap.size Ins.zero.cells) (fun _ _ => False) (by kernel_rfl) (by kernel_rfl) (H1.out.step (Upd.refl [] _).drew) (fun _ _ _ h => h.elim) ?_
  simp only [List.take_succ_cons, List.take_zero, List.drop_succ_cons, List.drop_zero]
  iterate 18
    apply headW_val rfl rfl
    · intro K hK w1 hB1
      obtain ⟨c0, c1, c2, c3⟩ := hB1.h.cells
      have cb := HC.out _ hB1.h.b
      have HB := Lib.hid hB1
      clear hB1
      go_wp2_with fail
      first
      | exact hK _ HB.out
      | exact HB.out
    · exact ⟨_, rfl⟩
  refine headW_nil (fun _ w2 hB2 => ?_)
  obtain ⟨c0, c1, c2, c3⟩ := hB2.h.cells
  have f2 := free_of hB2.h.h
  have H2 := Lib.hid hB2
  clear hB2 H1
  go_wp2_with (have _t := H2; clear _t; refine at_store 28 rfl ?_; refine wpList_store_ins Ins.zero (w.heap.size) rfl _ _ rfl rfl rfl (((H2.out).setS false)).r (((H2.out).setS false)).z ?_; intro w3 hw; have H3 := Lib.hid ((((H2.out).setS false)).store hw); clear hw H2)
  exact bodyPost_ret (results_two' rfl (res_ins 4 (w.heap.size) _ rfl H3.out.r) (res_tmp 5 rfl)) rfl ⟨rfl, H3.out.h, H3.out.u⟩

set_option maxRecDepth 100000 in
set_option maxHeartbeats 2000000 in
theorem rearly_255_7 (d g : Nat) (s : Rd) (v : Value) (L : List Int) (w : World) (hD : IsRd w d v L g s) (k : Nat) (sh : Bool) (hs : s = ⟨k, sh, false⟩) (hl : 1 < L.length) (hc : L.getD 1 0 / 8 % 8 = 7) :
    Calls Try.prog 175 #[.pointer (some ⟨d, 0, none⟩), .int .u8 255] w (RAns d v L g w ⟨Ins.zero, false, ⟨k, false, true⟩⟩) := by
  subst hs
  obtain ⟨ao, sc, rfl, hsc⟩ : ∃ ao c, v = .slice (some ⟨g, ao, none⟩) L.length c ∧ L.length ≤ c := by
    rcases hD.b with ⟨_, h1⟩ | ⟨ao, c, _, _, _, h1, _⟩
    · rw [h1] at hl; simp at hl
    · exact ⟨ao, c, h1, hD.c _ _ _ h1⟩
  have hL := hD.r
  have hx := hL 1
  have hls := hD.n
  unfold maxLen at hls
  have q1 : decide ((L.length : Int) < 2) = false := by simp; omega
  have q2 : decide (L.length < 2) = false := by simp; omega
  have q3 : 1 < L.length := hl
  have HC := Lib.hid (fun (W : World) (hb : BySl W (.slice (some ⟨g, ao, none⟩) L.length sc) L g) => bysl_cell W hl hb)
  obtain ⟨x, hxe⟩ : ∃ x, L.getD 1 0 = x := ⟨_, rfl⟩
  rw [hxe] at hx HC
  rw [hxe] at hc
  have q4 := mrm_bits8 x hx
  obtain ⟨n, hn⟩ : ∃ n, x / 8 % 8 = n := ⟨_, rfl⟩
  obtain ⟨md, hmd⟩ : ∃ md, x / 64 = md := ⟨_, rfl⟩
  have hn8 : 0 ≤ n ∧ n < 8 := by omega
  rw [hn] at q4 hc
  have q5 : x / 64 = md := hmd
  clear hn hmd hxe
  have c0 := cells_of (heap_alloc_keep (.cells #[.int .i64 0, .int .i64 0, .int .i64 0, .int .i64 0, .int .u32 0, .int .i64 0, .int .i64 0, .int .u32 0, .int .i64 0, .int .i64 0, .int .u32 0, .int .i64 0, .int .i64 0, .int .u32 0, .bool false, .int .i64 0] 28) hD.h)
  obtain rfl : n = 7 := hc
  have H1 := Lib.hid (RiS.start hD)
  clear hD hl hx hls hL
  go_enter Try.func175, Try.ntmps175
  go_wp2_with fail
  clear c0
  have HQ := Lib.hid q5
  refine wp_draw 18 (RiS w d (.slice (some ⟨g, ao, none⟩) L.length sc) L g ⟨k, sh, false⟩ w.heap.size Ins.zero.cells) (fun _ _ => False) (by kernel_rfl) (by kernel_rfl) (H1.out.step (Upd.refl [] _).drew) (fun _ _ _ h => h.elim) ?_
  simp only [List.take_succ_cons, List.take_zero, List.drop_succ_cons, List.drop_zero]
  iterate 18
    apply headW_val rfl rfl
    · intro K hK w1 hB1
      obtain ⟨c0, c1, c2, c3⟩ := hB1.h.cells
      have cb := HC.out _ hB1.h.b
      have HB := Lib.hid hB1
      clear hB1
      go_wp2_with fail
      first
      | exact hK _ HB.out
      | exact HB.out
    · exact ⟨_, rfl⟩
  refine headW_nil (fun _ w2 hB2 => ?_)
  obtain ⟨c0, c1, c2, c3⟩ := hB2.h.cells
  have f2 := free_of hB2.h.h
  have H2 := Lib.hid hB2
  clear hB2 H1
  go_wp2_with (have _t := H2; clear _t; refine at_store 28 rfl ?_; refine wpList_store_ins Ins.zero (w.heap.size) rfl _ _ rfl rfl rfl (((((H2.out).setB true)).setS false)).r (((((H2.out).setB true)).setS false)).z ?_; intro w3 hw; have H3 := Lib.hid ((((((H2.out).setB true)).setS false)).store hw); clear hw H2)
  exact bodyPost_ret (results_two' rfl (res_ins 4 (w.heap.size) _ rfl H3.out.r) (res_tmp 5 rfl)) rfl ⟨rfl, H3.out.h, H3.out.u⟩

set_option maxRecDepth 100000 in
set_option maxHeartbeats 2000000 in
theorem rearly_255_n (d g : Nat) (s : Rd) (v : Value) (L : List Int) (w : World) (hD : IsRd w d v L g s) (k : Nat) (sh : Bool) (hs : s = ⟨k, sh, false⟩) (hl : 1 < L.length) (hc : L.getD 1 0 / 8 % 8 ≠ 3 ∧ L.getD 1 0 / 8 % 8 ≠ 5 ∧ L.getD 1 0 / 8 % 8 ≠ 7) :
    Calls Try.prog 175 #[.pointer (some ⟨d, 0, none⟩), .int .u8 255] w (RAns d v L g w ⟨Ins.zero, false, ⟨k, sh, false⟩⟩) := by
  subst hs
  obtain ⟨ao, sc, rfl, hsc⟩ : ∃ ao c, v = .slice (some ⟨g, ao, none⟩) L.length c ∧ L.length ≤ c := by
    rcases hD.b with ⟨_, h1⟩ | ⟨ao, c, _, _, _, h1, _⟩
    · rw [h1] at hl; simp at hl
    · exact ⟨ao, c, h1, hD.c _ _ _ h1⟩
  have hL := hD.r
  have hx := hL 1
  have hls := hD.n
  unfold maxLen at hls
  have q1 : decide ((L.length : Int) < 2) = false := by simp; omega
  have q2 : decide (L.length < 2) = false := by simp; omega
  have q3 : 1 < L.length := hl
  have HC := Lib.hid (fun (W : World) (hb : BySl W (.slice (some ⟨g, ao, none⟩) L.length sc) L g) => bysl_cell W hl hb)
  obtain ⟨x, hxe⟩ : ∃ x, L.getD 1 0 = x := ⟨_, rfl⟩
  rw [hxe] at hx HC
  rw [hxe] at hc
  have q4 := mrm_bits8 x hx
  obtain ⟨n, hn⟩ : ∃ n, x / 8 % 8 = n := ⟨_, rfl⟩
  obtain ⟨md, hmd⟩ : ∃ md, x / 64 = md := ⟨_, rfl⟩
  have hn8 : 0 ≤ n ∧ n < 8 := by omega
  rw [hn] at q4 hc
  have q5 : x / 64 = md := hmd
  clear hn hmd hxe
  have c0 := cells_of (heap_alloc_keep (.cells #[.int .i64 0, .int .i64 0, .int .i64 0, .int .i64 0, .int .u32 0, .int .i64 0, .int .i64 0, .int .u32 0, .int .i64 0, .int .i64 0, .int .u32 0, .int .i64 0, .int .i64 0, .int .u32 0, .bool false, .int .i64 0] 28) hD.h)
  have q7 : (n == 3) = false := by simpa using hc.1
  have q8 : (n == 5) = false := by simpa using hc.2.1
  have q9 : (n == 7) = false := by simpa using hc.2.2
  have H1 := Lib.hid (RiS.start hD)
  clear hD hl hx hls hL hc
  go_enter Try.func175, Try.ntmps175
  go_wp2_with fail
  clear c0
  have HQ := Lib.hid q5
  refine wp_draw 18 (RiS w d (.slice (some ⟨g, ao, none⟩) L.length sc) L g ⟨k, sh, false⟩ w.heap.size Ins.zero.cells) (fun _ _ => False) (by kernel_rfl) (by kernel_rfl) (H1.out.step (Upd.refl [] _).drew) (fun _ _ _ h => h.elim) ?_
  simp only [List.take_succ_cons, List.take_zero, List.drop_succ_cons, List.drop_zero]
  iterate 18
    apply headW_val rfl rfl
    · intro K hK w1 hB1
      obtain ⟨c0, c1, c2, c3⟩ := hB1.h.cells
      have cb := HC.out _ hB1.h.b
      have HB := Lib.hid hB1
      clear hB1
      go_wp2_with fail
      first
      | exact hK _ HB.out
      | exact HB.out
    · exact ⟨_, rfl⟩
  refine headW_nil (fun _ w2 hB2 => ?_)
  obtain ⟨c0, c1, c2, c3⟩ := hB2.h.cells
  have f2 := free_of hB2.h.h
  have H2 := Lib.hid hB2
  clear hB2 H1
  go_wp2_with (have _t := H2; clear _t; refine at_store 28 rfl ?_; refine wpList_store_ins Ins.zero (w.heap.size) rfl _ _ rfl rfl rfl (H2.out).r (H2.out).z ?_; intro w3 hw; have H3 := Lib.hid ((H2.out).store hw); clear hw H2)
  exact bodyPost_ret (results_two' rfl (res_ins 4 (w.heap.size) _ rfl H3.out.r) (res_tmp 5 rfl)) rfl ⟨rfl, H3.out.h, H3.out.u⟩

set_option maxRecDepth 100000 in
set_option maxHeartbeats 2000000 in
theorem rearly_198_0 (d g : Nat) (s : Rd) (v : Value) (L : List Int) (w : World) (hD : IsRd w d v L g s) (k : Nat) (sh : Bool) (hs : s = ⟨k, sh, false⟩) (hl : 1 < L.length) (hc : L.getD 1 0 / 8 % 8 = 0) :
    Calls Try.prog 175 #[.pointer (some ⟨d, 0, none⟩), .int .u8 198] w (RAns d v L g w ⟨Ins.zero, false, ⟨k, sh, false⟩⟩) := by
  subst hs
  obtain ⟨ao, sc, rfl, hsc⟩ : ∃ ao c, v = .slice (some ⟨g, ao, none⟩) L.length c ∧ L.length ≤ c := by
    rcases hD.b with ⟨_, h1⟩ | ⟨ao, c, _, _, _, h1, _⟩
    · rw [h1] at hl; simp at hl
    · exact ⟨ao, c, h1, hD.c _ _ _ h1⟩
  have hL := hD.r
  have hx := hL 1
  have hls := hD.n
  unfold maxLen at hls
  have q1 : decide ((L.length : Int) < 2) = false := by simp; omega
  have q2 : decide (L.length < 2) = false := by simp; omega
  have q3 : 1 < L.length := hl
  have HC := Lib.hid (fun (W : World) (hb : BySl W (.slice (some ⟨g, ao, none⟩) L.length sc) L g) => bysl_cell W hl hb)
  obtain ⟨x, hxe⟩ : ∃ x, L.getD 1 0 = x := ⟨_, rfl⟩
  rw [hxe] at hx HC
  rw [hxe] at hc
  have q4 := mrm_bits8 x hx
  obtain ⟨n, hn⟩ : ∃ n, x / 8 % 8 = n := ⟨_, rfl⟩
  obtain ⟨md, hmd⟩ : ∃ md, x / 64 = md := ⟨_, rfl⟩
  have hn8 : 0 ≤ n ∧ n < 8 := by omega
  rw [hn] at q4 hc
  have q5 : x / 64 = md := hmd
  clear hn hmd hxe
  have c0 := cells_of (heap_alloc_keep (.cells #[.int .i64 0, .int .i64 0, .int .i64 0, .int .i64 0, .int .u32 0, .int .i64 0, .int .i64 0, .int .u32 0, .int .i64 0, .int .i64 0, .int .u32 0, .int .i64 0, .int .i64 0, .int .u32 0, .bool false, .int .i64 0] 28) hD.h)
  obtain rfl : n = 0 := hc
  have H1 := Lib.hid (RiS.start hD)
  clear hD hl hx hls hL
  go_enter Try.func175, Try.ntmps175
  go_wp2_with fail
  clear c0
  have HQ := Lib.hid q5
  refine wp_draw 18 (RiS w d (.slice (some ⟨g, ao, none⟩) L.length sc) L g ⟨k, sh, false⟩ w.heap.size Ins.zero.cells) (fun _ _ => False) (by kernel_rfl) (by kernel_rfl) (H1.out.step (Upd.refl [] _).drew) (fun _ _ _ h => h.elim) ?_
  simp only [List.take_succ_cons, List.take_zero, List.drop_succ_cons, List.drop_zero]
  iterate 18
    apply headW_val rfl rfl
    · intro K hK w1 hB1
      obtain ⟨c0, c1, c2, c3⟩ := hB1.h.cells
      have cb := HC.out _ hB1.h.b
      have HB := Lib.hid hB1
      clear hB1
      go_wp2_with fail
      first
      | exact hK _ HB.out
      | exact HB.out
    · exact ⟨_, rfl⟩
  refine headW_nil (fun _ w2 hB2 => ?_)
  obtain ⟨c0, c1, c2, c3⟩ := hB2.h.cells
  have f2 := free_of hB2.h.h
  have H2 := Lib.hid hB2
  clear hB2 H1
  go_wp2_with (have _t := H2; clear _t; refine at_store 28 rfl ?_; refine wpList_store_ins Ins.zero (w.heap.size) rfl _ _ rfl rfl rfl (((H2.out).setB false)).r (((H2.out).setB false)).z ?_; intro w3 hw; have H3 := Lib.hid ((((H2.out).setB false)).store hw); clear hw H2)
  exact bodyPost_ret (results_two' rfl (res_ins 4 (w.heap.size) _ rfl H3.out.r) (res_tmp 5 rfl)) rfl ⟨rfl, H3.out.h, H3.out.u⟩

set_option maxRecDepth 100000 in
set_option maxHeartbeats 2000000 in
theorem rearly_198_n (d g : Nat) (s : Rd) (v : Value) (L : List Int) (w : World) (hD : IsRd w d v L g s) (k : Nat) (sh : Bool) (hs : s = ⟨k, sh, false⟩) (hl : 1 < L.length) (hc : L.getD 1 0 / 8 % 8 ≠ 0) :
    Calls Try.prog 175 #[.pointer (some ⟨d, 0, none⟩), .int .u8 198] w (RAns d v L g w ⟨Ins.zero, false, ⟨k, false, true⟩⟩) := by
  subst hs
  obtain ⟨ao, sc, rfl, hsc⟩ : ∃ ao c, v = .slice (some ⟨g, ao, none⟩) L.length c ∧ L.length ≤ c := by
    rcases hD.b with ⟨_, h1⟩ | ⟨ao, c, _, _, _, h1, _⟩
    · rw [h1] at hl; simp at hl
    · exact ⟨ao, c, h1, hD.c _ _ _ h1⟩
  have hL := hD.r
  have hx := hL 1
  have hls := hD.n
  unfold maxLen at hls
  have q1 : decide ((L.length : Int) < 2) = false := by simp; omega
  have q2 : decide (L.length < 2) = false := by simp; omega
  have q3 : 1 < L.length := hl
  have HC := Lib.hid (fun (W : World) (hb : BySl W (.slice (some ⟨g, ao, none⟩) L.length sc) L g) => bysl_cell W hl hb)
  obtain ⟨x, hxe⟩ : ∃ x, L.getD 1 0 = x := ⟨_, rfl⟩
  rw [hxe] at hx HC
  rw [hxe] at hc
  have q4 := mrm_bits8 x hx
  obtain ⟨n, hn⟩ : ∃ n, x / 8 % 8 = n := ⟨_, rfl⟩
  obtain ⟨md, hmd⟩ : ∃ md, x / 64 = md := ⟨_, rfl⟩
  have hn8 : 0 ≤ n ∧ n < 8 := by omega
  rw [hn] at q4 hc
  have q5 : x / 64 = md := hmd
  clear hn hmd hxe
  have c0 := cells_of (heap_alloc_keep (.cells #[.int .i64 0, .int .i64 0, .int .i64 0, .int .i64 0, .int .u32 0, .int .i64 0, .int .i64 0, .int .u32 0, .int .i64 0, .int .i64 0, .int .u32 0, .int .i64 0, .int .i64 0, .int .u32 0, .bool false, .int .i64 0] 28) hD.h)
  have q7 : (n != 0) = true := by simpa using hc
  have q8 : (n == 0) = false := by simpa using hc
  have H1 := Lib.hid (RiS.start hD)
  clear hD hl hx hls hL hc
  go_enter Try.func175, Try.ntmps175
  go_wp2_with fail
  clear c0
  have HQ := Lib.hid q5
  refine wp_draw 18 (RiS w d (.slice (some ⟨g, ao, none⟩) L.length sc) L g ⟨k, sh, false⟩ w.heap.size Ins.zero.cells) (fun _ _ => False) (by kernel_rfl) (by kernel_rfl) (H1.out.step (Upd.refl [] _).drew) (fun _ _ _ h => h.elim) ?_
  simp only [List.take_succ_cons, List.take_zero, List.drop_succ_cons, List.drop_zero]
  iterate 18
    apply headW_val rfl rfl
    · intro K hK w1 hB1
      obtain ⟨c0, c1, c2, c3⟩ := hB1.h.cells
      have cb := HC.out _ hB1.h.b
      have HB := Lib.hid hB1
      clear hB1
      go_wp2_with fail
      first
      | exact hK _ HB.out
      | exact HB.out
    · exact ⟨_, rfl⟩
  refine headW_nil (fun _ w2 hB2 => ?_)
  obtain ⟨c0, c1, c2, c3⟩ := hB2.h.cells
  have f2 := free_of hB2.h.h
  have H2 := Lib.hid hB2
  clear hB2 H1
  go_wp2_with (have _t := H2; clear _t; refine at_store 28 rfl ?_; refine wpList_store_ins Ins.zero (w.heap.size) rfl _ _ rfl rfl rfl (((((H2.out).setB true)).setS false)).r (((((H2.out).setB true)).setS false)).z ?_; intro w3 hw; have H3 := Lib.hid ((((((H2.out).setB true)).setS false)).store hw); clear hw H2)
  exact bodyPost_ret (results_two' rfl (res_ins 4 (w.heap.size) _ rfl H3.out.r) (res_tmp 5 rfl)) rfl ⟨rfl, H3.out.h, H3.out.u⟩

set_option maxRecDepth 100000 in
set_option maxHeartbeats 2000000 in
theorem rearly_199_0 (d g : Nat) (s : Rd) (v : Value) (L : List Int) (w : World) (hD : IsRd w d v L g s) (k : Nat) (sh : Bool) (hs : s = ⟨k, sh, false⟩) (hl : 1 < L.length) (hc : L.getD 1 0 / 8 % 8 = 0) :
    Calls Try.prog 175 #[.pointer (some ⟨d, 0, none⟩), .int .u8 199] w (RAns d v L g w ⟨Ins.zero, false, ⟨k, sh, false⟩⟩) := by
  subst hs
  obtain ⟨ao, sc, rfl, hsc⟩ : ∃ ao c, v = .slice (some ⟨g, ao, none⟩) L.length c ∧ L.length ≤ c := by
    rcases hD.b with ⟨_, h1⟩ | ⟨ao, c, _, _, _, h1, _⟩
    · rw [h1] at hl; simp at hl
    · exact ⟨ao, c, h1, hD.c _ _ _ h1⟩
  have hL := hD.r
  have hx := hL 1
  have hls := hD.n
  unfold maxLen at hls
  have q1 : decide ((L.length : Int) < 2) = false := by simp; omega
  have q2 : decide (L.length < 2) = false := by simp; omega
  have q3 : 1 < L.length := hl
  have HC := Lib.hid (fun (W : World) (hb : BySl W (.slice (some ⟨g, ao, none⟩) L.length sc) L g) => bysl_cell W hl hb)
  obtain ⟨x, hxe⟩ : ∃ x, L.getD 1 0 = x := ⟨_, rfl⟩
  rw [hxe] at hx HC
  rw [hxe] at hc
  have q4 := mrm_bits8 x hx
  obtain ⟨n, hn⟩ : ∃ n, x / 8 % 8 = n := ⟨_, rfl⟩
  obtain ⟨md, hmd⟩ : ∃ md, x / 64 = md := ⟨_, rfl⟩
  have hn8 : 0 ≤ n ∧ n < 8 := by omega
  rw [hn] at q4 hc
  have q5 : x / 64 = md := hmd
  clear hn hmd hxe
  have c0 := cells_of (heap_alloc_keep (.cells #[.int .i64 0, .int .i64 0, .int .i64 0, .int .i64 0, .int .u32 0, .int .i64 0, .int .i64 0, .int .u32 0, .int .i64 0, .int .i64 0, .int .u32 0, .int .i64 0, .int .i64 0, .int .u32 0, .bool false, .int .i64 0] 28) hD.h)
  obtain rfl : n = 0 := hc
  have H1 := Lib.hid (RiS.start hD)
  clear hD hl hx hls hL
  go_enter Try.func175, Try.ntmps175
  go_wp2_with fail
  clear c0
  have HQ := Lib.hid q5
  refine wp_draw 18 (RiS w d (.slice (some ⟨g, ao, none⟩) L.length sc) L g ⟨k, sh, false⟩ w.heap.size Ins.zero.cells) (fun _ _ => False) (by kernel_rfl) (by kernel_rfl) (H1.out.step (Upd.refl [] _).drew) (fun _ _ _ h => h.elim) ?_
  simp only [List.take_succ_cons, List.take_zero, List.drop_succ_cons, List.drop_zero]
  iterate 18
    apply headW_val rfl rfl
    · intro K hK w1 hB1
      obtain ⟨c0, c1, c2, c3⟩ := hB1.h.cells
      have cb := HC.out _ hB1.h.b
      have HB := Lib.hid hB1
      clear hB1
      go_wp2_with fail
      first
      | exact hK _ HB.out
      | exact HB.out
    · exact ⟨_, rfl⟩
  refine headW_nil (fun _ w2 hB2 => ?_)
  obtain ⟨c0, c1, c2, c3⟩ := hB2.h.cells
  have f2 := free_of hB2.h.h
  have H2 := Lib.hid hB2
  clear hB2 H1
  go_wp2_with (have _t := H2; clear _t; refine at_store 28 rfl ?_; refine wpList_store_ins Ins.zero (w.heap.size) rfl _ _ rfl rfl rfl (((H2.out).setB false)).r (((H2.out).setB false)).z ?_; intro w3 hw; have H3 := Lib.hid ((((H2.out).setB false)).store hw); clear hw H2)
  exact bodyPost_ret (results_two' rfl (res_ins 4 (w.heap.size) _ rfl H3.out.r) (res_tmp 5 rfl)) rfl ⟨rfl, H3.out.h, H3.out.u⟩

set_option maxRecDepth 100000 in
set_option maxHeartbeats 2000000 in
theorem rearly_199_n (d g : Nat) (s : Rd) (v : Value) (L : List Int) (w : World) (hD : IsRd w d v L g s) (k : Nat) (sh : Bool) (hs : s = ⟨k, sh, false⟩) (hl : 1 < L.length) (hc : L.getD 1 0 / 8 % 8 ≠ 0) :
    Calls Try.prog 175 #[.pointer (some ⟨d, 0, none⟩), .int .u8 199] w (RAns d v L g w ⟨Ins.zero, false, ⟨k, false, true⟩⟩) := by
  subst hs
  obtain ⟨ao, sc, rfl, hsc⟩ : ∃ ao c, v = .slice (some ⟨g, ao, none⟩) L.length c ∧ L.length ≤ c := by
    rcases hD.b with ⟨_, h1⟩ | ⟨ao, c, _, _, _, h1, _⟩
    · rw [h1] at hl; simp at hl
    · exact ⟨ao, c, h1, hD.c _ _ _ h1⟩
  have hL := hD.r
  have hx := hL 1
  have hls := hD.n
  unfold maxLen at hls
  have q1 : decide ((L.length : Int) < 2) = false := by simp; omega
  have q2 : decide (L.length < 2) = false := by simp; omega
  have q3 : 1 < L.length := hl
  have HC := Lib.hid (fun (W : World) (hb : BySl W (.slice (some ⟨g, ao, none⟩) L.length sc) L g) => bysl_cell W hl hb)
  obtain ⟨x, hxe⟩ : ∃ x, L.getD 1 0 = x := ⟨_, rfl⟩
  rw [hxe] at hx HC
  rw [hxe] at hc
  have q4 := mrm_bits8 x hx
  obtain ⟨n, hn⟩ : ∃ n, x / 8 % 8 = n := ⟨_, rfl⟩
  obtain ⟨md, hmd⟩ : ∃ md, x / 64 = md := ⟨_, rfl⟩
  have hn8 : 0 ≤ n ∧ n < 8 := by omega
  rw [hn] at q4 hc
  have q5 : x / 64 = md := hmd
  clear hn hmd hxe
  have c0 := cells_of (heap_alloc_keep (.cells #[.int .i64 0, .int .i64 0, .int .i64 0, .int .i64 0, .int .u32 0, .int .i64 0, .int .i64 0, .int .u32 0, .int .i64 0, .int .i64 0, .int .u32 0, .int .i64 0, .int .i64 0, .int .u32 0, .bool false, .int .i64 0] 28) hD.h)
  have q7 : (n != 0) = true := by simpa using hc
  have q8 : (n == 0) = false := by simpa using hc
  have H1 := Lib.hid (RiS.start hD)
  clear hD hl hx hls hL hc
  go_enter Try.func175, Try.ntmps175
  go_wp2_with fail
  clear c0
  have HQ := Lib.hid q5
  refine wp_draw 18 (RiS w d (.slice (some ⟨g, ao, none⟩) L.length sc) L g ⟨k, sh, false⟩ w.heap.size Ins.zero.cells) (fun _ _ => False) (by kernel_rfl) (by kernel_rfl) (H1.out.step (Upd.refl [] _).drew) (fun _ _ _ h => h.elim) ?_
  simp only [List.take_succ_cons, List.take_zero, List.drop_succ_cons, List.drop_zero]
  iterate 18
    apply headW_val rfl rfl
    · intro K hK w1 hB1
      obtain ⟨c0, c1, c2, c3⟩ := hB1.h.cells
      have cb := HC.out _ hB1.h.b
      have HB := Lib.hid hB1
      clear hB1
      go_wp2_with fail
      first
      | exact hK _ HB.out
      | exact HB.out
    · exact ⟨_, rfl⟩
  refine headW_nil (fun _ w2 hB2 => ?_)
  obtain ⟨c0, c1, c2, c3⟩ := hB2.h.cells
  have f2 := free_of hB2.h.h
  have H2 := Lib.hid hB2
  clear hB2 H1
  go_wp2_with (have _t := H2; clear _t; refine at_store 28 rfl ?_; refine wpList_store_ins Ins.zero (w.heap.size) rfl _ _ rfl rfl rfl (((((H2.out).setB true)).setS false)).r (((((H2.out).setB true)).setS false)).z ?_; intro w3 hw; have H3 := Lib.hid ((((((H2.out).setB true)).setS false)).store hw); clear hw H2)
  exact bodyPost_ret (results_two' rfl (res_ins 4 (w.heap.size) _ rfl H3.out.r) (res_tmp 5 rfl)) rfl ⟨rfl, H3.out.h, H3.out.u⟩

end Go.Proofs.Ytoplekfnghkkdaa
