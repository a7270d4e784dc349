/-
  Parts of the proof (their names shortened by a program). No condition.
-/
import Derived.Test.YteiplidhkelkbaaGreatMg01
import Derived.Test.YteiplidhkelkbaaGreatMg27
import Derived.Test.YteiplidhkelkbaaGreatMg15
import Derived.Test.YteiplidhkelkbaaGreatMg21
import Derived.Test.YteiplidhkelkbaaGreatMg06
namespace Go.Proofs.YteiplidhkelkbaaGreat
open Go Go.RowKit
set_option linter.unusedVariables false
set_option linter.unusedSimpArgs false
set_option maxRecDepth 100000
set_option maxHeartbeats 16000000
theorem Upd.over_alloc {w w2 : World} {o : Obj} (hU : Upd [] (w.alloc o) w2) : w2.heap[w.heap.size]? = some o ∧ Upd [] w w2 ∧ w.heap.size < w2.heap.size := by
 have h := hU.size
 have h2 : (w.alloc o).heap.size = w.heap.size + 1 := by simp
 exact ⟨hU.get (heap_alloc_new _ _) (by simp), ((Upd.refl [] w).alloc o).also hU (by simp), by omega⟩
theorem Yn2 (M : Mem) (r : Nat) (x b rt : Int) (w : World) (hM : Ybg w r M) (h0 : 0 ≤ x) (h1 : x < 4294967296) :
  Calls Tryz.prog 28 #[.pointer (some ⟨r, 0, none⟩), .int .u32 x, .int .i64 b, .int .i64 rt] w fun e w' => e = .returned (.tuple #[.int .u32 (M.readV x b rt), (M.rdF x b rt).val, .bool (M.readK x b rt)]) ∧ Upd [] w w' := by
 have hmo : Tryz.prog.follows .mixedOrders = true := by kernel_rfl
 obtain ⟨n, hn⟩ : ∃ n : Nat, Yb4 b = n := ⟨(Yb4 b).toNat, by have := Yin b; omega⟩
 have hn4 : n ≤ 4 := by have := Yin b; omega
 have hnt : (Yb4 b).toNat = n := by omega
 obtain ⟨q, hq⟩ : ∃ q, Ybp rt = q := ⟨_, rfl⟩
 have hqm := hq ▸ Ygp rt
 have HQ0 := Yh_ (show 0 ≤ q by omega)
 have HQ7 := Yh_ (show q ≤ 7 by omega)
 have HF := Yh_ (hq ▸ hnt ▸ canF_rdF hM.ok x b rt)
 have HK := Yh_ (hq ▸ hnt ▸ Ysa hM.ok x b rt)
 have HN := Yh_ hn
 have HNT := Yh_ hnt
 have HM := Yh_ hM
 have hr := hM.lt
 have h3 : (rt = 2 ∧ q = 2) ∨ (rt = 4 ∧ q = 4) ∨ (rt ≠ 2 ∧ rt ≠ 4 ∧ q = 1) := by
  by_cases hr : rt = 2
  ·exact .inl ⟨hr, by rw [← hq, hr]; rfl⟩
  ·by_cases hr4 : rt = 4
   ·exact .inr (.inl ⟨hr4, by rw [← hq, hr4]; rfl⟩)
   ·exact .inr (.inr ⟨hr, hr4, by rw [← hq]; simp [Ybp, hr, hr4]⟩)
 have HQ := Yh_ hq
 clear hM hn hnt hq hqm
 cases hk : M.readK x b rt
 ·have HW := Yh_ hk
  have HV := Yh_ (show M.readV x b rt = 0 by
   rw [Mem.readV]; rw [Mem.readK] at hk
   cases h : M.bad x (Ybp rt) (Yb4 b).toNat with
   |none => rw [h] at hk; cases hk
   |some i => rfl)
  clear hk
  obtain ⟨F, hF⟩ : ∃ F, M.rdF x b rt = F := ⟨_, rfl⟩
  have HF2 := Yh_ (HF.out.trans hF)
  rw [hF]
  clear HF hF
  rcases h3 with ⟨rfl, rfl⟩ | ⟨rfl, rfl⟩ | ⟨g2, g4, rfl⟩
  ·have HF := HF2
   clear HF2
   go_enter Tryz.func28, Tryz.ntmps28
   go_wp2_with (first | (go_at_call 39; refine (Ygv b _).mono ?_; rintro e w2 ⟨rfl, rfl⟩; rw [HN.out]) | (go_at_call 40; (refine (Ygf M r n x 2 _ (HM.out.keep ((Upd.refl [] _).alloc _) (by simp)) h0 h1 (by omega) HQ0.out HQ7.out).mono ?_; rintro e w2 ⟨rfl, hU⟩; rw [HF.out, HK.out, HW.out]; unfold Flt.val; obtain ⟨h8, hu, hs2⟩ := hU.over_alloc; have HU := Yh_ hu; have H8 := Yh_ h8; have cf := Ya h8; have ff := Yh h8; clear hU hu h8)))
   refine Ybc 2 (fun w1 => Upd [] w w1 ∧ w1.heap[w.heap.size]? = some (.cells #[.int .i64 0, .int .u32 0, .int .u32 0, .int .i64 0] 32 (0, 0)) ∧ w1.heap[w2.heap.size]? = some (.cells #[.int .i64 F.k, .int .u32 F.pc, .int .u32 F.a, .int .i64 F.wt] 32 (0, 0))) (fun _ _ => False) (by kernel_rfl) (by kernel_rfl) ⟨(HU.out.alloc _).drew, Yc _ H8.out, heap_alloc_new _ _⟩ (fun _ _ _ h => h.elim) ?_
   simp only [List.take_succ_cons, List.take_zero, List.drop_succ_cons, List.drop_zero]
   repeat
    apply Yae rfl rfl
    ·intro K hK w1 hB1
     have cg := Ya hB1.2.2
     have HB1 := Yh_ hB1
     clear hB1
     go_wp2_with fail
     exact HB1.out
    ·exact ⟨_, rfl⟩
   refine Yav (fun _ w1 hB1 => ?_)
   have cf := Ya hB1.2.1
   have ff := Yh hB1.2.1
   have HB1 := Yh_ hB1
   clear hB1
   go_wp2_with fail
   have hE := Ya0 (b := w.heap.size) HB1.out.1 (.inr (Nat.le_refl _)) (.int .i64 F.k) (.int .u32 F.pc) (.int .u32 F.a) (.int .i64 F.wt)
   have hF := Ycf HB1.out.2.1 (.int .i64 F.k) (.int .u32 F.pc) (.int .u32 F.a) (.int .i64 F.wt)
   refine bodyPost_ret (v := .tuple #[.int .u32 0, F.val, .bool false]) (Yas rfl (Yj 8 rfl) (Yb3 9 w.heap.size F rfl hF) (Yj 10 rfl)) rfl ⟨by rw [HV.out], hE⟩
  ·have HF := HF2
   clear HF2
   go_enter Tryz.func28, Tryz.ntmps28
   go_wp2_with (first | (go_at_call 39; refine (Ygv b _).mono ?_; rintro e w2 ⟨rfl, rfl⟩; rw [HN.out]) | (go_at_call 40; (refine (Ygf M r n x 4 _ (HM.out.keep ((Upd.refl [] _).alloc _) (by simp)) h0 h1 (by omega) HQ0.out HQ7.out).mono ?_; rintro e w2 ⟨rfl, hU⟩; rw [HF.out, HK.out, HW.out]; unfold Flt.val; obtain ⟨h8, hu, hs2⟩ := hU.over_alloc; have HU := Yh_ hu; have H8 := Yh_ h8; have cf := Ya h8; have ff := Yh h8; clear hU hu h8)))
   refine Ybc 2 (fun w1 => Upd [] w w1 ∧ w1.heap[w.heap.size]? = some (.cells #[.int .i64 0, .int .u32 0, .int .u32 0, .int .i64 0] 32 (0, 0)) ∧ w1.heap[w2.heap.size]? = some (.cells #[.int .i64 F.k, .int .u32 F.pc, .int .u32 F.a, .int .i64 F.wt] 32 (0, 0))) (fun _ _ => False) (by kernel_rfl) (by kernel_rfl) ⟨(HU.out.alloc _).drew, Yc _ H8.out, heap_alloc_new _ _⟩ (fun _ _ _ h => h.elim) ?_
   simp only [List.take_succ_cons, List.take_zero, List.drop_succ_cons, List.drop_zero]
   repeat
    apply Yae rfl rfl
    ·intro K hK w1 hB1
     have cg := Ya hB1.2.2
     have HB1 := Yh_ hB1
     clear hB1
     go_wp2_with fail
     exact HB1.out
    ·exact ⟨_, rfl⟩
   refine Yav (fun _ w1 hB1 => ?_)
   have cf := Ya hB1.2.1
   have ff := Yh hB1.2.1
   have HB1 := Yh_ hB1
   clear hB1
   go_wp2_with fail
   have hE := Ya0 (b := w.heap.size) HB1.out.1 (.inr (Nat.le_refl _)) (.int .i64 F.k) (.int .u32 F.pc) (.int .u32 F.a) (.int .i64 F.wt)
   have hF := Ycf HB1.out.2.1 (.int .i64 F.k) (.int .u32 F.pc) (.int .u32 F.a) (.int .i64 F.wt)
   refine bodyPost_ret (v := .tuple #[.int .u32 0, F.val, .bool false]) (Yas rfl (Yj 8 rfl) (Yb3 9 w.heap.size F rfl hF) (Yj 10 rfl)) rfl ⟨by rw [HV.out], hE⟩
  ·have g2' : (rt == 2) = false := by simpa using g2
   have g4' : (rt == 4) = false := by simpa using g4
   have g2n : (rt != 2) = true := by simpa using g2
   have g4n : (rt != 4) = true := by simpa using g4
   clear g2 g4
   have HF := HF2
   clear HF2
   go_enter Tryz.func28, Tryz.ntmps28
   go_wp2_with (first | (go_at_call 39; refine (Ygv b _).mono ?_; rintro e w2 ⟨rfl, rfl⟩; rw [HN.out]) | (go_at_call 40; (refine (Ygf M r n x 1 _ (HM.out.keep ((Upd.refl [] _).alloc _) (by simp)) h0 h1 (by omega) HQ0.out HQ7.out).mono ?_; rintro e w2 ⟨rfl, hU⟩; rw [HF.out, HK.out, HW.out]; unfold Flt.val; obtain ⟨h8, hu, hs2⟩ := hU.over_alloc; have HU := Yh_ hu; have H8 := Yh_ h8; have cf := Ya h8; have ff := Yh h8; clear hU hu h8)))
   refine Ybc 2 (fun w1 => Upd [] w w1 ∧ w1.heap[w.heap.size]? = some (.cells #[.int .i64 0, .int .u32 0, .int .u32 0, .int .i64 0] 32 (0, 0)) ∧ w1.heap[w2.heap.size]? = some (.cells #[.int .i64 F.k, .int .u32 F.pc, .int .u32 F.a, .int .i64 F.wt] 32 (0, 0))) (fun _ _ => False) (by kernel_rfl) (by kernel_rfl) ⟨(HU.out.alloc _).drew, Yc _ H8.out, heap_alloc_new _ _⟩ (fun _ _ _ h => h.elim) ?_
   simp only [List.take_succ_cons, List.take_zero, List.drop_succ_cons, List.drop_zero]
   repeat
    apply Yae rfl rfl
    ·intro K hK w1 hB1
     have cg := Ya hB1.2.2
     have HB1 := Yh_ hB1
     clear hB1
     go_wp2_with fail
     exact HB1.out
    ·exact ⟨_, rfl⟩
   refine Yav (fun _ w1 hB1 => ?_)
   have cf := Ya hB1.2.1
   have ff := Yh hB1.2.1
   have HB1 := Yh_ hB1
   clear hB1
   go_wp2_with fail
   have hE := Ya0 (b := w.heap.size) HB1.out.1 (.inr (Nat.le_refl _)) (.int .i64 F.k) (.int .u32 F.pc) (.int .u32 F.a) (.int .i64 F.wt)
   have hF := Ycf HB1.out.2.1 (.int .i64 F.k) (.int .u32 F.pc) (.int .u32 F.a) (.int .i64 F.wt)
   refine bodyPost_ret (v := .tuple #[.int .u32 0, F.val, .bool false]) (Yas rfl (Yj 8 rfl) (Yb3 9 w.heap.size F rfl hF) (Yj 10 rfl)) rfl ⟨by rw [HV.out], hE⟩
 ·have HW := Yh_ hk
  have hbad : M.bad x q n = none := by
   rw [Mem.readK, HNT.out, HQ.out] at hk
   cases h : M.bad x q n with
   |none => rfl
   |some i => rw [h] at hk; cases hk
  have HX := Yh_ (Ytk x q n hbad)
  have HV := Yh_ (show M.readV x b rt = M.get x n by rw [Mem.readV, HNT.out, HQ.out, hbad])
  have HZ := Yh_ (show M.rdF x b rt = Flt.zero by rw [Mem.rdF, HNT.out, HQ.out, hbad])
  have HF2 := Yh_ (HF.out.trans HZ.out)
  have hg := Yj6 HM.out.ok x n
  have hp : (2 : Int) ^ (8 * n) ≤ 2 ^ 32 := by
   have := Nat.pow_le_pow_right (show 0 < 2 by decide) (show 8 * n ≤ 32 by omega)
   exact_mod_cast this
  have e32 : (2 : Int) ^ 32 = 4294967296 := by decide
  obtain ⟨g, hgd⟩ : ∃ g, M.get x n = g := ⟨_, rfl⟩
  rw [hgd] at hg
  have hg0 := hg.1
  have hg1 : g < 4294967296 := by omega
  have HG := Yh_ hgd
  clear hk hbad HF hgd hg hp e32
  rcases h3 with ⟨rfl, rfl⟩ | ⟨rfl, rfl⟩ | ⟨g2, g4, rfl⟩
  ·go_enter Tryz.func28, Tryz.ntmps28
   go_wp2_with (first | (go_at_call 39; refine (Ygv b _).mono ?_; rintro e w2 ⟨rfl, rfl⟩; rw [HN.out]) | (go_at_call 40; (refine (Ygf M r n x 2 _ (HM.out.keep ((Upd.refl [] _).alloc _) (by simp)) h0 h1 (by omega) HQ0.out HQ7.out).mono ?_; rintro e w2 ⟨rfl, hU⟩; rw [HF2.out, HK.out, HW.out]; unfold Flt.val Flt.zero; obtain ⟨h8, hu, hs2⟩ := hU.over_alloc; have HU := Yh_ hu; have H8 := Yh_ h8; have cf := Ya h8; have ff := Yh h8; clear hU hu h8)) | (go_at_call 41; refine (Ymh M r n x _ (HM.out.keep (HU.out.alloc _) (by simp)) h0 h1 (by omega) HX.out).mono ?_; rintro e w3 ⟨rfl, rfl⟩; rw [HG.out]))
   have hF := Yc (.cells #[.int .i64 0, .int .u32 0, .int .u32 0, .int .i64 0] 32) (Ycf H8.out (.int .i64 0) (.int .u32 0) (.int .u32 0) (.int .i64 0))
   have hE := (Ya0 (b := w.heap.size) HU.out (.inr (Nat.le_refl _)) (.int .i64 0) (.int .u32 0) (.int .u32 0) (.int .i64 0)).alloc (.cells #[.int .i64 0, .int .u32 0, .int .u32 0, .int .i64 0] 32)
   refine bodyPost_ret (v := .tuple #[.int .u32 g, Flt.zero.val, .bool true]) (Yas rfl (Yj 8 rfl) (Yb3 9 w.heap.size Flt.zero rfl hF) (Yj 10 rfl)) rfl ⟨by rw [HV.out, HG.out, HZ.out], hE⟩
  ·go_enter Tryz.func28, Tryz.ntmps28
   go_wp2_with (first | (go_at_call 39; refine (Ygv b _).mono ?_; rintro e w2 ⟨rfl, rfl⟩; rw [HN.out]) | (go_at_call 40; (refine (Ygf M r n x 4 _ (HM.out.keep ((Upd.refl [] _).alloc _) (by simp)) h0 h1 (by omega) HQ0.out HQ7.out).mono ?_; rintro e w2 ⟨rfl, hU⟩; rw [HF2.out, HK.out, HW.out]; unfold Flt.val Flt.zero; obtain ⟨h8, hu, hs2⟩ := hU.over_alloc; have HU := Yh_ hu; have H8 := Yh_ h8; have cf := Ya h8; have ff := Yh h8; clear hU hu h8)) | (go_at_call 41; refine (Ymh M r n x _ (HM.out.keep (HU.out.alloc _) (by simp)) h0 h1 (by omega) HX.out).mono ?_; rintro e w3 ⟨rfl, rfl⟩; rw [HG.out]))
   have hF := Yc (.cells #[.int .i64 0, .int .u32 0, .int .u32 0, .int .i64 0] 32) (Ycf H8.out (.int .i64 0) (.int .u32 0) (.int .u32 0) (.int .i64 0))
   have hE := (Ya0 (b := w.heap.size) HU.out (.inr (Nat.le_refl _)) (.int .i64 0) (.int .u32 0) (.int .u32 0) (.int .i64 0)).alloc (.cells #[.int .i64 0, .int .u32 0, .int .u32 0, .int .i64 0] 32)
   refine bodyPost_ret (v := .tuple #[.int .u32 g, Flt.zero.val, .bool true]) (Yas rfl (Yj 8 rfl) (Yb3 9 w.heap.size Flt.zero rfl hF) (Yj 10 rfl)) rfl ⟨by rw [HV.out, HG.out, HZ.out], hE⟩
  ·have g2' : (rt == 2) = false := by simpa using g2
   have g4' : (rt == 4) = false := by simpa using g4
   have g2n : (rt != 2) = true := by simpa using g2
   have g4n : (rt != 4) = true := by simpa using g4
   clear g2 g4
   go_enter Tryz.func28, Tryz.ntmps28
   go_wp2_with (first | (go_at_call 39; refine (Ygv b _).mono ?_; rintro e w2 ⟨rfl, rfl⟩; rw [HN.out]) | (go_at_call 40; (refine (Ygf M r n x 1 _ (HM.out.keep ((Upd.refl [] _).alloc _) (by simp)) h0 h1 (by omega) HQ0.out HQ7.out).mono ?_; rintro e w2 ⟨rfl, hU⟩; rw [HF2.out, HK.out, HW.out]; unfold Flt.val Flt.zero; obtain ⟨h8, hu, hs2⟩ := hU.over_alloc; have HU := Yh_ hu; have H8 := Yh_ h8; have cf := Ya h8; have ff := Yh h8; clear hU hu h8)) | (go_at_call 41; refine (Ymh M r n x _ (HM.out.keep (HU.out.alloc _) (by simp)) h0 h1 (by omega) HX.out).mono ?_; rintro e w3 ⟨rfl, rfl⟩; rw [HG.out]))
   have hF := Yc (.cells #[.int .i64 0, .int .u32 0, .int .u32 0, .int .i64 0] 32) (Ycf H8.out (.int .i64 0) (.int .u32 0) (.int .u32 0) (.int .i64 0))
   have hE := (Ya0 (b := w.heap.size) HU.out (.inr (Nat.le_refl _)) (.int .i64 0) (.int .u32 0) (.int .u32 0) (.int .i64 0)).alloc (.cells #[.int .i64 0, .int .u32 0, .int .u32 0, .int .i64 0] 32)
   refine bodyPost_ret (v := .tuple #[.int .u32 g, Flt.zero.val, .bool true]) (Yas rfl (Yj 8 rfl) (Yb3 9 w.heap.size Flt.zero rfl hF) (Yj 10 rfl)) rfl ⟨by rw [HV.out, HG.out, HZ.out], hE⟩
def Ybm (l : List Ins) : List Value := l.flatMap fun i => i.cells.toList
theorem Ykr (i : Ins) (l : List Ins) : Ybm (i :: l) = i.cells.toList ++ Ybm l := by simp [Ybm]
theorem Yhw (l m : List Ins) : Ybm (l ++ m) = Ybm l ++ Ybm m := by simp [Ybm]
theorem Yh0 (i : Ins) : i.cells.toList.length = 16 := rfl
theorem Ye3 (l : List Ins) : (Ybm l).length = l.length * 16 := by
 induction l with
 |nil => rfl
 |cons i l ih => rw [Ykr, List.length_append, ih, Yh0, List.length_cons]; omega
theorem Ylw {l : List Ins} {k : Nat} {x : Ins} (h : l[k]? = some x) (j : Nat) (hj : j < 16) : (Ybm l)[k * 16 + j]? = x.cells.toList[j]? := by
 induction l generalizing k with
 |nil => simp at h
 |cons i l ih =>
  rw [Ykr]
  cases k with
  |zero =>
   simp only [List.getElem?_cons_zero] at h
   injection h with h
   subst h
   rw [Nat.zero_mul, Nat.zero_add, List.getElem?_append_left (by rw [Yh0]; exact hj)]
  |succ k =>
   simp only [List.getElem?_cons_succ] at h
   rw [List.getElem?_append_right (by rw [Yh0]; omega), Yh0, show (k + 1) * 16 + j - 16 = k * 16 + j from by omega]
   exact ih h
theorem Ydm {l : List Ins} : ∀ u ∈ Ybm l, u.oneCell' = true := by
 intro u hu
 rw [Ybm, List.mem_flatMap] at hu
 obtain ⟨i, _, hi⟩ := hu
 have := i.one
 rw [Array.all_eq_true_iff_forall_mem] at this
 exact this u (by simpa using hi)
def ISl (w : World) (v : Value) (l : List Ins) (g : Nat) : Prop :=
 (v = .slice none 0 0 ∧ l = []) ∨ ∃ o c C f, v = .slice (some ⟨g, o, none⟩) l.length c ∧ w.heap[g]? = some (.cells C 42 f) ∧ ∀ k u, (Ybm l)[k]? = some u → C[o + k]? = some u
theorem ISl.form {w : World} {v : Value} {l : List Ins} {g : Nat} (h : ISl w v l g) : ∃ b c, v = .slice b l.length c := by
 rcases h with ⟨h1, h2⟩ | ⟨o, c, _, _, h1, _⟩
 ·exact ⟨none, 0, by rw [h1, h2]; rfl⟩
 ·exact ⟨_, _, h1⟩
theorem ISl.keep {w w' : World} {v : Value} {l : List Ins} {g : Nat} {S : List Nat} (h : ISl w v l g) (u : Upd S w w') (hg : g ∉ S) : ISl w' v l g := by
 rcases h with h | ⟨o, c, C, f, h1, h2, h3⟩
 ·exact .inl h
 ·exact .inr ⟨o, c, C, f, h1, u.get h2 hg, h3⟩
theorem ISl.at {w : World} {l : List Ins} {g o c : Nat} {n : Nat} (h : ISl w (.slice (some ⟨g, o, none⟩) n c) l g) {k : Nat} {x : Ins} (hx : l[k]? = some x) : w.rangeAt g (o + k * 16) x.cells.toList := by
 rcases h with ⟨h, _⟩ | ⟨o', c', C, f, h1, h2, h3⟩
 ·cases h
 ·injection h1 with h1 _ _
  injection h1 with h1
  injection h1 with _ h1
  subst h1
  intro j u hu
  have hj : j < 16 := by have := (List.getElem?_eq_some_iff.1 hu).1; rwa [Yh0] at this
  rw [Ya h2, Nat.add_assoc]
  exact h3 _ _ (by rw [Ylw hx j hj]; exact hu)
def Yen (i : Ins) : Bool := i.op == 30 || i.op == 31 || i.op == 32 || i.op == 33 || i.op == 43 || i.rep
theorem Yid (i : Ins) (w : World) : Calls Tryz.prog 23 #[.agg i.cells] w fun e w' => e = .returned (.bool (Yen i)) ∧ Upd [] w w' := by
 unfold Ins.cells Yen
 go_enter Tryz.func23, Tryz.ntmps23
 go_wp2
 all_goals (go_ret; refine ⟨?_, (Upd.refl _ _).alloc _⟩; simp_all)
theorem Yhs (x : Int) (w : World) (h : 0 ≤ x ∧ x < 4294967296) : Calls Tryz.prog 24 #[.int .u32 x] w fun e w' => e = .returned (.int .u32 (x / 256)) ∧ w = w' := by
 have e : x.tdiv 256 % 4294967296 = x / 256 := by rw [Int.tdiv_eq_ediv_of_nonneg h.1]; omega
 clear h
 go_enter Tryz.func24, Tryz.ntmps24
 go_wp2
 go_ret
 refine ⟨?_, rfl⟩
 show Ending.returned (.int .u32 (x.tdiv 256 % 4294967296)) = _
 rw [e]
def Ydo (l : List Ins) : Nat → Int
 |0 => 0
 |k + 1 => (Ydo l k + (l.getD k Ins.zero).len % 4294967296) % 4294967296
theorem Yiy (v : Value) (l : List Ins) (g : Nat) (w : World) (hv : ISl w v l g) (hn : l.length ≤ 100) :
  Calls Tryz.prog 12 #[v] w fun e w' => e = .returned (.int .u32 (Ydo l l.length)) ∧ Upd [] w w' := by
 obtain ⟨b, c, rfl⟩ := hv.form
 have HV := Yh_ hv
 clear hv
 go_enter Tryz.func12, Tryz.ntmps12
 go_wp2_with fail
 go_loopw [3, 8] (fun n i wr => ∃ k : Nat, k ≤ l.length ∧ n = .int .u32 (Ydo l k) ∧ i = .int .i64 k ∧ Upd [] w wr) (fun _ i _ => l.length - (intOf i).toNat)
 case atStart => exact ⟨0, Nat.zero_le _, rfl, rfl, Upd.refl _ _⟩
 case round =>
  obtain ⟨k, hk, rfl, rfl, hu⟩ := hrel
  have HU := Yh_ hu
  clear hu
  by_cases hlt : k < l.length
  ·have d1 : decide ((k : Int) < l.length) = true := by simp; omega
   obtain ⟨x, hx⟩ : ∃ x, l[k]? = some x := ⟨l[k], List.getElem?_eq_getElem hlt⟩
   obtain ⟨o, rfl⟩ : ∃ o, b = some ⟨g, o, none⟩ := by
    rcases HV.out with ⟨h1, h2⟩ | ⟨o, _, _, _, h1, _⟩
    ·rw [h2] at hlt; simp at hlt
    ·injection h1 with h1; exact ⟨o, h1⟩
   have HR := Yh_ ((HV.out.keep HU.out (by simp)).at hx)
   have HX := Yh_ hx
   clear hx
   go_wp2_with (first | (refine Ybr 42 rfl ?_; refine Ydq rfl 42 _ rfl g (o + k * 16) rfl x.cells _ HR.out Tryz.underlying42 rfl (by rw [Ins.size]; exact Yd2) ?_) | (refine Ye 42 rfl ?_; refine Yb x wr.heap.size rfl _ _ rfl rfl rfl (heap_alloc_new wr (.cells Ins.zero.cells 42)) rfl ?_; intro w3 hw; have h3 := Yaw (S := []) (w0 := wr) hw (heap_alloc_new wr (.cells Ins.zero.cells 42)) rfl ((Upd.refl [] wr).alloc _) (.inr (Nat.le_refl _)); have U3 := Yh_ (HU.out.also h3.2 (by simp)); have c3 := Ya h3.1 15; rw [show (x.cells)[15]? = some (.int .i64 x.len) from rfl] at c3; clear hw h3))
   go_roundw
   case rel => exact ⟨k + 1, by omega, by rw [Ydo, List.getD_eq_getElem?_getD, HX.out]; rfl, by go_num, U3.out⟩
   case measure => simp [intOf]; omega
  ·obtain rfl : k = l.length := by omega
   have d1 : decide ((l.length : Int) < l.length) = false := by simp
   go_wp2_with fail
   go_ret
   exact ⟨rfl, HU.out⟩
def Sho {α : Type} (n : Nat) (f : List Int → Nat → DR α) : Prop := ∀ L k, k ≤ L.length → match f L k with
 |.ok v k' => k ≤ k' ∧ k' ≤ k + n ∧ k' ≤ L.length
 |.err c => c = 10 → L.length < k + n
theorem Sho.pure {α : Type} (v : α) : Sho 0 (fun _ k => .ok v k) := fun L k h => ⟨Nat.le_refl _, Nat.le_refl _, h⟩
theorem Sho.fail {α : Type} {c : Int} (hc : 11 ≤ c) : Sho 0 (fun _ _ => (.err c : DR α)) := fun L k _ h => by omega
theorem Sho.mono {α : Type} {n m : Nat} {f : List Int → Nat → DR α} (h : Sho n f) (hm : n ≤ m) : Sho m f := by
 intro L k hk
 have := h L k hk
 split <;> rename_i he <;> rw [he] at this
 ·exact ⟨this.1, by omega, this.2.2⟩
 ·exact fun hc => by have := this hc; omega
theorem Sho.bind {α β : Type} {n m : Nat} {f : List Int → Nat → DR α} {g : α → List Int → Nat → DR β} (hf : Sho n f) (hg : ∀ v, Sho m (g v)) :
  Sho (n + m) (fun L k => (f L k).bind fun v k => g v L k) := by
 intro L k hk
 have h := hf L k hk
 cases hfk : f L k with
 |err c =>
  rw [hfk] at h
  simp only [hfk, DR.bind_err]
  exact fun hc => by have := h hc; omega
 |ok v k' =>
  rw [hfk] at h
  simp only [hfk, DR.bind_ok]
  have h2 := hg v L k' h.2.2
  cases hgk : g v L k' with
  |err c =>
   rw [hgk] at h2
   simp only [hgk]
   exact fun hc => by have := h2 hc; omega
  |ok u k2 =>
   rw [hgk] at h2
   simp only [hgk]
   exact ⟨by omega, by omega, h2.2.2⟩
theorem Sho.ite {α : Type} {n : Nat} {p : Prop} [Decidable p] {f g : List Int → Nat → DR α} (hf : Sho n f) (hg : Sho n g) : Sho n (fun L k => if p then f L k else g L k) := by
 intro L k hk
 by_cases hp : p
 ·have := hf L k hk
  simp only [if_pos hp]
  exact this
 ·have := hg L k hk
  simp only [if_neg hp]
  exact this
theorem Ye6 : Sho 1 Yz := by
 intro L k hk
 unfold Yz
 by_cases h : k < L.length
 ·simp only [if_pos h]
  exact ⟨by omega, by omega, by omega⟩
 ·simp only [if_neg h]
  exact fun _ => by omega
theorem Yk7 : Sho 4 Yco := by
 intro L k hk
 unfold Yco
 by_cases h : k + 4 ≤ L.length
 ·simp only [if_pos h]
  exact ⟨by omega, by omega, by omega⟩
 ·simp only [if_neg h]
  exact fun _ => by omega
theorem Yjn : Sho 1 Ycg := Sho.bind Ye6 fun v => Sho.pure _
theorem Yif : Sho 1 Ybv := Sho.bind Ye6 fun v => Sho.pure _
theorem Ydy : Sho 4 Yau := Sho.bind Yk7 fun v => Sho.pure _
theorem Yfb : Sho 1 Yak := Sho.bind Ye6 fun v => Sho.pure _
theorem Yna (mod base x sc : Int) : Sho 4 (fun L k => Yan L mod base x sc k) :=
 Sho.ite ((Sho.bind Ye6 fun v => Sho.pure _).mono (by decide)) (Sho.ite (Sho.bind Yk7 fun v => Sho.pure _) (Sho.ite (Sho.bind Yk7 fun v => Sho.pure _) ((Sho.pure _).mono (by decide))))
theorem Yeh (m : Mrm) : Sho 5 (fun L k => Ya6 L m k) :=
 Sho.ite ((Sho.pure _).mono (by decide)) (Sho.ite (Sho.bind Ye6 fun v => Yna _ _ _ _) ((Yna _ _ _ _).mono (by decide)))
theorem Yea (op : Int) (t : Bool) : Sho 6 (fun L k => Ya1 L op t k) := Sho.bind Yfb fun m => Sho.bind (Yeh m) fun o => Sho.pure _
theorem Yl8 (op : Int) (m : Mrm) : Sho 5 (fun L k => Ybb L op m k) := Sho.bind (Yeh m) fun o => Sho.pure _
theorem sho_row (c : Int) : Sho 6 (fun L k => Yga L c k) :=
 Sho.ite (Yea _ _) (Sho.ite (Yea _ _) (Sho.ite ((Sho.bind Ydy fun v => Sho.pure _).mono (by decide)) ((Sho.fail (by decide)).mono (by decide))))
theorem sho_lea : Sho 6 (fun L k => Yhy L k) :=
 Sho.bind Yfb fun m => Sho.ite ((Sho.fail (by decide)).mono (by decide)) (Sho.bind (Yeh m) fun o => Sho.pure _)
theorem sho_lays (c : Int) : Sho 10 (fun L k => Yei L c k) :=
 Sho.bind Yfb fun m => Sho.ite ((Sho.fail (by decide)).mono (by decide)) (Sho.bind (Yeh m) fun o => Sho.ite (Sho.bind Ydy fun v => Sho.pure _) ((Sho.bind Yif fun v => Sho.pure _).mono (by decide)))
theorem Yvp (c : Int) : Sho 7 (fun L k => Ycy L c k) :=
 Sho.bind Yfb fun m => Sho.ite ((Sho.fail (by decide)).mono (by decide)) (Sho.bind (Yeh m) fun o => Sho.ite (Sho.bind Yif fun v => Sho.pure _) (Sho.ite ((Sho.pure _).mono (by decide)) ((Sho.pure _).mono (by decide))))
theorem Ysc (c : Int) : Sho 6 (fun L k => Yc6 L c k) :=
 Sho.bind Yfb fun m => Sho.ite ((Sho.fail (by decide)).mono (by decide)) (Yl8 _ m)
theorem Yus : Sho 10 (fun L k => Yff L k) :=
 Sho.bind Yfb fun m => Sho.ite (Sho.bind (Yeh m) fun o => Sho.bind Ydy fun v => Sho.pure _) (Sho.ite ((Yl8 _ m).mono (by decide)) ((Sho.fail (by decide)).mono (by decide)))
theorem sho_last : Sho 6 (fun L k => Yf9 L k) :=
 Sho.bind Yfb fun m => Sho.ite (Yl8 _ m) (Sho.ite ((Sho.fail (by decide)).mono (by decide)) ((Sho.fail (by decide)).mono (by decide)))
theorem Ysv (c : Int) : Sho 10 (fun L k => Yb6 L c k) :=
 Sho.ite ((Yvp _).mono (by decide)) (Sho.ite ((Sho.bind Yif fun o => Sho.ite (Sho.pure _) (Sho.fail (by decide))).mono (by decide))
  (Sho.ite ((Sho.bind Ye6 fun x => Sho.ite (Sho.pure _) (Sho.ite (Sho.pure _) (Sho.fail (by decide)))).mono (by decide)) (Sho.ite ((Ysc _).mono (by decide))
  (Sho.ite ((Sho.bind Ye6 fun x => Sho.ite (Sho.pure _) (Sho.ite (Sho.pure _) (Sho.fail (by decide)))).mono (by decide)) (Sho.ite Yus (Sho.ite (sho_last.mono (by decide)) ((Sho.fail (by decide)).mono (by decide))))))))
theorem Yvo (c : Int) : Sho 10 (fun L k => Ycj L c k) :=
 Sho.ite ((Sho.pure _).mono (by decide)) (Sho.ite ((Sho.pure _).mono (by decide)) (Sho.ite ((Sho.pure _).mono (by decide)) (Sho.ite ((Sho.pure _).mono (by decide)) (Sho.ite ((Sho.pure _).mono (by decide))
  (Sho.ite ((Sho.pure _).mono (by decide)) (Sho.ite ((Sho.pure _).mono (by decide)) (Sho.ite ((Sho.bind Ydy fun v => Sho.pure _).mono (by decide)) (Sho.ite ((Sho.bind Ydy fun v => Sho.pure _).mono (by decide))
  (Sho.ite ((Sho.bind Yjn fun v => Sho.pure _).mono (by decide)) (Ysv _))))))))))
theorem Yu9 (c : Int) : Sho 10 (fun L k => Ya3 L c k) :=
 Sho.ite ((Sho.bind Ydy fun v => Sho.pure _).mono (by decide)) (Sho.ite ((Sho.bind Yjn fun v => Sho.pure _).mono (by decide))
  (Sho.ite (Sho.bind Yfb fun m => Sho.bind (Yeh m) fun o => Sho.bind Ydy fun v => Sho.pure _) (Sho.ite ((Sho.bind Yfb fun m => Sho.bind (Yeh m) fun o => Sho.bind Yjn fun v => Sho.pure _).mono (by decide))
  (Sho.ite ((Yea _ _).mono (by decide)) (Sho.ite ((Yea _ _).mono (by decide)) (Sho.ite ((Yea _ _).mono (by decide)) (Sho.ite ((Yea _ _).mono (by decide)) (Sho.ite ((Yea _ _).mono (by decide)) (Sho.ite ((Yea _ _).mono (by decide))
  (Sho.ite (sho_lea.mono (by decide)) (Sho.ite ((Sho.bind Ydy fun v => Sho.pure _).mono (by decide)) (Sho.ite (sho_lays _) (Yvo _)))))))))))))
theorem Ysf : Sho 8 (fun L k => Yel L k) :=
 (Sho.bind (n := 1) (m := 7) Ye6 fun c => Sho.ite ((Sho.fail (by decide)).mono (by decide)) (Sho.ite ((Sho.bind (Yea _ _) fun i => Sho.pure _).mono (by decide)) (Sho.ite ((Sho.bind Ydy fun v => Sho.pure _).mono (by decide))
  (Sho.ite ((Sho.bind Yfb fun m => Sho.ite ((Sho.fail (by decide)).mono (by decide)) (Sho.bind (Yeh m) fun o => Sho.pure _)).mono (by decide))
  (Sho.ite ((Yea _ _).mono (by decide)) (Sho.ite ((Yea _ _).mono (by decide)) (Sho.ite ((Yea _ _).mono (by decide)) ((Sho.fail (by decide)).mono (by decide)))))))))
theorem sho_rest (c : Int) : Sho 10 (fun L k => Ydd L c k) :=
 (Sho.ite (Ysf.mono (by decide)) (Sho.ite ((sho_row _).mono (by decide)) (Sho.ite ((Sho.pure _).mono (by decide)) (Sho.ite ((Sho.pure _).mono (by decide)) (Sho.ite ((Sho.pure _).mono (by decide)) (Sho.ite ((Sho.pure _).mono (by decide))
  (Sho.ite ((Sho.bind Yjn fun v => Sho.pure _).mono (by decide)) (Sho.ite ((Sho.bind Yif fun v => Sho.pure _).mono (by decide)) (Sho.ite ((Sho.bind Ydy fun v => Sho.pure _).mono (by decide)) (Yu9 _))))))))))
theorem sho_insn : Sho 11 Ydc := Sho.bind (n := 1) (m := 10) Ye6 sho_rest
theorem Yva {L : List Int} (h : Ycu L = 10) : L.length ≤ 10 := by
 have hl := sho_insn L 0 (Nat.zero_le _)
 unfold Ycu at h
 cases hd : Ydc L 0 with
 |ok i k => rw [hd] at h; simp at h
 |err c =>
  rw [hd] at h hl
  have := hl h
  omega
section
theorem Ykx (i : Ins) (w : World) : Calls Tryz.prog 15 #[.agg i.cells] w fun e w' => e = .returned (.bool (Yen i)) ∧ Upd [] w w' := by
 unfold Ins.cells Yen
 go_enter Tryz.func15, Tryz.ntmps15
 go_wp2
 all_goals (go_ret; refine ⟨?_, (Upd.refl _ _).alloc _⟩; simp_all)
def rvW (w : World) : World := (w.alloc (.cells Ins.zero.cells 42)).alloc (.cells #[.int .i64 0, .int .u32 0, .int .u32 0, .int .i64 0] 32)
theorem rvW_up (w : World) : Upd [] w (rvW w) := ((Upd.refl [] w).alloc _).alloc _
structure RvS (w : World) (v : Value) (L : List Int) (wr : World) : Prop where
 d : Dn (rvW w) v L wr
 r : BOk L
 n : L.length ≤ 16
section
variable {w w1 w2 : World} {v : Value} {L : List Int}
theorem RvS.up (h : RvS w v L w1) : Upd [] w w1 := (rvW_up w).also h.d.u (by simp)
theorem RvS.i (h : RvS w v L w1) : w1.heap[w.heap.size]? = some (.cells Ins.zero.cells 42 (0, 0)) := h.d.u.get (heap_alloc2_old _ _ _) (by simp)
theorem RvS.f (h : RvS w v L w1) : w1.heap[w.heap.size + 1]? = some (.cells #[.int .i64 0, .int .u32 0, .int .u32 0, .int .i64 0] 32 (0, 0)) := h.d.u.get (heap_alloc2_new _ _ _) (by simp)
theorem RvS.step (h : RvS w v L w1) (u : Upd [] w1 w2) : RvS w v L w2 := ⟨h.d.step u, h.r, h.n⟩
theorem RvS.ins (h : RvS w v L w1) {j : Ins} (hw : (w1.alloc (.cells Ins.zero.cells 42)).setCells w1.heap.size 0 j.cells.toList = w2) : RvS w v L w2 ∧ w2.heap[w1.heap.size]? = some (.cells j.cells 42 (0, 0)) := by
 obtain ⟨z1, z2⟩ := Yaw (S := []) (w0 := w1) hw (heap_alloc_new w1 (.cells Ins.zero.cells 42)) rfl ((Upd.refl [] w1).alloc _) (.inr (Nat.le_refl _))
 exact ⟨h.step z2, z1⟩
theorem RvS.grow {v' : Value} {x : Int} (h : RvS w v L w1) (hg : Yhp w1 (rvW w).heap.size v (L ++ [x]) v' w2) (hx : 0 ≤ x ∧ x ≤ 255) (hn : L.length < 16) : RvS w v' (L ++ [x]) w2 :=
 ⟨h.d.grow hg, BOk.app h.r (fun i => by cases i with | zero => simpa using hx | succ i => simp), by simp; omega⟩
theorem RvS.form (h : RvS w v L w1) : ∃ b c, v = .slice b L.length c := by
 obtain ⟨g, hb, _⟩ := h.d.o.barg h.r (by have := h.n; unfold maxLen; omega)
 exact hb.b.form
end
structure RvB (w : World) (fb : Nat) (F : Flt) (w1 : World) : Prop where
 i : w1.heap[w.heap.size]? = some (.cells Ins.zero.cells 42 (0, 0))
 f : w1.heap[w.heap.size + 1]? = some (.cells #[.int .i64 0, .int .u32 0, .int .u32 0, .int .i64 0] 32 (0, 0))
 g : w1.heap[fb]? = some (.cells #[.int .i64 F.k, .int .u32 F.pc, .int .u32 F.a, .int .i64 F.wt] 32 (0, 0))
 u : Upd [] w w1
 l : w.heap.size + 1 < fb
theorem RvB.ins {w w1 w2 : World} {fb : Nat} {F : Flt} (h : RvB w fb F w1) (hw : w1.setCells w.heap.size 0 Ins.zero.cells.toList = w2) : RvB w fb F w2 := by
 obtain ⟨z1, z2⟩ := Yaw hw h.i rfl (Upd.refl [w.heap.size] w1) (.inl (by simp))
 exact ⟨z1, z2.get h.f (by simp), z2.get h.g (by have := h.l; simp; omega), h.u.also z2 (by simp), h.l⟩
theorem RvB.start {w w4 : World} {v : Value} {L : List Int} (h : RvS w v L w4) (F : Flt) : RvB w w4.heap.size F (w4.alloc (.cells #[.int .i64 F.k, .int .u32 F.pc, .int .u32 F.a, .int .i64 F.wt] 32)).drew := by
 have u : Upd [] w4 (w4.alloc (.cells #[.int .i64 F.k, .int .u32 F.pc, .int .u32 F.a, .int .i64 F.wt] 32)).drew := ((Upd.refl [] w4).alloc _).drew
 exact ⟨u.get h.i (by simp), u.get h.f (by simp), ((Upd.refl [] _).drew).get (heap_alloc_new w4 _) (by simp), h.up.also u (by simp), Yt h.f⟩
theorem Yvc {L : List Int} (h : BOk L) : Ycu L = 0 ∨ Ycu L = 10 ∨ Ycu L = 90 ∨ Ycu L = 12 := by
 rw [← (Yeu h).2.1]
 unfold refE
 dsimp only
 split
 ·exact .inr (.inl rfl)
 split
 ·exact .inr (.inr (.inl rfl))
 split
 ·exact .inr (.inr (.inr rfl))
 ·exact .inl rfl
theorem Yhf (M : Mem) (a : Nat) (pc : Int) (w : World) (hM : Ybg w a M) (h0 : 0 ≤ pc ∧ pc < 4294967296) :
  Calls Tryz.prog 16 #[.pointer (some ⟨a, 0, none⟩), .int .u32 pc] w fun e w' => e = .returned (.tuple #[(Yai M pc).i.val, (Yai M pc).f.val, .bool (Yai M pc).k]) ∧ Upd [] w w' := by
 have HM := Yh_ (And.intro hM h0)
 have HS := Yh_ (show RvS w (.slice none 0 0) [] (rvW w) from ⟨Dn.start (Upd.refl [] _), fun i => by simp, by simp⟩)
 clear hM h0
 go_enter Tryz.func16, Tryz.ntmps16
 go_wp2_with fail
 go_loopw [7] (fun v wr => ∃ L, RvS w v L wr ∧ Yai M pc = Yct M pc (16 - L.length) L ∧ L.length ≤ 11) (fun v _ => 16 - (match v with | .slice _ n _ => n | _ => 0))
 case atStart => exact ⟨[], HS.out, rfl, by simp⟩
 case round =>
  obtain ⟨L, hB, hR, hlt⟩ := hrel
  obtain ⟨b, c, rfl⟩ := hB.form
  have HB := Yh_ hB
  have HR := Yh_ hR
  have hn := hB.n
  clear hB hR
  have q1 : (L.length : Int) % 4294967296 = L.length := by omega
  have q2 : (pc + (L.length : Int)) % 4294967296 = Yw pc L.length := rfl
  have hs : 16 - L.length = (15 - L.length) + 1 := by omega
  have tokD : True := trivial
  have tokS : True := trivial
  obtain ⟨J, hJ⟩ : ∃ J, Yha L = J := ⟨_, rfl⟩
  have HI_ := Yh_ hJ
  have HR2 := Yh_ (show Yai M pc = Yct M pc ((15 - L.length) + 1) L by rw [← hs]; exact HR.out)
  have HN := Yh_ hlt
  clear HR hs
  by_cases e0 : Ycu L = 0
  ·have HE := Yh_ e0
   have HV := Yh_ (show Yai M pc = ⟨J, Flt.zero, true⟩ by rw [HR2.out, Yct, if_pos e0, hJ])
   clear e0 hJ hlt hn
   go_wp2_with (first | (have _t := tokD; clear _t; go_at_call 27; obtain ⟨g3, hb3, _⟩ := HB.out.d.o.barg HB.out.r (by have := HB.out.n; unfold maxLen; omega); have HB3 := Yh_ hb3; clear hb3; refine (Ygq (.slice b L.length c) L g3 _ HB3.out).mono ?_; rintro e w2 ⟨rfl, hu⟩; rw [(Yeu HB.out.r).1, (Yeu HB.out.r).2.1, HE.out, HI_.out]; have B2 := Yh_ (HB.out.step hu); clear hu tokD HB) | (have _t := B2; clear _t; refine Ye 42 rfl ?_; refine Yb J w2.heap.size rfl _ _ rfl rfl rfl (heap_alloc_new w2 (.cells Ins.zero.cells 42)) rfl ?_; intro w3 hw; have B3 := Yh_ (B2.out.ins hw); clear hw B2) | (have _t := B3; clear _t; refine Ybr 42 rfl ?_; refine Yaq J w2.heap.size rfl _ rfl rfl B3.out.2 ?_) | (have _t := tokS; have _t2 := B3; clear _t _t2; refine Ye 42 rfl ?_; refine Yb J w.heap.size rfl _ _ rfl rfl rfl B3.out.1.i rfl ?_; intro w5 hw; have h5 := Yaw hw B3.out.1.i rfl (Upd.refl [w.heap.size] w3) (.inl (by simp)); have B5 := Yh_ (And.intro h5.1 (And.intro (h5.2.get B3.out.1.f (by simp)) (B3.out.1.up.also h5.2 (by simp)))); clear hw h5 B3 tokS; have cf := Ya B5.out.2.1; have ff := Yh B5.out.2.1))
   exact bodyPost_ret (Yas rfl (Yi 4 w.heap.size J rfl ((Ya0 (S := [w.heap.size + 1]) (Upd.refl _ w5) (.inl (by simp)) _ _ _ _).get B5.out.1 (by simp))) (Yb3 5 (w.heap.size + 1) ⟨0, 0, 0, 0⟩ rfl (Ycf B5.out.2.1 _ _ _ _)) (Yj 6 rfl)) rfl ⟨by rw [HV.out]; rfl, Ya0 B5.out.2.2 (.inr (by omega)) _ _ _ _⟩
  have hJz : J = Ins.zero := by rw [← hJ]; exact (Ytb L e0).2
  have hd0 : (Ycu L == 0) = false := by simpa using e0
  by_cases e1 : Ycu L = 90
  ·have HE := Yh_ e1
   have HV := Yh_ (show Yai M pc = ⟨J, ⟨3, pc, 0, 0⟩, false⟩ by rw [HR2.out, Yct, if_neg e0, if_pos e1, hJz])
   clear e0 e1 hJ hlt hn hd0 hJz
   go_wp2_with (first | (have _t := tokD; clear _t; go_at_call 27; obtain ⟨g3, hb3, _⟩ := HB.out.d.o.barg HB.out.r (by have := HB.out.n; unfold maxLen; omega); have HB3 := Yh_ hb3; clear hb3; refine (Ygq (.slice b L.length c) L g3 _ HB3.out).mono ?_; rintro e w2 ⟨rfl, hu⟩; rw [(Yeu HB.out.r).1, (Yeu HB.out.r).2.1, HE.out, HI_.out]; have B2 := Yh_ (HB.out.step hu); clear hu tokD HB) | (have _t := B2; clear _t; refine Ye 42 rfl ?_; refine Yb J w2.heap.size rfl _ _ rfl rfl rfl (heap_alloc_new w2 (.cells Ins.zero.cells 42)) rfl ?_; intro w3 hw; have B3 := Yh_ (B2.out.ins hw); clear hw B2) | (have _t := B3; clear _t; refine Ybr 42 rfl ?_; refine Yaq J w2.heap.size rfl _ rfl rfl B3.out.2 ?_) | (have _t := tokS; have _t2 := B3; clear _t _t2; refine Ye 42 rfl ?_; refine Yb J w.heap.size rfl _ _ rfl rfl rfl B3.out.1.i rfl ?_; intro w5 hw; have h5 := Yaw hw B3.out.1.i rfl (Upd.refl [w.heap.size] w3) (.inl (by simp)); have B5 := Yh_ (And.intro h5.1 (And.intro (h5.2.get B3.out.1.f (by simp)) (B3.out.1.up.also h5.2 (by simp)))); clear hw h5 B3 tokS; have cf := Ya B5.out.2.1; have ff := Yh B5.out.2.1))
   exact bodyPost_ret (Yas rfl (Yi 4 w.heap.size J rfl ((Ya0 (S := [w.heap.size + 1]) (Upd.refl _ w5) (.inl (by simp)) _ _ _ _).get B5.out.1 (by simp))) (Yb3 5 (w.heap.size + 1) ⟨3, pc, 0, 0⟩ rfl (Ycf B5.out.2.1 _ _ _ _)) (Yj 6 rfl)) rfl ⟨by rw [HV.out]; rfl, Ya0 B5.out.2.2 (.inr (by omega)) _ _ _ _⟩
  by_cases e2 : Ycu L = 12
  ·have HE := Yh_ e2
   have HV := Yh_ (show Yai M pc = ⟨J, ⟨4, pc, 0, 0⟩, false⟩ by rw [HR2.out, Yct, if_neg e0, if_neg e1, if_pos e2, hJz])
   clear e0 e1 e2 hJ hlt hn hd0 hJz
   go_wp2_with (first | (have _t := tokD; clear _t; go_at_call 27; obtain ⟨g3, hb3, _⟩ := HB.out.d.o.barg HB.out.r (by have := HB.out.n; unfold maxLen; omega); have HB3 := Yh_ hb3; clear hb3; refine (Ygq (.slice b L.length c) L g3 _ HB3.out).mono ?_; rintro e w2 ⟨rfl, hu⟩; rw [(Yeu HB.out.r).1, (Yeu HB.out.r).2.1, HE.out, HI_.out]; have B2 := Yh_ (HB.out.step hu); clear hu tokD HB) | (have _t := B2; clear _t; refine Ye 42 rfl ?_; refine Yb J w2.heap.size rfl _ _ rfl rfl rfl (heap_alloc_new w2 (.cells Ins.zero.cells 42)) rfl ?_; intro w3 hw; have B3 := Yh_ (B2.out.ins hw); clear hw B2) | (have _t := B3; clear _t; refine Ybr 42 rfl ?_; refine Yaq J w2.heap.size rfl _ rfl rfl B3.out.2 ?_) | (have _t := tokS; have _t2 := B3; clear _t _t2; refine Ye 42 rfl ?_; refine Yb J w.heap.size rfl _ _ rfl rfl rfl B3.out.1.i rfl ?_; intro w5 hw; have h5 := Yaw hw B3.out.1.i rfl (Upd.refl [w.heap.size] w3) (.inl (by simp)); have B5 := Yh_ (And.intro h5.1 (And.intro (h5.2.get B3.out.1.f (by simp)) (B3.out.1.up.also h5.2 (by simp)))); clear hw h5 B3 tokS; have cf := Ya B5.out.2.1; have ff := Yh B5.out.2.1))
   exact bodyPost_ret (Yas rfl (Yi 4 w.heap.size J rfl ((Ya0 (S := [w.heap.size + 1]) (Upd.refl _ w5) (.inl (by simp)) _ _ _ _).get B5.out.1 (by simp))) (Yb3 5 (w.heap.size + 1) ⟨4, pc, 0, 0⟩ rfl (Ycf B5.out.2.1 _ _ _ _)) (Yj 6 rfl)) rfl ⟨by rw [HV.out]; rfl, Ya0 B5.out.2.2 (.inr (by omega)) _ _ _ _⟩
  have hee : Ycu L = 10 := by rcases Yvc HB.out.r with h | h | h | h <;> first | exact absurd h e0 | exact h | exact absurd h e1 | exact absurd h e2
  have HL10 := Yh_ (Yva hee)
  have HE := Yh_ hee
  obtain ⟨x, hx⟩ : ∃ x, M.readV (Yw pc L.length) 1 4 = x := ⟨_, rfl⟩
  have HX := Yh_ hx
  have hxr := Yks HM.out.1.ok (Yw pc L.length) 4
  rw [hx] at hxr
  have q3 : x % 256 = x := by omega
  obtain ⟨⟨fk, fp, fa, fw⟩, hF⟩ : ∃ F, M.rdF (Yw pc L.length) 1 4 = F := ⟨_, rfl⟩
  have HF := Yh_ hF
  cases hk : M.readK (Yw pc L.length) 1 4
  ·have HK := Yh_ hk
   have HV := Yh_ (show Yai M pc = ⟨Ins.zero, ⟨fk, pc, fa, fw⟩, false⟩ by rw [HR2.out, Yct, if_neg e0, if_neg e1, if_neg e2, if_neg (by rw [hk]; simp), hF])
   clear e0 e1 e2 hJ hlt hn hk hF hx hee hd0 hJz
   go_wp2_with (first | (have _t := tokD; clear _t; go_at_call 27; obtain ⟨g3, hb3, _⟩ := HB.out.d.o.barg HB.out.r (by have := HB.out.n; unfold maxLen; omega); have HB3 := Yh_ hb3; clear hb3; refine (Ygq (.slice b L.length c) L g3 _ HB3.out).mono ?_; rintro e w2 ⟨rfl, hu⟩; rw [(Yeu HB.out.r).1, (Yeu HB.out.r).2.1, HE.out, HI_.out]; have B2 := Yh_ (HB.out.step hu); clear hu tokD HB) | (have _t := B2; clear _t; refine Ye 42 rfl ?_; refine Yb J w2.heap.size rfl _ _ rfl rfl rfl (heap_alloc_new w2 (.cells Ins.zero.cells 42)) rfl ?_; intro w3 hw; have B3 := Yh_ (B2.out.ins hw); clear hw B2) | (have _t := B3; clear _t; go_at_call 28; refine (Yn2 M a (Yw pc L.length) 1 4 _ (HM.out.1.keep B3.out.1.up (by simp)) (Ybf _ _) (Yns _ _)).mono ?_; rintro e w4 ⟨rfl, hu⟩; rw [HF.out, HK.out, HX.out]; unfold Flt.val; have B4 := Yh_ (B3.out.1.step hu); clear hu B3))
   refine Ybc 3 (RvB w w4.heap.size ⟨fk, pc, fa, fw⟩) (fun _ _ => False) (by kernel_rfl) (by decide +kernel) (RvB.start B4.out ⟨fk, pc, fa, fw⟩) (fun _ _ _ h => h.elim) ?_
   simp only [List.take_succ_cons, List.take_zero, List.drop_succ_cons, List.drop_zero]
   apply Yae rfl rfl
   ·intro K hK w5 hB1
    have HB2 := Yh_ hB1
    clear hB1
    go_wp2_with fail
    first
    |exact hK _ HB2.out
    |exact HB2.out
   ·exact ⟨_, rfl⟩
   apply Yae rfl rfl
   ·intro K hK w5 hB1
    have c5 := Ya hB1.g
    have HB2 := Yh_ hB1
    clear hB1
    go_wp2_with fail
    first
    |exact hK _ HB2.out
    |exact HB2.out
   ·exact ⟨_, rfl⟩
   apply Yae rfl rfl
   ·intro K hK w5 hB1
    refine Ya8 Ins.zero w.heap.size _ _ rfl rfl rfl hB1.i rfl ?_
    intro w6 hw
    exact hK _ (hB1.ins hw)
   ·exact ⟨_, rfl⟩
   refine Yav (fun _ w5 hB1 => ?_)
   have c5 := Ya hB1.f
   have f5 := Yh hB1.f
   have HB2 := Yh_ hB1
   clear hB1
   go_wp2_with fail
   exact bodyPost_ret (Yas rfl (Yi 4 w.heap.size Ins.zero rfl ((Ya0 (S := [w.heap.size + 1]) (Upd.refl _ w5) (.inl (by simp)) _ _ _ _).get HB2.out.i (by simp))) (Yb3 5 (w.heap.size + 1) ⟨fk, pc, fa, fw⟩ rfl (Ycf HB2.out.f _ _ _ _)) (Yj 6 rfl)) rfl ⟨by rw [HV.out]; rfl, Ya0 HB2.out.u (.inr (by omega)) _ _ _ _⟩
  ·have HK := Yh_ hk
   have HV := Yh_ (show Yai M pc = Yct M pc (15 - L.length) (L ++ [x]) by rw [HR2.out, Yct, if_neg e0, if_neg e1, if_neg e2, if_pos hk, hx])
   clear e0 e1 e2 hJ hlt hn hk hF hx hee hd0 hJz
   have HXR := Yh_ hxr
   go_wp2_with (first | (have _t := tokD; clear _t; go_at_call 27; obtain ⟨g3, hb3, _⟩ := HB.out.d.o.barg HB.out.r (by have := HB.out.n; unfold maxLen; omega); have HB3 := Yh_ hb3; clear hb3; refine (Ygq (.slice b L.length c) L g3 _ HB3.out).mono ?_; rintro e w2 ⟨rfl, hu⟩; rw [(Yeu HB.out.r).1, (Yeu HB.out.r).2.1, HE.out, HI_.out]; have B2 := Yh_ (HB.out.step hu); clear hu tokD HB) | (have _t := B2; clear _t; refine Ye 42 rfl ?_; refine Yb J w2.heap.size rfl _ _ rfl rfl rfl (heap_alloc_new w2 (.cells Ins.zero.cells 42)) rfl ?_; intro w3 hw; have B3 := Yh_ (B2.out.ins hw); clear hw B2) | (have _t := B3; clear _t; go_at_call 28; refine (Yn2 M a (Yw pc L.length) 1 4 _ (HM.out.1.keep B3.out.1.up (by simp)) (Ybf _ _) (Yki _ _)).mono ?_; rintro e w4 ⟨rfl, hu⟩; rw [HF.out, HK.out, HX.out]; unfold Flt.val; have B4 := Yh_ (B3.out.1.step hu); clear hu B3) | (have _t := B4; clear _t; at_builtin; refine Yh7 rfl _ _ rfl (rvW w).heap.size (.slice b L.length c) L rfl ((B4.out.step (((Upd.refl [] w4).alloc (.cells #[.int .i64 fk, .int .u32 fp, .int .u32 fa, .int .i64 fw] 32)).alloc (.cells #[.int .u8 x] 5))).d.o) (.slice (some ⟨w4.heap.size + 1, 0, none⟩) 1 1) [x] (w4.heap.size + 1) rfl (Ynp w4 (.cells #[.int .i64 fk, .int .u32 fp, .int .u32 fa, .int .i64 fw] 32) x _) (by have := HN.out; simp; omega) (by have := B4.out.d.u.size; simp; omega) ?_; intro v2 w6 hg; have B6 := Yh_ ((B4.out.step (((Upd.refl [] w4).alloc (.cells #[.int .i64 fk, .int .u32 fp, .int .u32 fa, .int .i64 fw] 32)).alloc (.cells #[.int .u8 x] 5))).grow hg HXR.out (by have := HN.out; omega)); clear hg B4))
   obtain ⟨b2, c2, hv2⟩ := B6.out.form
   subst hv2
   exact ⟨⟨L ++ [x], B6.out, by rw [HV.out, show 16 - (L ++ [x]).length = 15 - L.length from by rw [List.length_append]; simp only [List.length_cons, List.length_nil]; omega], by have := HL10.out; rw [List.length_append]; simp only [List.length_cons, List.length_nil]; omega⟩, by have := HN.out; rw [List.length_append]; simp only [List.length_cons, List.length_nil]; omega⟩
end
theorem Ytt (M : Mem) (pc : Int) (n : Nat) (L : List Int) (h : (Yct M pc n L).k = true) : 1 ≤ (Yct M pc n L).i.len ∧ (Yct M pc n L).i.len ≤ 15 := by
 induction n generalizing L with
 |zero => simp [Yct] at h
 |succ n ih =>
  unfold Yct at h ⊢
  by_cases e0 : Ycu L = 0
  ·rw [if_pos e0]
   obtain ⟨a, b, _, d, _⟩ := Yty L e0
   simp only [d]
   omega
  rw [if_neg e0] at h ⊢
  by_cases e1 : Ycu L = 90
  ·rw [if_pos e1] at h; simp at h
  rw [if_neg e1] at h ⊢
  by_cases e2 : Ycu L = 12
  ·rw [if_pos e2] at h; simp at h
  rw [if_neg e2] at h ⊢
  by_cases hk : M.readK (Yw pc L.length) 1 4 = true
  ·rw [if_pos hk] at h ⊢
   exact ih _ h
  ·rw [if_neg hk] at h; simp at h
theorem Yj2 {M : Mem} {pc : Int} (h : (Yai M pc).k = true) : 1 ≤ (Yai M pc).i.len ∧ (Yai M pc).i.len ≤ 15 := Ytt M pc 16 [] h
def Yev (pc at_ : Int) (row : List Ins) : Bool := decide (row.length < 8) && (!Yen (row.getD (row.length - 1) Ins.zero) && ((at_ - 1) % 4294967296 / 256 == pc / 256))
def Yfh (pc at_ : Int) (r : FeR) : Bool := r.k && ((at_ + r.i.len - 1) % 4294967296 / 256 == pc / 256)
def Yee (M : Mem) (pc : Int) : Nat → List Ins → Int → List Ins
 |0, row, _ => row
 |n + 1, row, at_ => if Yev pc at_ row = true ∧ Yfh pc at_ (Yai M at_) = true then Yee M pc n (row ++ [(Yai M at_).i]) ((at_ + (Yai M at_).i.len) % 4294967296) else row
def Ybi (M : Mem) (pc : Int) : List Ins := if (Yai M pc).k = true then Yee M pc 8 [(Yai M pc).i] ((pc + (Yai M pc).i.len) % 4294967296) else []
def Yf4 (M : Mem) (pc : Int) : Flt := if (Yai M pc).k = true then Flt.zero else (Yai M pc).f
def Ygs (M : Mem) (pc : Int) : Bool := (Yai M pc).k
theorem Ynq (i : Ins) (w : World) : (Instr.buildSlice 30 1 #[(0, .agg i.cells)]).run Tryz.prog w = .ok (.slice (some ⟨w.heap.size, 0, none⟩) 1 1) (w.alloc (.cells i.cells 42)) := by
 unfold Ins.cells
 kernel_rfl
theorem Yjt (w : World) (ty : TypeId) (b o dLen dCap : Nat) (a : Addr) (sLen sCap : Nat) (cs : List Value) (hn : cs.length = Nat.min sLen dLen * 16)
  (hsrc : ∀ j v, cs[j]? = some v → w.cell? (a.add j) = some v) (hc : ∀ j, j < cs.length → (w.cell? ⟨b, o + j, none⟩).isSome = true) (hf : ∀ j, j < cs.length → w.frozen? ⟨b, o + j, none⟩ = false) (h1 : ∀ v ∈ cs, v.oneCell' = true) :
  (Builtin.copy_ #[30, 30] ty #[.slice (some ⟨b, o, none⟩) dLen dCap, .slice (some a) sLen sCap]).run Tryz.prog w = .ok (goInt (Nat.min sLen dLen)) (w.setCells b o cs) := by
 have hl := run_loadCells_list (P := Tryz.prog) w a cs hsrc
 have hst := run_storeCells_cells (P := Tryz.prog) b o cs 0 w (by simpa using hc) (by simpa using hf) h1
 have hi := Yd2
 cases hq : Tryz.prog.info? 42 with
 |none => simp [hq] at hi
 |some i =>
  have hi : i.size = 16 := by simpa [hq] using hi
  simp [Builtin.copy_, run_underlying Tryz.underlying30, Builtin.lenOf, Builtin.firstCells, sizeOf, typeInfo, hq, hi, ← hn, hl, hst]
theorem Yil {op : Oper} {a : Act} {w : World} {K : Act → World → Prop} {Q : Exit → Act → World → Prop} (i : Ins) (x : Operand) (ho : op.op = .buildSlice 30 1 #[(0, x)]) (hx : a.eval x = .agg i.cells)
  (hK : K (a.put op.dst (.slice (some ⟨w.heap.size, 0, none⟩) 1 1)) (w.alloc (.cells i.cells 42))) : op.wp Tryz.prog a w K Q := by
 unfold Oper.wp execOp
 simp only [ho, List.map_toArray, List.map_cons, List.map_nil, hx, Sem.run_bind, Ynq, Result.andThen_ok, Sem.run_pure]
 exact hK
theorem Yli {ops : Array Oper} {rest : List Oper} {o : Oper} {a : Act} {w : World} {Q : Exit → Act → World → Prop} (hgd : o.guard = none) (s x : Operand)
  (ho : o.op = .call { callee := .builtin .copy, args := #[s, x], argTypes := #[30, 30] })
  (b off dLen dCap : Nat) (ad : Addr) (sLen sCap : Nat) (cs : List Value) (hs : a.eval s = .slice (some ⟨b, off, none⟩) dLen dCap) (hx : a.eval x = .slice (some ad) sLen sCap) (hn : cs.length = Nat.min sLen dLen * 16)
  (hsrc : ∀ j v, cs[j]? = some v → w.cell? (ad.add j) = some v) (hc : ∀ j, j < cs.length → (w.cell? ⟨b, off + j, none⟩).isSome = true) (hf : ∀ j, j < cs.length → w.frozen? ⟨b, off + j, none⟩ = false) (h1 : ∀ v ∈ cs, v.oneCell' = true)
  (h : ∀ w', w.setCells b off cs = w' → wpList Tryz.prog ops Q rest (a.put o.dst (goInt (Nat.min sLen dLen))) w') : wpList Tryz.prog ops Q (o :: rest) a w := by
 refine wpList_plain hgd fun _ hK => ?_
 unfold Oper.wp execOp
 simp only [ho, resolve, invoke, builtin, Sem.run_bind, Sem.run_pure, Result.andThen_ok, List.map_toArray, List.map_cons, List.map_nil, hs, hx, Yjt w o.type b off dLen dCap ad sLen sCap cs hn hsrc hc hf h1]
 exact hK _ _ (h _ rfl)
theorem wr_get' (c : Array Value) (o : Nat) (l : List Value) (h : o + l.length ≤ c.size) (k : Nat) : (wr c o l)[k]? = if o ≤ k ∧ k < o + l.length then l[k - o]? else c[k]? := Yhh l c o k h
structure RvR where
 l : List Ins
 f : Flt
 k : Bool
def Ydn (M : Mem) (pc : Int) : Nat → List Ins → Int → RvR
 |0, row, _ => ⟨row, Flt.zero, true⟩
 |n + 1, row, x =>
  if (Yai M x).k = true then
   if 0 < row.length ∧ (x + (Yai M x).i.len - 1) % 4294967296 / 256 ≠ pc / 256 then ⟨row, Flt.zero, true⟩
   else if Yen (Yai M x).i = true ∨ (x + (Yai M x).i.len - 1) % 4294967296 / 256 ≠ pc / 256 then ⟨row ++ [(Yai M x).i], Flt.zero, true⟩
   else Ydn M pc n (row ++ [(Yai M x).i]) ((x + (Yai M x).i.len) % 4294967296)
  else ⟨row, (Yai M x).f, decide (0 < row.length)⟩
def Ydt (M : Mem) (pc : Int) : RvR := Ydn M pc 8 [] pc
theorem Yhu {pc x : Int} {row : List Ins} {i : Ins} : Yev pc x (row ++ [i]) = true ↔ row.length < 7 ∧ Yen i = false ∧ (x - 1) % 4294967296 / 256 = pc / 256 := by
 have h : (row ++ [i]).getD ((row ++ [i]).length - 1) Ins.zero = i := by
  rw [List.getD_eq_getElem?_getD, List.length_append]
  simp
 unfold Yev
 rw [h]
 simp only [List.length_append, List.length_cons, List.length_nil, Bool.and_eq_true, decide_eq_true_eq, Bool.not_eq_true', beq_iff_eq]
 exact ⟨fun h => ⟨by omega, h.2.1, h.2.2⟩, fun h => ⟨by omega, h.2.1, h.2.2⟩⟩
theorem Ytf {M : Mem} {pc : Int} (m : Nat) : ∀ (n : Nat) (row : List Ins) (i : Ins) (x : Int), row.length + 1 + m = 8 → m ≤ n → Yen i = false → (x - 1) % 4294967296 / 256 = pc / 256 →
  (Ydn M pc m (row ++ [i]) x).l = Yee M pc n (row ++ [i]) x ∧ (Ydn M pc m (row ++ [i]) x).k = true := by
 induction m with
 |zero =>
  intro n row i x h1 h2 h3 h4
  refine ⟨?_, rfl⟩
  have : ¬ (Yev pc x (row ++ [i]) = true) := by rw [Yhu]; omega
  cases n with
  |zero => rfl
  |succ n => rw [Yee, if_neg (by exact fun h => this h.1)]; rfl
 |succ m ih =>
  intro n row i x h1 h2 h3 h4
  obtain ⟨n, rfl⟩ : ∃ k, n = k + 1 := ⟨n - 1, by omega⟩
  have hg : Yev pc x (row ++ [i]) = true := by rw [Yhu]; exact ⟨by omega, h3, h4⟩
  rw [Ydn, Yee]
  by_cases hk : (Yai M x).k = true
  ·rw [if_pos hk]
   by_cases hp : (x + (Yai M x).i.len - 1) % 4294967296 / 256 = pc / 256
   ·have hb : Yfh pc x (Yai M x) = true := by rw [Yfh, hk, hp]; simp
    rw [if_neg (by intro h; exact h.2 hp), if_pos (And.intro hg hb)]
    by_cases he : Yen (Yai M x).i = true
    ·rw [if_pos (.inl he)]
     refine ⟨?_, rfl⟩
     have : ¬ (Yev pc ((x + (Yai M x).i.len) % 4294967296) ((row ++ [i]) ++ [(Yai M x).i]) = true) := by rw [Yhu, he]; simp
     cases n with
     |zero => rfl
     |succ n => rw [Yee, if_neg (by exact fun h => this h.1)]
    ·rw [if_neg (by intro h; exact h.elim he (fun h => h hp))]
     exact ih n (row ++ [i]) _ _ (by simp; omega) (by omega) (by simpa using he) (by rw [← hp]; congr 1; omega)
   ·have hb : ¬ (Yfh pc x (Yai M x) = true) := by rw [Yfh, hk]; simp [hp]
    rw [if_pos ⟨by simp, hp⟩, if_neg (by exact fun h => hb h.2)]
    exact ⟨rfl, rfl⟩
  ·have hb : ¬ (Yfh pc x (Yai M x) = true) := by rw [Yfh]; simp [hk]
   rw [if_neg hk, if_neg (by exact fun h => hb h.2)]
   refine ⟨rfl, ?_⟩
   simp
theorem Yho (M : Mem) (pc : Int) : (Ydt M pc).l = Ybi M pc ∧ (Ydt M pc).k = Ygs M pc ∧ (Ygs M pc = false → (Ydt M pc).f = Yf4 M pc) := by
 unfold Ydt Ybi Yf4 Ygs
 rw [show (8 : Nat) = 7 + 1 from rfl, Ydn]
 by_cases hk : (Yai M pc).k = true
 ·rw [if_pos hk, if_neg (by intro h; exact absurd h.1 (by simp)), if_pos hk, hk]
  rw [List.nil_append]
  by_cases hq : Yen (Yai M pc).i = true ∨ (pc + (Yai M pc).i.len - 1) % 4294967296 / 256 ≠ pc / 256
  ·rw [if_pos hq]
   refine ⟨?_, rfl, by simp⟩
   have : ¬ (Yev pc ((pc + (Yai M pc).i.len) % 4294967296) ([] ++ [(Yai M pc).i]) = true) := by
    rw [Yhu]
    rintro ⟨_, h1, h2⟩
    rcases hq with h | h
    ·rw [h1] at h; simp at h
    ·refine h ?_; rw [← h2]; congr 1; omega
   rw [Yee, if_neg (by exact fun h => this h.1)]
  ·rw [if_neg hq]
   have h1 : Yen (Yai M pc).i = false := by simpa using fun h => hq (.inl h)
   have h2 : (pc + (Yai M pc).i.len - 1) % 4294967296 / 256 = pc / 256 := Decidable.byContradiction fun h => hq (.inr h)
   obtain ⟨z1, z2⟩ := Ytf (M := M) (pc := pc) 7 8 [] (Yai M pc).i ((pc + (Yai M pc).i.len) % 4294967296) rfl (by decide) h1 (by rw [← h2]; congr 1; omega)
   exact ⟨z1, z2, by simp⟩
 ·rw [if_neg hk, if_neg hk, if_neg hk]
  refine ⟨rfl, ?_, fun _ => rfl⟩
  simp [hk]
end Go.Proofs.YteiplidhkelkbaaGreat
