/-
  Parts of the proof (their names shortened by a program). No condition.
-/
import Derived.Test.YteiplidhkelkbaaGreatMg01
import Derived.Test.YteiplidhkelkbaaGreatMg27
import Derived.Test.YteiplidhkelkbaaGreatMg15
import Derived.Test.YteiplidhkelkbaaGreatMg21
import Derived.Test.YteiplidhkelkbaaGreatMg06
namespace Go.Proofs.YteiplidhkelkbaaGreat
open Go Go.RowKit
set_option linter.unusedVariables false
set_option linter.unusedSimpArgs false
set_option maxRecDepth 100000
set_option maxHeartbeats 16000000
theorem Upd.over_alloc {w w2 : World} {o : Obj} (hU : Upd [] (w.alloc o) w2) : w2.heap[w.heap.size]? = some o ∧ Upd [] w w2 ∧ w.heap.size < w2.heap.size := by
 have h := hU.size
 have h2 : (w.alloc o).heap.size = w.heap.size + 1 := by simp
 exact ⟨hU.get (heap_alloc_new _ _) (by simp), ((Upd.refl [] w).alloc o).also hU (by simp), by omega⟩
theorem Yni (M : Mem) (r : Nat) (x b rt : Int) (w : World) (hM : Ybh w r M) (h0 : 0 ≤ x) (h1 : x < 4294967296) :
  Calls Tryz.prog 28 #[.pointer (some ⟨r, 0, none⟩), .int .u32 x, .int .i64 b, .int .i64 rt] w fun e w' => e = .returned (.tuple #[.int .u32 (M.readV x b rt), (M.rdF x b rt).val, .bool (M.readK x b rt)]) ∧ Upd [] w w' := by
 have hmo : Tryz.prog.follows .mixedOrders = true := by kernel_rfl
 obtain ⟨n, hn⟩ : ∃ n : Nat, Yb3 b = n := ⟨(Yb3 b).toNat, by have := Yih b; omega⟩
 have hn4 : n ≤ 4 := by have := Yih b; omega
 have hnt : (Yb3 b).toNat = n := by omega
 obtain ⟨q, hq⟩ : ∃ q, Ybo rt = q := ⟨_, rfl⟩
 have hqm := hq ▸ Ygo rt
 have HQ0 := Yh_ (show 0 ≤ q by omega)
 have HQ7 := Yh_ (show q ≤ 7 by omega)
 have HF := Yh_ (hq ▸ hnt ▸ canF_rdF hM.ok x b rt)
 have HK := Yh_ (hq ▸ hnt ▸ Ys0 hM.ok x b rt)
 have HN := Yh_ hn
 have HNT := Yh_ hnt
 have HM := Yh_ hM
 have hr := hM.lt
 have h3 : (rt = 2 ∧ q = 2) ∨ (rt = 4 ∧ q = 4) ∨ (rt ≠ 2 ∧ rt ≠ 4 ∧ q = 1) := by
  by_cases hr : rt = 2
  ·exact .inl ⟨hr, by rw [← hq, hr]; rfl⟩
  ·by_cases hr4 : rt = 4
   ·exact .inr (.inl ⟨hr4, by rw [← hq, hr4]; rfl⟩)
   ·exact .inr (.inr ⟨hr, hr4, by rw [← hq]; simp [Ybo, hr, hr4]⟩)
 have HQ := Yh_ hq
 clear hM hn hnt hq hqm
 cases hk : M.readK x b rt
 ·have HW := Yh_ hk
  have HV := Yh_ (show M.readV x b rt = 0 by
   rw [Mem.readV]; rw [Mem.readK] at hk
   cases h : M.bad x (Ybo rt) (Yb3 b).toNat with
   |none => rw [h] at hk; cases hk
   |some i => rfl)
  clear hk
  obtain ⟨F, hF⟩ : ∃ F, M.rdF x b rt = F := ⟨_, rfl⟩
  have HF2 := Yh_ (HF.out.trans hF)
  rw [hF]
  clear HF hF
  rcases h3 with ⟨rfl, rfl⟩ | ⟨rfl, rfl⟩ | ⟨g2, g4, rfl⟩
  ·have HF := HF2
   clear HF2
   go_enter Tryz.func28, Tryz.ntmps28
   go_wp2_with (first | (go_at_call 39; refine (Ygw b _).mono ?_; rintro e w2 ⟨rfl, rfl⟩; rw [HN.out]) | (go_at_call 40; (refine (Yga M r n x 2 _ (HM.out.keep ((Upd.refl [] _).alloc _) (by simp)) h0 h1 (by omega) HQ0.out HQ7.out).mono ?_; rintro e w2 ⟨rfl, hU⟩; rw [HF.out, HK.out, HW.out]; unfold Flt.val; obtain ⟨h8, hu, hs2⟩ := hU.over_alloc; have HU := Yh_ hu; have H8 := Yh_ h8; have cf := Ya h8; have ff := Yh h8; clear hU hu h8)))
   refine Ybc 2 (fun w1 => Upd [] w w1 ∧ w1.heap[w.heap.size]? = some (.cells #[.int .i64 0, .int .u32 0, .int .u32 0, .int .i64 0] 32 (0, 0)) ∧ w1.heap[w2.heap.size]? = some (.cells #[.int .i64 F.k, .int .u32 F.pc, .int .u32 F.a, .int .i64 F.wt] 32 (0, 0))) (fun _ _ => False) (by kernel_rfl) (by kernel_rfl) ⟨(HU.out.alloc _).drew, Yc _ H8.out, heap_alloc_new _ _⟩ (fun _ _ _ h => h.elim) ?_
   simp only [List.take_succ_cons, List.take_zero, List.drop_succ_cons, List.drop_zero]
   repeat
    apply Yao rfl rfl
    ·intro K hK w1 hB1
     have cg := Ya hB1.2.2
     have HB1 := Yh_ hB1
     clear hB1
     go_wp2_with fail
     exact HB1.out
    ·exact ⟨_, rfl⟩
   refine Yaw (fun _ w1 hB1 => ?_)
   have cf := Ya hB1.2.1
   have ff := Yh hB1.2.1
   have HB1 := Yh_ hB1
   clear hB1
   go_wp2_with fail
   have hE := Yap (b := w.heap.size) HB1.out.1 (.inr (Nat.le_refl _)) (.int .i64 F.k) (.int .u32 F.pc) (.int .u32 F.a) (.int .i64 F.wt)
   have hF := Ycx HB1.out.2.1 (.int .i64 F.k) (.int .u32 F.pc) (.int .u32 F.a) (.int .i64 F.wt)
   refine bodyPost_ret (v := .tuple #[.int .u32 0, F.val, .bool false]) (Ya3 rfl (Yk 8 rfl) (Ycp 9 w.heap.size F rfl hF) (Yk 10 rfl)) rfl ⟨by rw [HV.out], hE⟩
  ·have HF := HF2
   clear HF2
   go_enter Tryz.func28, Tryz.ntmps28
   go_wp2_with (first | (go_at_call 39; refine (Ygw b _).mono ?_; rintro e w2 ⟨rfl, rfl⟩; rw [HN.out]) | (go_at_call 40; (refine (Yga M r n x 4 _ (HM.out.keep ((Upd.refl [] _).alloc _) (by simp)) h0 h1 (by omega) HQ0.out HQ7.out).mono ?_; rintro e w2 ⟨rfl, hU⟩; rw [HF.out, HK.out, HW.out]; unfold Flt.val; obtain ⟨h8, hu, hs2⟩ := hU.over_alloc; have HU := Yh_ hu; have H8 := Yh_ h8; have cf := Ya h8; have ff := Yh h8; clear hU hu h8)))
   refine Ybc 2 (fun w1 => Upd [] w w1 ∧ w1.heap[w.heap.size]? = some (.cells #[.int .i64 0, .int .u32 0, .int .u32 0, .int .i64 0] 32 (0, 0)) ∧ w1.heap[w2.heap.size]? = some (.cells #[.int .i64 F.k, .int .u32 F.pc, .int .u32 F.a, .int .i64 F.wt] 32 (0, 0))) (fun _ _ => False) (by kernel_rfl) (by kernel_rfl) ⟨(HU.out.alloc _).drew, Yc _ H8.out, heap_alloc_new _ _⟩ (fun _ _ _ h => h.elim) ?_
   simp only [List.take_succ_cons, List.take_zero, List.drop_succ_cons, List.drop_zero]
   repeat
    apply Yao rfl rfl
    ·intro K hK w1 hB1
     have cg := Ya hB1.2.2
     have HB1 := Yh_ hB1
     clear hB1
     go_wp2_with fail
     exact HB1.out
    ·exact ⟨_, rfl⟩
   refine Yaw (fun _ w1 hB1 => ?_)
   have cf := Ya hB1.2.1
   have ff := Yh hB1.2.1
   have HB1 := Yh_ hB1
   clear hB1
   go_wp2_with fail
   have hE := Yap (b := w.heap.size) HB1.out.1 (.inr (Nat.le_refl _)) (.int .i64 F.k) (.int .u32 F.pc) (.int .u32 F.a) (.int .i64 F.wt)
   have hF := Ycx HB1.out.2.1 (.int .i64 F.k) (.int .u32 F.pc) (.int .u32 F.a) (.int .i64 F.wt)
   refine bodyPost_ret (v := .tuple #[.int .u32 0, F.val, .bool false]) (Ya3 rfl (Yk 8 rfl) (Ycp 9 w.heap.size F rfl hF) (Yk 10 rfl)) rfl ⟨by rw [HV.out], hE⟩
  ·have g2' : (rt == 2) = false := by simpa using g2
   have g4' : (rt == 4) = false := by simpa using g4
   have g2n : (rt != 2) = true := by simpa using g2
   have g4n : (rt != 4) = true := by simpa using g4
   clear g2 g4
   have HF := HF2
   clear HF2
   go_enter Tryz.func28, Tryz.ntmps28
   go_wp2_with (first | (go_at_call 39; refine (Ygw b _).mono ?_; rintro e w2 ⟨rfl, rfl⟩; rw [HN.out]) | (go_at_call 40; (refine (Yga M r n x 1 _ (HM.out.keep ((Upd.refl [] _).alloc _) (by simp)) h0 h1 (by omega) HQ0.out HQ7.out).mono ?_; rintro e w2 ⟨rfl, hU⟩; rw [HF.out, HK.out, HW.out]; unfold Flt.val; obtain ⟨h8, hu, hs2⟩ := hU.over_alloc; have HU := Yh_ hu; have H8 := Yh_ h8; have cf := Ya h8; have ff := Yh h8; clear hU hu h8)))
   refine Ybc 2 (fun w1 => Upd [] w w1 ∧ w1.heap[w.heap.size]? = some (.cells #[.int .i64 0, .int .u32 0, .int .u32 0, .int .i64 0] 32 (0, 0)) ∧ w1.heap[w2.heap.size]? = some (.cells #[.int .i64 F.k, .int .u32 F.pc, .int .u32 F.a, .int .i64 F.wt] 32 (0, 0))) (fun _ _ => False) (by kernel_rfl) (by kernel_rfl) ⟨(HU.out.alloc _).drew, Yc _ H8.out, heap_alloc_new _ _⟩ (fun _ _ _ h => h.elim) ?_
   simp only [List.take_succ_cons, List.take_zero, List.drop_succ_cons, List.drop_zero]
   repeat
    apply Yao rfl rfl
    ·intro K hK w1 hB1
     have cg := Ya hB1.2.2
     have HB1 := Yh_ hB1
     clear hB1
     go_wp2_with fail
     exact HB1.out
    ·exact ⟨_, rfl⟩
   refine Yaw (fun _ w1 hB1 => ?_)
   have cf := Ya hB1.2.1
   have ff := Yh hB1.2.1
   have HB1 := Yh_ hB1
   clear hB1
   go_wp2_with fail
   have hE := Yap (b := w.heap.size) HB1.out.1 (.inr (Nat.le_refl _)) (.int .i64 F.k) (.int .u32 F.pc) (.int .u32 F.a) (.int .i64 F.wt)
   have hF := Ycx HB1.out.2.1 (.int .i64 F.k) (.int .u32 F.pc) (.int .u32 F.a) (.int .i64 F.wt)
   refine bodyPost_ret (v := .tuple #[.int .u32 0, F.val, .bool false]) (Ya3 rfl (Yk 8 rfl) (Ycp 9 w.heap.size F rfl hF) (Yk 10 rfl)) rfl ⟨by rw [HV.out], hE⟩
 ·have HW := Yh_ hk
  have hbad : M.bad x q n = none := by
   rw [Mem.readK, HNT.out, HQ.out] at hk
   cases h : M.bad x q n with
   |none => rfl
   |some i => rw [h] at hk; cases hk
  have HX := Yh_ (Ysx x q n hbad)
  have HV := Yh_ (show M.readV x b rt = M.get x n by rw [Mem.readV, HNT.out, HQ.out, hbad])
  have HZ := Yh_ (show M.rdF x b rt = Flt.zero by rw [Mem.rdF, HNT.out, HQ.out, hbad])
  have HF2 := Yh_ (HF.out.trans HZ.out)
  have hg := Yjs HM.out.ok x n
  have hp : (2 : Int) ^ (8 * n) ≤ 2 ^ 32 := by
   have := Nat.pow_le_pow_right (show 0 < 2 by decide) (show 8 * n ≤ 32 by omega)
   exact_mod_cast this
  have e32 : (2 : Int) ^ 32 = 4294967296 := by decide
  obtain ⟨g, hgd⟩ : ∃ g, M.get x n = g := ⟨_, rfl⟩
  rw [hgd] at hg
  have hg0 := hg.1
  have hg1 : g < 4294967296 := by omega
  have HG := Yh_ hgd
  clear hk hbad HF hgd hg hp e32
  rcases h3 with ⟨rfl, rfl⟩ | ⟨rfl, rfl⟩ | ⟨g2, g4, rfl⟩
  ·go_enter Tryz.func28, Tryz.ntmps28
   go_wp2_with (first | (go_at_call 39; refine (Ygw b _).mono ?_; rintro e w2 ⟨rfl, rfl⟩; rw [HN.out]) | (go_at_call 40; (refine (Yga M r n x 2 _ (HM.out.keep ((Upd.refl [] _).alloc _) (by simp)) h0 h1 (by omega) HQ0.out HQ7.out).mono ?_; rintro e w2 ⟨rfl, hU⟩; rw [HF2.out, HK.out, HW.out]; unfold Flt.val Flt.zero; obtain ⟨h8, hu, hs2⟩ := hU.over_alloc; have HU := Yh_ hu; have H8 := Yh_ h8; have cf := Ya h8; have ff := Yh h8; clear hU hu h8)) | (go_at_call 41; refine (Ylf M r n x _ (HM.out.keep (HU.out.alloc _) (by simp)) h0 h1 (by omega) HX.out).mono ?_; rintro e w3 ⟨rfl, rfl⟩; rw [HG.out]))
   have hF := Yc (.cells #[.int .i64 0, .int .u32 0, .int .u32 0, .int .i64 0] 32) (Ycx H8.out (.int .i64 0) (.int .u32 0) (.int .u32 0) (.int .i64 0))
   have hE := (Yap (b := w.heap.size) HU.out (.inr (Nat.le_refl _)) (.int .i64 0) (.int .u32 0) (.int .u32 0) (.int .i64 0)).alloc (.cells #[.int .i64 0, .int .u32 0, .int .u32 0, .int .i64 0] 32)
   refine bodyPost_ret (v := .tuple #[.int .u32 g, Flt.zero.val, .bool true]) (Ya3 rfl (Yk 8 rfl) (Ycp 9 w.heap.size Flt.zero rfl hF) (Yk 10 rfl)) rfl ⟨by rw [HV.out, HG.out, HZ.out], hE⟩
  ·go_enter Tryz.func28, Tryz.ntmps28
   go_wp2_with (first | (go_at_call 39; refine (Ygw b _).mono ?_; rintro e w2 ⟨rfl, rfl⟩; rw [HN.out]) | (go_at_call 40; (refine (Yga M r n x 4 _ (HM.out.keep ((Upd.refl [] _).alloc _) (by simp)) h0 h1 (by omega) HQ0.out HQ7.out).mono ?_; rintro e w2 ⟨rfl, hU⟩; rw [HF2.out, HK.out, HW.out]; unfold Flt.val Flt.zero; obtain ⟨h8, hu, hs2⟩ := hU.over_alloc; have HU := Yh_ hu; have H8 := Yh_ h8; have cf := Ya h8; have ff := Yh h8; clear hU hu h8)) | (go_at_call 41; refine (Ylf M r n x _ (HM.out.keep (HU.out.alloc _) (by simp)) h0 h1 (by omega) HX.out).mono ?_; rintro e w3 ⟨rfl, rfl⟩; rw [HG.out]))
   have hF := Yc (.cells #[.int .i64 0, .int .u32 0, .int .u32 0, .int .i64 0] 32) (Ycx H8.out (.int .i64 0) (.int .u32 0) (.int .u32 0) (.int .i64 0))
   have hE := (Yap (b := w.heap.size) HU.out (.inr (Nat.le_refl _)) (.int .i64 0) (.int .u32 0) (.int .u32 0) (.int .i64 0)).alloc (.cells #[.int .i64 0, .int .u32 0, .int .u32 0, .int .i64 0] 32)
   refine bodyPost_ret (v := .tuple #[.int .u32 g, Flt.zero.val, .bool true]) (Ya3 rfl (Yk 8 rfl) (Ycp 9 w.heap.size Flt.zero rfl hF) (Yk 10 rfl)) rfl ⟨by rw [HV.out, HG.out, HZ.out], hE⟩
  ·have g2' : (rt == 2) = false := by simpa using g2
   have g4' : (rt == 4) = false := by simpa using g4
   have g2n : (rt != 2) = true := by simpa using g2
   have g4n : (rt != 4) = true := by simpa using g4
   clear g2 g4
   go_enter Tryz.func28, Tryz.ntmps28
   go_wp2_with (first | (go_at_call 39; refine (Ygw b _).mono ?_; rintro e w2 ⟨rfl, rfl⟩; rw [HN.out]) | (go_at_call 40; (refine (Yga M r n x 1 _ (HM.out.keep ((Upd.refl [] _).alloc _) (by simp)) h0 h1 (by omega) HQ0.out HQ7.out).mono ?_; rintro e w2 ⟨rfl, hU⟩; rw [HF2.out, HK.out, HW.out]; unfold Flt.val Flt.zero; obtain ⟨h8, hu, hs2⟩ := hU.over_alloc; have HU := Yh_ hu; have H8 := Yh_ h8; have cf := Ya h8; have ff := Yh h8; clear hU hu h8)) | (go_at_call 41; refine (Ylf M r n x _ (HM.out.keep (HU.out.alloc _) (by simp)) h0 h1 (by omega) HX.out).mono ?_; rintro e w3 ⟨rfl, rfl⟩; rw [HG.out]))
   have hF := Yc (.cells #[.int .i64 0, .int .u32 0, .int .u32 0, .int .i64 0] 32) (Ycx H8.out (.int .i64 0) (.int .u32 0) (.int .u32 0) (.int .i64 0))
   have hE := (Yap (b := w.heap.size) HU.out (.inr (Nat.le_refl _)) (.int .i64 0) (.int .u32 0) (.int .u32 0) (.int .i64 0)).alloc (.cells #[.int .i64 0, .int .u32 0, .int .u32 0, .int .i64 0] 32)
   refine bodyPost_ret (v := .tuple #[.int .u32 g, Flt.zero.val, .bool true]) (Ya3 rfl (Yk 8 rfl) (Ycp 9 w.heap.size Flt.zero rfl hF) (Yk 10 rfl)) rfl ⟨by rw [HV.out, HG.out, HZ.out], hE⟩
def Yb2 (l : List Ins) : List Value := l.flatMap fun i => i.cells.toList
theorem Yj6 (i : Ins) (l : List Ins) : Yb2 (i :: l) = i.cells.toList ++ Yb2 l := by simp [Yb2]
theorem Ysz (l m : List Ins) : Yb2 (l ++ m) = Yb2 l ++ Yb2 m := by simp [Yb2]
theorem Yhu (i : Ins) : i.cells.toList.length = 16 := rfl
theorem Yeu (l : List Ins) : (Yb2 l).length = l.length * 16 := by
 induction l with
 |nil => rfl
 |cons i l ih => rw [Yj6, List.length_append, ih, Yhu, List.length_cons]; omega
theorem Ykr {l : List Ins} {k : Nat} {x : Ins} (h : l[k]? = some x) (j : Nat) (hj : j < 16) : (Yb2 l)[k * 16 + j]? = x.cells.toList[j]? := by
 induction l generalizing k with
 |nil => simp at h
 |cons i l ih =>
  rw [Yj6]
  cases k with
  |zero =>
   simp only [List.getElem?_cons_zero] at h
   injection h with h
   subst h
   rw [Nat.zero_mul, Nat.zero_add, List.getElem?_append_left (by rw [Yhu]; exact hj)]
  |succ k =>
   simp only [List.getElem?_cons_succ] at h
   rw [List.getElem?_append_right (by rw [Yhu]; omega), Yhu, show (k + 1) * 16 + j - 16 = k * 16 + j from by omega]
   exact ih h
theorem Yeq {l : List Ins} : ∀ u ∈ Yb2 l, u.oneCell' = true := by
 intro u hu
 rw [Yb2, List.mem_flatMap] at hu
 obtain ⟨i, _, hi⟩ := hu
 have := i.one
 rw [Array.all_eq_true_iff_forall_mem] at this
 exact this u (by simpa using hi)
def ISl (w : World) (v : Value) (l : List Ins) (g : Nat) : Prop :=
 (v = .slice none 0 0 ∧ l = []) ∨ ∃ o c C f, v = .slice (some ⟨g, o, none⟩) l.length c ∧ w.heap[g]? = some (.cells C 42 f) ∧ ∀ k u, (Yb2 l)[k]? = some u → C[o + k]? = some u
theorem ISl.form {w : World} {v : Value} {l : List Ins} {g : Nat} (h : ISl w v l g) : ∃ b c, v = .slice b l.length c := by
 rcases h with ⟨h1, h2⟩ | ⟨o, c, _, _, h1, _⟩
 ·exact ⟨none, 0, by rw [h1, h2]; rfl⟩
 ·exact ⟨_, _, h1⟩
theorem ISl.keep {w w' : World} {v : Value} {l : List Ins} {g : Nat} {S : List Nat} (h : ISl w v l g) (u : Upd S w w') (hg : g ∉ S) : ISl w' v l g := by
 rcases h with h | ⟨o, c, C, f, h1, h2, h3⟩
 ·exact .inl h
 ·exact .inr ⟨o, c, C, f, h1, u.get h2 hg, h3⟩
theorem ISl.at {w : World} {l : List Ins} {g o c : Nat} {n : Nat} (h : ISl w (.slice (some ⟨g, o, none⟩) n c) l g) {k : Nat} {x : Ins} (hx : l[k]? = some x) : w.rangeAt g (o + k * 16) x.cells.toList := by
 rcases h with ⟨h, _⟩ | ⟨o', c', C, f, h1, h2, h3⟩
 ·cases h
 ·injection h1 with h1 _ _
  injection h1 with h1
  injection h1 with _ h1
  subst h1
  intro j u hu
  have hj : j < 16 := by have := (List.getElem?_eq_some_iff.1 hu).1; rwa [Yhu] at this
  rw [Ya h2, Nat.add_assoc]
  exact h3 _ _ (by rw [Ykr hx j hj]; exact hu)
def Yfc (i : Ins) : Bool := i.op == 30 || i.op == 31 || i.op == 32 || i.op == 33 || i.op == 43 || i.rep
theorem Yh4 (i : Ins) (w : World) : Calls Tryz.prog 23 #[.agg i.cells] w fun e w' => e = .returned (.bool (Yfc i)) ∧ Upd [] w w' := by
 unfold Ins.cells Yfc
 go_enter Tryz.func23, Tryz.ntmps23
 go_wp2
 all_goals (go_ret; refine ⟨?_, (Upd.refl _ _).alloc _⟩; simp_all)
theorem Yhm (x : Int) (w : World) (h : 0 ≤ x ∧ x < 4294967296) : Calls Tryz.prog 24 #[.int .u32 x] w fun e w' => e = .returned (.int .u32 (x / 256)) ∧ w = w' := by
 have e : x.tdiv 256 % 4294967296 = x / 256 := by rw [Int.tdiv_eq_ediv_of_nonneg h.1]; omega
 clear h
 go_enter Tryz.func24, Tryz.ntmps24
 go_wp2
 go_ret
 refine ⟨?_, rfl⟩
 show Ending.returned (.int .u32 (x.tdiv 256 % 4294967296)) = _
 rw [e]
def Ycq (l : List Ins) : Nat → Int
 |0 => 0
 |k + 1 => (Ycq l k + (l.getD k Ins.zero).len % 4294967296) % 4294967296
theorem Yef (v : Value) (l : List Ins) (g : Nat) (w : World) (hv : ISl w v l g) (hn : l.length ≤ 100) :
  Calls Tryz.prog 12 #[v] w fun e w' => e = .returned (.int .u32 (Ycq l l.length)) ∧ Upd [] w w' := by
 obtain ⟨b, c, rfl⟩ := hv.form
 have HV := Yh_ hv
 clear hv
 go_enter Tryz.func12, Tryz.ntmps12
 go_wp2_with fail
 go_loopw [3, 8] (fun n i wr => ∃ k : Nat, k ≤ l.length ∧ n = .int .u32 (Ycq l k) ∧ i = .int .i64 k ∧ Upd [] w wr) (fun _ i _ => l.length - (intOf i).toNat)
 case atStart => exact ⟨0, Nat.zero_le _, rfl, rfl, Upd.refl _ _⟩
 case round =>
  obtain ⟨k, hk, rfl, rfl, hu⟩ := hrel
  have HU := Yh_ hu
  clear hu
  by_cases hlt : k < l.length
  ·have d1 : decide ((k : Int) < l.length) = true := by simp; omega
   obtain ⟨x, hx⟩ : ∃ x, l[k]? = some x := ⟨l[k], List.getElem?_eq_getElem hlt⟩
   obtain ⟨o, rfl⟩ : ∃ o, b = some ⟨g, o, none⟩ := by
    rcases HV.out with ⟨h1, h2⟩ | ⟨o, _, _, _, h1, _⟩
    ·rw [h2] at hlt; simp at hlt
    ·injection h1 with h1; exact ⟨o, h1⟩
   have HR := Yh_ ((HV.out.keep HU.out (by simp)).at hx)
   have HX := Yh_ hx
   clear hx
   go_wp2_with (first | (refine Yb9 42 rfl ?_; refine Ydo rfl 42 _ rfl g (o + k * 16) rfl x.cells _ HR.out Tryz.underlying42 rfl (by rw [Ins.size]; exact Yer) ?_) | (refine Ye 42 rfl ?_; refine Yb x wr.heap.size rfl _ _ rfl rfl rfl (heap_alloc_new wr (.cells Ins.zero.cells 42)) rfl ?_; intro w3 hw; have h3 := Yau (S := []) (w0 := wr) hw (heap_alloc_new wr (.cells Ins.zero.cells 42)) rfl ((Upd.refl [] wr).alloc _) (.inr (Nat.le_refl _)); have U3 := Yh_ (HU.out.also h3.2 (by simp)); have c3 := Ya h3.1 15; rw [show (x.cells)[15]? = some (.int .i64 x.len) from rfl] at c3; clear hw h3))
   go_roundw
   case rel => exact ⟨k + 1, by omega, by rw [Ycq, List.getD_eq_getElem?_getD, HX.out]; rfl, by go_num, U3.out⟩
   case measure => simp [intOf]; omega
  ·obtain rfl : k = l.length := by omega
   have d1 : decide ((l.length : Int) < l.length) = false := by simp
   go_wp2_with fail
   go_ret
   exact ⟨rfl, HU.out⟩
def Sho {α : Type} (n : Nat) (f : List Int → Nat → DR α) : Prop := ∀ L k, k ≤ L.length → match f L k with
 |.ok v k' => k ≤ k' ∧ k' ≤ k + n ∧ k' ≤ L.length
 |.err c => c = 10 → L.length < k + n
theorem Sho.pure {α : Type} (v : α) : Sho 0 (fun _ k => .ok v k) := fun L k h => ⟨Nat.le_refl _, Nat.le_refl _, h⟩
theorem Sho.fail {α : Type} {c : Int} (hc : 11 ≤ c) : Sho 0 (fun _ _ => (.err c : DR α)) := fun L k _ h => by omega
theorem Sho.mono {α : Type} {n m : Nat} {f : List Int → Nat → DR α} (h : Sho n f) (hm : n ≤ m) : Sho m f := by
 intro L k hk
 have := h L k hk
 split <;> rename_i he <;> rw [he] at this
 ·exact ⟨this.1, by omega, this.2.2⟩
 ·exact fun hc => by have := this hc; omega
theorem Sho.bind {α β : Type} {n m : Nat} {f : List Int → Nat → DR α} {g : α → List Int → Nat → DR β} (hf : Sho n f) (hg : ∀ v, Sho m (g v)) :
  Sho (n + m) (fun L k => (f L k).bind fun v k => g v L k) := by
 intro L k hk
 have h := hf L k hk
 cases hfk : f L k with
 |err c =>
  rw [hfk] at h
  simp only [hfk, DR.bind_err]
  exact fun hc => by have := h hc; omega
 |ok v k' =>
  rw [hfk] at h
  simp only [hfk, DR.bind_ok]
  have h2 := hg v L k' h.2.2
  cases hgk : g v L k' with
  |err c =>
   rw [hgk] at h2
   simp only [hgk]
   exact fun hc => by have := h2 hc; omega
  |ok u k2 =>
   rw [hgk] at h2
   simp only [hgk]
   exact ⟨by omega, by omega, h2.2.2⟩
theorem Sho.ite {α : Type} {n : Nat} {p : Prop} [Decidable p] {f g : List Int → Nat → DR α} (hf : Sho n f) (hg : Sho n g) : Sho n (fun L k => if p then f L k else g L k) := by
 intro L k hk
 by_cases hp : p
 ·have := hf L k hk
  simp only [if_pos hp]
  exact this
 ·have := hg L k hk
  simp only [if_neg hp]
  exact this
theorem Yey : Sho 1 Yz := by
 intro L k hk
 unfold Yz
 by_cases h : k < L.length
 ·simp only [if_pos h]
  exact ⟨by omega, by omega, by omega⟩
 ·simp only [if_neg h]
  exact fun _ => by omega
theorem Yj9 : Sho 4 Ycl := by
 intro L k hk
 unfold Ycl
 by_cases h : k + 4 ≤ L.length
 ·simp only [if_pos h]
  exact ⟨by omega, by omega, by omega⟩
 ·simp only [if_neg h]
  exact fun _ => by omega
theorem Yi9 : Sho 1 Yce := Sho.bind Yey fun v => Sho.pure _
theorem Yh8 : Sho 1 Ybu := Sho.bind Yey fun v => Sho.pure _
theorem Ydt : Sho 4 Yas := Sho.bind Yj9 fun v => Sho.pure _
theorem Ye5 : Sho 1 Yai := Sho.bind Yey fun v => Sho.pure _
theorem Yn7 (mod base x sc : Int) : Sho 4 (fun L k => Yak L mod base x sc k) :=
 Sho.ite ((Sho.bind Yey fun v => Sho.pure _).mono (by decide)) (Sho.ite (Sho.bind Yj9 fun v => Sho.pure _) (Sho.ite (Sho.bind Yj9 fun v => Sho.pure _) ((Sho.pure _).mono (by decide))))
theorem Yeb (m : Mrm) : Sho 5 (fun L k => Ya6 L m k) :=
 Sho.ite ((Sho.pure _).mono (by decide)) (Sho.ite (Sho.bind Yey fun v => Yn7 _ _ _ _) ((Yn7 _ _ _ _).mono (by decide)))
theorem Yd5 (op : Int) (t : Bool) : Sho 6 (fun L k => Yaz L op t k) := Sho.bind Ye5 fun m => Sho.bind (Yeb m) fun o => Sho.pure _
theorem Ylk (op : Int) (m : Mrm) : Sho 5 (fun L k => Ybb L op m k) := Sho.bind (Yeb m) fun o => Sho.pure _
theorem sho_row (c : Int) : Sho 6 (fun L k => Yf4 L c k) :=
 Sho.ite (Yd5 _ _) (Sho.ite (Yd5 _ _) (Sho.ite ((Sho.bind Ydt fun v => Sho.pure _).mono (by decide)) ((Sho.fail (by decide)).mono (by decide))))
theorem sho_lea : Sho 6 (fun L k => Yhq L k) :=
 Sho.bind Ye5 fun m => Sho.ite ((Sho.fail (by decide)).mono (by decide)) (Sho.bind (Yeb m) fun o => Sho.pure _)
theorem sho_lays (c : Int) : Sho 10 (fun L k => Yea L c k) :=
 Sho.bind Ye5 fun m => Sho.ite ((Sho.fail (by decide)).mono (by decide)) (Sho.bind (Yeb m) fun o => Sho.ite (Sho.bind Ydt fun v => Sho.pure _) ((Sho.bind Yh8 fun v => Sho.pure _).mono (by decide)))
theorem Yt2 (c : Int) : Sho 7 (fun L k => Yc2 L c k) :=
 Sho.bind Ye5 fun m => Sho.ite ((Sho.fail (by decide)).mono (by decide)) (Sho.bind (Yeb m) fun o => Sho.ite (Sho.bind Yh8 fun v => Sho.pure _) (Sho.ite ((Sho.pure _).mono (by decide)) ((Sho.pure _).mono (by decide))))
theorem Yrv (c : Int) : Sho 6 (fun L k => Yc7 L c k) :=
 Sho.bind Ye5 fun m => Sho.ite ((Sho.fail (by decide)).mono (by decide)) (Ylk _ m)
theorem Ytl : Sho 10 (fun L k => Ye9 L k) :=
 Sho.bind Ye5 fun m => Sho.ite (Sho.bind (Yeb m) fun o => Sho.bind Ydt fun v => Sho.pure _) (Sho.ite ((Ylk _ m).mono (by decide)) ((Sho.fail (by decide)).mono (by decide)))
theorem sho_last : Sho 6 (fun L k => Yf2 L k) :=
 Sho.bind Ye5 fun m => Sho.ite (Ylk _ m) (Sho.ite ((Sho.fail (by decide)).mono (by decide)) ((Sho.fail (by decide)).mono (by decide)))
theorem Ysd (c : Int) : Sho 10 (fun L k => Yb7 L c k) :=
 Sho.ite ((Yt2 _).mono (by decide)) (Sho.ite ((Sho.bind Yh8 fun o => Sho.ite (Sho.pure _) (Sho.fail (by decide))).mono (by decide))
  (Sho.ite ((Sho.bind Yey fun x => Sho.ite (Sho.pure _) (Sho.ite (Sho.pure _) (Sho.fail (by decide)))).mono (by decide)) (Sho.ite ((Yrv _).mono (by decide))
  (Sho.ite ((Sho.bind Yey fun x => Sho.ite (Sho.pure _) (Sho.ite (Sho.pure _) (Sho.fail (by decide)))).mono (by decide)) (Sho.ite Ytl (Sho.ite (sho_last.mono (by decide)) ((Sho.fail (by decide)).mono (by decide))))))))
theorem Yug (c : Int) : Sho 10 (fun L k => Ycg L c k) :=
 Sho.ite ((Sho.pure _).mono (by decide)) (Sho.ite ((Sho.pure _).mono (by decide)) (Sho.ite ((Sho.pure _).mono (by decide)) (Sho.ite ((Sho.pure _).mono (by decide)) (Sho.ite ((Sho.pure _).mono (by decide))
  (Sho.ite ((Sho.pure _).mono (by decide)) (Sho.ite ((Sho.pure _).mono (by decide)) (Sho.ite ((Sho.bind Ydt fun v => Sho.pure _).mono (by decide)) (Sho.ite ((Sho.bind Ydt fun v => Sho.pure _).mono (by decide))
  (Sho.ite ((Sho.bind Yi9 fun v => Sho.pure _).mono (by decide)) (Ysd _))))))))))
theorem Yts (c : Int) : Sho 10 (fun L k => Ya2 L c k) :=
 Sho.ite ((Sho.bind Ydt fun v => Sho.pure _).mono (by decide)) (Sho.ite ((Sho.bind Yi9 fun v => Sho.pure _).mono (by decide))
  (Sho.ite (Sho.bind Ye5 fun m => Sho.bind (Yeb m) fun o => Sho.bind Ydt fun v => Sho.pure _) (Sho.ite ((Sho.bind Ye5 fun m => Sho.bind (Yeb m) fun o => Sho.bind Yi9 fun v => Sho.pure _).mono (by decide))
  (Sho.ite ((Yd5 _ _).mono (by decide)) (Sho.ite ((Yd5 _ _).mono (by decide)) (Sho.ite ((Yd5 _ _).mono (by decide)) (Sho.ite ((Yd5 _ _).mono (by decide)) (Sho.ite ((Yd5 _ _).mono (by decide)) (Sho.ite ((Yd5 _ _).mono (by decide))
  (Sho.ite (sho_lea.mono (by decide)) (Sho.ite ((Sho.bind Ydt fun v => Sho.pure _).mono (by decide)) (Sho.ite (sho_lays _) (Yug _)))))))))))))
theorem Yrz : Sho 8 (fun L k => Yeh L k) :=
 (Sho.bind (n := 1) (m := 7) Yey fun c => Sho.ite ((Sho.fail (by decide)).mono (by decide)) (Sho.ite ((Sho.bind (Yd5 _ _) fun i => Sho.pure _).mono (by decide)) (Sho.ite ((Sho.bind Ydt fun v => Sho.pure _).mono (by decide))
  (Sho.ite ((Sho.bind Ye5 fun m => Sho.ite ((Sho.fail (by decide)).mono (by decide)) (Sho.bind (Yeb m) fun o => Sho.pure _)).mono (by decide))
  (Sho.ite ((Yd5 _ _).mono (by decide)) (Sho.ite ((Yd5 _ _).mono (by decide)) (Sho.ite ((Yd5 _ _).mono (by decide)) ((Sho.fail (by decide)).mono (by decide)))))))))
theorem sho_rest (c : Int) : Sho 10 (fun L k => Yde L c k) :=
 (Sho.ite (Yrz.mono (by decide)) (Sho.ite ((sho_row _).mono (by decide)) (Sho.ite ((Sho.pure _).mono (by decide)) (Sho.ite ((Sho.pure _).mono (by decide)) (Sho.ite ((Sho.pure _).mono (by decide)) (Sho.ite ((Sho.pure _).mono (by decide))
  (Sho.ite ((Sho.bind Yi9 fun v => Sho.pure _).mono (by decide)) (Sho.ite ((Sho.bind Yh8 fun v => Sho.pure _).mono (by decide)) (Sho.ite ((Sho.bind Ydt fun v => Sho.pure _).mono (by decide)) (Yts _))))))))))
theorem sho_insn : Sho 11 Ydh := Sho.bind (n := 1) (m := 10) Yey sho_rest
theorem Ys9 {L : List Int} (h : Ycv L = 10) : L.length ≤ 10 := by
 have hl := sho_insn L 0 (Nat.zero_le _)
 unfold Ycv at h
 cases hd : Ydh L 0 with
 |ok i k => rw [hd] at h; simp at h
 |err c =>
  rw [hd] at h hl
  have := hl h
  omega
section
theorem Yfm (i : Ins) (w : World) : Calls Tryz.prog 15 #[.agg i.cells] w fun e w' => e = .returned (.bool (Yfc i)) ∧ Upd [] w w' := by
 unfold Ins.cells Yfc
 go_enter Tryz.func15, Tryz.ntmps15
 go_wp2
 all_goals (go_ret; refine ⟨?_, (Upd.refl _ _).alloc _⟩; simp_all)
def rvW (w : World) : World := (w.alloc (.cells Ins.zero.cells 42)).alloc (.cells #[.int .i64 0, .int .u32 0, .int .u32 0, .int .i64 0] 32)
theorem rvW_up (w : World) : Upd [] w (rvW w) := ((Upd.refl [] w).alloc _).alloc _
structure RvS (w : World) (v : Value) (L : List Int) (wr : World) : Prop where
 d : Dn (rvW w) v L wr
 r : BOk L
 n : L.length ≤ 16
section
variable {w w1 w2 : World} {v : Value} {L : List Int}
theorem RvS.up (h : RvS w v L w1) : Upd [] w w1 := (rvW_up w).also h.d.u (by simp)
theorem RvS.i (h : RvS w v L w1) : w1.heap[w.heap.size]? = some (.cells Ins.zero.cells 42 (0, 0)) := h.d.u.get (heap_alloc2_old _ _ _) (by simp)
theorem RvS.f (h : RvS w v L w1) : w1.heap[w.heap.size + 1]? = some (.cells #[.int .i64 0, .int .u32 0, .int .u32 0, .int .i64 0] 32 (0, 0)) := h.d.u.get (heap_alloc2_new _ _ _) (by simp)
theorem RvS.step (h : RvS w v L w1) (u : Upd [] w1 w2) : RvS w v L w2 := ⟨h.d.step u, h.r, h.n⟩
theorem RvS.ins (h : RvS w v L w1) {j : Ins} (hw : (w1.alloc (.cells Ins.zero.cells 42)).setCells w1.heap.size 0 j.cells.toList = w2) : RvS w v L w2 ∧ w2.heap[w1.heap.size]? = some (.cells j.cells 42 (0, 0)) := by
 obtain ⟨z1, z2⟩ := Yau (S := []) (w0 := w1) hw (heap_alloc_new w1 (.cells Ins.zero.cells 42)) rfl ((Upd.refl [] w1).alloc _) (.inr (Nat.le_refl _))
 exact ⟨h.step z2, z1⟩
theorem RvS.grow {v' : Value} {x : Int} (h : RvS w v L w1) (hg : Yhl w1 (rvW w).heap.size v (L ++ [x]) v' w2) (hx : 0 ≤ x ∧ x ≤ 255) (hn : L.length < 16) : RvS w v' (L ++ [x]) w2 :=
 ⟨h.d.grow hg, BOk.app h.r (fun i => by cases i with | zero => simpa using hx | succ i => simp), by simp; omega⟩
theorem RvS.form (h : RvS w v L w1) : ∃ b c, v = .slice b L.length c := by
 obtain ⟨g, hb, _⟩ := h.d.o.barg h.r (by have := h.n; unfold maxLen; omega)
 exact hb.b.form
end
structure RvB (w : World) (fb : Nat) (F : Flt) (w1 : World) : Prop where
 i : w1.heap[w.heap.size]? = some (.cells Ins.zero.cells 42 (0, 0))
 f : w1.heap[w.heap.size + 1]? = some (.cells #[.int .i64 0, .int .u32 0, .int .u32 0, .int .i64 0] 32 (0, 0))
 g : w1.heap[fb]? = some (.cells #[.int .i64 F.k, .int .u32 F.pc, .int .u32 F.a, .int .i64 F.wt] 32 (0, 0))
 u : Upd [] w w1
 l : w.heap.size + 1 < fb
theorem RvB.ins {w w1 w2 : World} {fb : Nat} {F : Flt} (h : RvB w fb F w1) (hw : w1.setCells w.heap.size 0 Ins.zero.cells.toList = w2) : RvB w fb F w2 := by
 obtain ⟨z1, z2⟩ := Yau hw h.i rfl (Upd.refl [w.heap.size] w1) (.inl (by simp))
 exact ⟨z1, z2.get h.f (by simp), z2.get h.g (by have := h.l; simp; omega), h.u.also z2 (by simp), h.l⟩
theorem RvB.start {w w4 : World} {v : Value} {L : List Int} (h : RvS w v L w4) (F : Flt) : RvB w w4.heap.size F (w4.alloc (.cells #[.int .i64 F.k, .int .u32 F.pc, .int .u32 F.a, .int .i64 F.wt] 32)).drew := by
 have u : Upd [] w4 (w4.alloc (.cells #[.int .i64 F.k, .int .u32 F.pc, .int .u32 F.a, .int .i64 F.wt] 32)).drew := ((Upd.refl [] w4).alloc _).drew
 exact ⟨u.get h.i (by simp), u.get h.f (by simp), ((Upd.refl [] _).drew).get (heap_alloc_new w4 _) (by simp), h.up.also u (by simp), Yv h.f⟩
theorem Yuk {L : List Int} (h : BOk L) : Ycv L = 0 ∨ Ycv L = 10 ∨ Ycv L = 90 ∨ Ycv L = 12 := by
 rw [← (Yem h).2.1]
 unfold refE
 dsimp only
 split
 ·exact .inr (.inl rfl)
 split
 ·exact .inr (.inr (.inl rfl))
 split
 ·exact .inr (.inr (.inr rfl))
 ·exact .inl rfl
theorem Yie (M : Mem) (a : Nat) (pc : Int) (w : World) (hM : Ybh w a M) (h0 : 0 ≤ pc ∧ pc < 4294967296) :
  Calls Tryz.prog 16 #[.pointer (some ⟨a, 0, none⟩), .int .u32 pc] w fun e w' => e = .returned (.tuple #[(Yat M pc).i.val, (Yat M pc).f.val, .bool (Yat M pc).k]) ∧ Upd [] w w' := by
 have HM := Yh_ (And.intro hM h0)
 have HS := Yh_ (show RvS w (.slice none 0 0) [] (rvW w) from ⟨Dn.start (Upd.refl [] _), fun i => by simp, by simp⟩)
 clear hM h0
 go_enter Tryz.func16, Tryz.ntmps16
 go_wp2_with fail
 go_loopw [7] (fun v wr => ∃ L, RvS w v L wr ∧ Yat M pc = Ycr M pc (16 - L.length) L ∧ L.length ≤ 11) (fun v _ => 16 - (match v with | .slice _ n _ => n | _ => 0))
 case atStart => exact ⟨[], HS.out, rfl, by simp⟩
 case round =>
  obtain ⟨L, hB, hR, hlt⟩ := hrel
  obtain ⟨b, c, rfl⟩ := hB.form
  have HB := Yh_ hB
  have HR := Yh_ hR
  have hn := hB.n
  clear hB hR
  have q1 : (L.length : Int) % 4294967296 = L.length := by omega
  have q2 : (pc + (L.length : Int)) % 4294967296 = Yx pc L.length := rfl
  have hs : 16 - L.length = (15 - L.length) + 1 := by omega
  have tokD : True := trivial
  have tokS : True := trivial
  obtain ⟨J, hJ⟩ : ∃ J, Ygr L = J := ⟨_, rfl⟩
  have HI_ := Yh_ hJ
  have HR2 := Yh_ (show Yat M pc = Ycr M pc ((15 - L.length) + 1) L by rw [← hs]; exact HR.out)
  have HN := Yh_ hlt
  clear HR hs
  by_cases e0 : Ycv L = 0
  ·have HE := Yh_ e0
   have HV := Yh_ (show Yat M pc = ⟨J, Flt.zero, true⟩ by rw [HR2.out, Ycr, if_pos e0, hJ])
   clear e0 hJ hlt hn
   go_wp2_with (first | (have _t := tokD; clear _t; go_at_call 27; obtain ⟨g3, hb3, _⟩ := HB.out.d.o.barg HB.out.r (by have := HB.out.n; unfold maxLen; omega); have HB3 := Yh_ hb3; clear hb3; refine (Ygj (.slice b L.length c) L g3 _ HB3.out).mono ?_; rintro e w2 ⟨rfl, hu⟩; rw [(Yem HB.out.r).1, (Yem HB.out.r).2.1, HE.out, HI_.out]; have B2 := Yh_ (HB.out.step hu); clear hu tokD HB) | (have _t := B2; clear _t; refine Ye 42 rfl ?_; refine Yb J w2.heap.size rfl _ _ rfl rfl rfl (heap_alloc_new w2 (.cells Ins.zero.cells 42)) rfl ?_; intro w3 hw; have B3 := Yh_ (B2.out.ins hw); clear hw B2) | (have _t := B3; clear _t; refine Yb9 42 rfl ?_; refine Ya1 J w2.heap.size rfl _ rfl rfl B3.out.2 ?_) | (have _t := tokS; have _t2 := B3; clear _t _t2; refine Ye 42 rfl ?_; refine Yb J w.heap.size rfl _ _ rfl rfl rfl B3.out.1.i rfl ?_; intro w5 hw; have h5 := Yau hw B3.out.1.i rfl (Upd.refl [w.heap.size] w3) (.inl (by simp)); have B5 := Yh_ (And.intro h5.1 (And.intro (h5.2.get B3.out.1.f (by simp)) (B3.out.1.up.also h5.2 (by simp)))); clear hw h5 B3 tokS; have cf := Ya B5.out.2.1; have ff := Yh B5.out.2.1))
   exact bodyPost_ret (Ya3 rfl (Yi 4 w.heap.size J rfl ((Yap (S := [w.heap.size + 1]) (Upd.refl _ w5) (.inl (by simp)) _ _ _ _).get B5.out.1 (by simp))) (Ycp 5 (w.heap.size + 1) ⟨0, 0, 0, 0⟩ rfl (Ycx B5.out.2.1 _ _ _ _)) (Yk 6 rfl)) rfl ⟨by rw [HV.out]; rfl, Yap B5.out.2.2 (.inr (by omega)) _ _ _ _⟩
  have hJz : J = Ins.zero := by rw [← hJ]; exact (Yrp L e0).2
  have hd0 : (Ycv L == 0) = false := by simpa using e0
  by_cases e1 : Ycv L = 90
  ·have HE := Yh_ e1
   have HV := Yh_ (show Yat M pc = ⟨J, ⟨3, pc, 0, 0⟩, false⟩ by rw [HR2.out, Ycr, if_neg e0, if_pos e1, hJz])
   clear e0 e1 hJ hlt hn hd0 hJz
   go_wp2_with (first | (have _t := tokD; clear _t; go_at_call 27; obtain ⟨g3, hb3, _⟩ := HB.out.d.o.barg HB.out.r (by have := HB.out.n; unfold maxLen; omega); have HB3 := Yh_ hb3; clear hb3; refine (Ygj (.slice b L.length c) L g3 _ HB3.out).mono ?_; rintro e w2 ⟨rfl, hu⟩; rw [(Yem HB.out.r).1, (Yem HB.out.r).2.1, HE.out, HI_.out]; have B2 := Yh_ (HB.out.step hu); clear hu tokD HB) | (have _t := B2; clear _t; refine Ye 42 rfl ?_; refine Yb J w2.heap.size rfl _ _ rfl rfl rfl (heap_alloc_new w2 (.cells Ins.zero.cells 42)) rfl ?_; intro w3 hw; have B3 := Yh_ (B2.out.ins hw); clear hw B2) | (have _t := B3; clear _t; refine Yb9 42 rfl ?_; refine Ya1 J w2.heap.size rfl _ rfl rfl B3.out.2 ?_) | (have _t := tokS; have _t2 := B3; clear _t _t2; refine Ye 42 rfl ?_; refine Yb J w.heap.size rfl _ _ rfl rfl rfl B3.out.1.i rfl ?_; intro w5 hw; have h5 := Yau hw B3.out.1.i rfl (Upd.refl [w.heap.size] w3) (.inl (by simp)); have B5 := Yh_ (And.intro h5.1 (And.intro (h5.2.get B3.out.1.f (by simp)) (B3.out.1.up.also h5.2 (by simp)))); clear hw h5 B3 tokS; have cf := Ya B5.out.2.1; have ff := Yh B5.out.2.1))
   exact bodyPost_ret (Ya3 rfl (Yi 4 w.heap.size J rfl ((Yap (S := [w.heap.size + 1]) (Upd.refl _ w5) (.inl (by simp)) _ _ _ _).get B5.out.1 (by simp))) (Ycp 5 (w.heap.size + 1) ⟨3, pc, 0, 0⟩ rfl (Ycx B5.out.2.1 _ _ _ _)) (Yk 6 rfl)) rfl ⟨by rw [HV.out]; rfl, Yap B5.out.2.2 (.inr (by omega)) _ _ _ _⟩
  by_cases e2 : Ycv L = 12
  ·have HE := Yh_ e2
   have HV := Yh_ (show Yat M pc = ⟨J, ⟨4, pc, 0, 0⟩, false⟩ by rw [HR2.out, Ycr, if_neg e0, if_neg e1, if_pos e2, hJz])
   clear e0 e1 e2 hJ hlt hn hd0 hJz
   go_wp2_with (first | (have _t := tokD; clear _t; go_at_call 27; obtain ⟨g3, hb3, _⟩ := HB.out.d.o.barg HB.out.r (by have := HB.out.n; unfold maxLen; omega); have HB3 := Yh_ hb3; clear hb3; refine (Ygj (.slice b L.length c) L g3 _ HB3.out).mono ?_; rintro e w2 ⟨rfl, hu⟩; rw [(Yem HB.out.r).1, (Yem HB.out.r).2.1, HE.out, HI_.out]; have B2 := Yh_ (HB.out.step hu); clear hu tokD HB) | (have _t := B2; clear _t; refine Ye 42 rfl ?_; refine Yb J w2.heap.size rfl _ _ rfl rfl rfl (heap_alloc_new w2 (.cells Ins.zero.cells 42)) rfl ?_; intro w3 hw; have B3 := Yh_ (B2.out.ins hw); clear hw B2) | (have _t := B3; clear _t; refine Yb9 42 rfl ?_; refine Ya1 J w2.heap.size rfl _ rfl rfl B3.out.2 ?_) | (have _t := tokS; have _t2 := B3; clear _t _t2; refine Ye 42 rfl ?_; refine Yb J w.heap.size rfl _ _ rfl rfl rfl B3.out.1.i rfl ?_; intro w5 hw; have h5 := Yau hw B3.out.1.i rfl (Upd.refl [w.heap.size] w3) (.inl (by simp)); have B5 := Yh_ (And.intro h5.1 (And.intro (h5.2.get B3.out.1.f (by simp)) (B3.out.1.up.also h5.2 (by simp)))); clear hw h5 B3 tokS; have cf := Ya B5.out.2.1; have ff := Yh B5.out.2.1))
   exact bodyPost_ret (Ya3 rfl (Yi 4 w.heap.size J rfl ((Yap (S := [w.heap.size + 1]) (Upd.refl _ w5) (.inl (by simp)) _ _ _ _).get B5.out.1 (by simp))) (Ycp 5 (w.heap.size + 1) ⟨4, pc, 0, 0⟩ rfl (Ycx B5.out.2.1 _ _ _ _)) (Yk 6 rfl)) rfl ⟨by rw [HV.out]; rfl, Yap B5.out.2.2 (.inr (by omega)) _ _ _ _⟩
  have hee : Ycv L = 10 := by rcases Yuk HB.out.r with h | h | h | h <;> first | exact absurd h e0 | exact h | exact absurd h e1 | exact absurd h e2
  have HL10 := Yh_ (Ys9 hee)
  have HE := Yh_ hee
  obtain ⟨x, hx⟩ : ∃ x, M.readV (Yx pc L.length) 1 4 = x := ⟨_, rfl⟩
  have HX := Yh_ hx
  have hxr := Yj5 HM.out.1.ok (Yx pc L.length) 4
  rw [hx] at hxr
  have q3 : x % 256 = x := by omega
  obtain ⟨⟨fk, fp, fa, fw⟩, hF⟩ : ∃ F, M.rdF (Yx pc L.length) 1 4 = F := ⟨_, rfl⟩
  have HF := Yh_ hF
  cases hk : M.readK (Yx pc L.length) 1 4
  ·have HK := Yh_ hk
   have HV := Yh_ (show Yat M pc = ⟨Ins.zero, ⟨fk, pc, fa, fw⟩, false⟩ by rw [HR2.out, Ycr, if_neg e0, if_neg e1, if_neg e2, if_neg (by rw [hk]; simp), hF])
   clear e0 e1 e2 hJ hlt hn hk hF hx hee hd0 hJz
   go_wp2_with (first | (have _t := tokD; clear _t; go_at_call 27; obtain ⟨g3, hb3, _⟩ := HB.out.d.o.barg HB.out.r (by have := HB.out.n; unfold maxLen; omega); have HB3 := Yh_ hb3; clear hb3; refine (Ygj (.slice b L.length c) L g3 _ HB3.out).mono ?_; rintro e w2 ⟨rfl, hu⟩; rw [(Yem HB.out.r).1, (Yem HB.out.r).2.1, HE.out, HI_.out]; have B2 := Yh_ (HB.out.step hu); clear hu tokD HB) | (have _t := B2; clear _t; refine Ye 42 rfl ?_; refine Yb J w2.heap.size rfl _ _ rfl rfl rfl (heap_alloc_new w2 (.cells Ins.zero.cells 42)) rfl ?_; intro w3 hw; have B3 := Yh_ (B2.out.ins hw); clear hw B2) | (have _t := B3; clear _t; go_at_call 28; refine (Yni M a (Yx pc L.length) 1 4 _ (HM.out.1.keep B3.out.1.up (by simp)) (Ybj _ _) (Ymz _ _)).mono ?_; rintro e w4 ⟨rfl, hu⟩; rw [HF.out, HK.out, HX.out]; unfold Flt.val; have B4 := Yh_ (B3.out.1.step hu); clear hu B3))
   refine Ybc 3 (RvB w w4.heap.size ⟨fk, pc, fa, fw⟩) (fun _ _ => False) (by kernel_rfl) (by decide +kernel) (RvB.start B4.out ⟨fk, pc, fa, fw⟩) (fun _ _ _ h => h.elim) ?_
   simp only [List.take_succ_cons, List.take_zero, List.drop_succ_cons, List.drop_zero]
   apply Yao rfl rfl
   ·intro K hK w5 hB1
    have HB2 := Yh_ hB1
    clear hB1
    go_wp2_with fail
    first
    |exact hK _ HB2.out
    |exact HB2.out
   ·exact ⟨_, rfl⟩
   apply Yao rfl rfl
   ·intro K hK w5 hB1
    have c5 := Ya hB1.g
    have HB2 := Yh_ hB1
    clear hB1
    go_wp2_with fail
    first
    |exact hK _ HB2.out
    |exact HB2.out
   ·exact ⟨_, rfl⟩
   apply Yao rfl rfl
   ·intro K hK w5 hB1
    refine Ya8 Ins.zero w.heap.size _ _ rfl rfl rfl hB1.i rfl ?_
    intro w6 hw
    exact hK _ (hB1.ins hw)
   ·exact ⟨_, rfl⟩
   refine Yaw (fun _ w5 hB1 => ?_)
   have c5 := Ya hB1.f
   have f5 := Yh hB1.f
   have HB2 := Yh_ hB1
   clear hB1
   go_wp2_with fail
   exact bodyPost_ret (Ya3 rfl (Yi 4 w.heap.size Ins.zero rfl ((Yap (S := [w.heap.size + 1]) (Upd.refl _ w5) (.inl (by simp)) _ _ _ _).get HB2.out.i (by simp))) (Ycp 5 (w.heap.size + 1) ⟨fk, pc, fa, fw⟩ rfl (Ycx HB2.out.f _ _ _ _)) (Yk 6 rfl)) rfl ⟨by rw [HV.out]; rfl, Yap HB2.out.u (.inr (by omega)) _ _ _ _⟩
  ·have HK := Yh_ hk
   have HV := Yh_ (show Yat M pc = Ycr M pc (15 - L.length) (L ++ [x]) by rw [HR2.out, Ycr, if_neg e0, if_neg e1, if_neg e2, if_pos hk, hx])
   clear e0 e1 e2 hJ hlt hn hk hF hx hee hd0 hJz
   have HXR := Yh_ hxr
   go_wp2_with (first | (have _t := tokD; clear _t; go_at_call 27; obtain ⟨g3, hb3, _⟩ := HB.out.d.o.barg HB.out.r (by have := HB.out.n; unfold maxLen; omega); have HB3 := Yh_ hb3; clear hb3; refine (Ygj (.slice b L.length c) L g3 _ HB3.out).mono ?_; rintro e w2 ⟨rfl, hu⟩; rw [(Yem HB.out.r).1, (Yem HB.out.r).2.1, HE.out, HI_.out]; have B2 := Yh_ (HB.out.step hu); clear hu tokD HB) | (have _t := B2; clear _t; refine Ye 42 rfl ?_; refine Yb J w2.heap.size rfl _ _ rfl rfl rfl (heap_alloc_new w2 (.cells Ins.zero.cells 42)) rfl ?_; intro w3 hw; have B3 := Yh_ (B2.out.ins hw); clear hw B2) | (have _t := B3; clear _t; go_at_call 28; refine (Yni M a (Yx pc L.length) 1 4 _ (HM.out.1.keep B3.out.1.up (by simp)) (Ybj _ _) (Yld _ _)).mono ?_; rintro e w4 ⟨rfl, hu⟩; rw [HF.out, HK.out, HX.out]; unfold Flt.val; have B4 := Yh_ (B3.out.1.step hu); clear hu B3) | (have _t := B4; clear _t; at_builtin; refine Yh6 rfl _ _ rfl (rvW w).heap.size (.slice b L.length c) L rfl ((B4.out.step (((Upd.refl [] w4).alloc (.cells #[.int .i64 fk, .int .u32 fp, .int .u32 fa, .int .i64 fw] 32)).alloc (.cells #[.int .u8 x] 5))).d.o) (.slice (some ⟨w4.heap.size + 1, 0, none⟩) 1 1) [x] (w4.heap.size + 1) rfl (Ynp w4 (.cells #[.int .i64 fk, .int .u32 fp, .int .u32 fa, .int .i64 fw] 32) x _) (by have := HN.out; simp; omega) (by have := B4.out.d.u.size; simp; omega) ?_; intro v2 w6 hg; have B6 := Yh_ ((B4.out.step (((Upd.refl [] w4).alloc (.cells #[.int .i64 fk, .int .u32 fp, .int .u32 fa, .int .i64 fw] 32)).alloc (.cells #[.int .u8 x] 5))).grow hg HXR.out (by have := HN.out; omega)); clear hg B4))
   obtain ⟨b2, c2, hv2⟩ := B6.out.form
   subst hv2
   exact ⟨⟨L ++ [x], B6.out, by rw [HV.out, show 16 - (L ++ [x]).length = 15 - L.length from by rw [List.length_append]; simp only [List.length_cons, List.length_nil]; omega], by have := HL10.out; rw [List.length_append]; simp only [List.length_cons, List.length_nil]; omega⟩, by have := HN.out; rw [List.length_append]; simp only [List.length_cons, List.length_nil]; omega⟩
end
theorem Ysl (M : Mem) (pc : Int) (n : Nat) (L : List Int) (h : (Ycr M pc n L).k = true) : 1 ≤ (Ycr M pc n L).i.len ∧ (Ycr M pc n L).i.len ≤ 15 := by
 induction n generalizing L with
 |zero => simp [Ycr] at h
 |succ n ih =>
  unfold Ycr at h ⊢
  by_cases e0 : Ycv L = 0
  ·rw [if_pos e0]
   obtain ⟨a, b, _, d, _⟩ := Yuu L e0
   simp only [d]
   omega
  rw [if_neg e0] at h ⊢
  by_cases e1 : Ycv L = 90
  ·rw [if_pos e1] at h; simp at h
  rw [if_neg e1] at h ⊢
  by_cases e2 : Ycv L = 12
  ·rw [if_pos e2] at h; simp at h
  rw [if_neg e2] at h ⊢
  by_cases hk : M.readK (Yx pc L.length) 1 4 = true
  ·rw [if_pos hk] at h ⊢
   exact ih _ h
  ·rw [if_neg hk] at h; simp at h
theorem Ygg {M : Mem} {pc : Int} (h : (Yat M pc).k = true) : 1 ≤ (Yat M pc).i.len ∧ (Yat M pc).i.len ≤ 15 := Ysl M pc 16 [] h
def Yhb (pc at_ : Int) (row : List Ins) : Bool := decide (row.length < 8) && (!Yfc (row.getD (row.length - 1) Ins.zero) && ((at_ - 1) % 4294967296 / 256 == pc / 256))
def Ye4 (pc at_ : Int) (r : FeR) : Bool := r.k && ((at_ + r.i.len - 1) % 4294967296 / 256 == pc / 256)
def Yf5 (M : Mem) (pc : Int) : Nat → List Ins → Int → List Ins
 |0, row, _ => row
 |n + 1, row, at_ => if Yhb pc at_ row = true ∧ Ye4 pc at_ (Yat M at_) = true then Yf5 M pc n (row ++ [(Yat M at_).i]) ((at_ + (Yat M at_).i.len) % 4294967296) else row
def Ybp (M : Mem) (pc : Int) : List Ins := if (Yat M pc).k = true then Yf5 M pc 8 [(Yat M pc).i] ((pc + (Yat M pc).i.len) % 4294967296) else []
def Ygk (M : Mem) (pc : Int) : Flt := if (Yat M pc).k = true then Flt.zero else (Yat M pc).f
def Ygz (M : Mem) (pc : Int) : Bool := (Yat M pc).k
theorem Yn1 (i : Ins) (w : World) : (Instr.buildSlice 30 1 #[(0, .agg i.cells)]).run Tryz.prog w = .ok (.slice (some ⟨w.heap.size, 0, none⟩) 1 1) (w.alloc (.cells i.cells 42)) := by
 unfold Ins.cells
 kernel_rfl
theorem Yjt (w : World) (ty : TypeId) (b o dLen dCap : Nat) (a : Addr) (sLen sCap : Nat) (cs : List Value) (hn : cs.length = Nat.min sLen dLen * 16)
  (hsrc : ∀ j v, cs[j]? = some v → w.cell? (a.add j) = some v) (hc : ∀ j, j < cs.length → (w.cell? ⟨b, o + j, none⟩).isSome = true) (hf : ∀ j, j < cs.length → w.frozen? ⟨b, o + j, none⟩ = false) (h1 : ∀ v ∈ cs, v.oneCell' = true) :
  (Builtin.copy_ #[30, 30] ty #[.slice (some ⟨b, o, none⟩) dLen dCap, .slice (some a) sLen sCap]).run Tryz.prog w = .ok (goInt (Nat.min sLen dLen)) (w.setCells b o cs) := by
 have hl := run_loadCells_list (P := Tryz.prog) w a cs hsrc
 have hst := run_storeCells_cells (P := Tryz.prog) b o cs 0 w (by simpa using hc) (by simpa using hf) h1
 have hi := Yer
 cases hq : Tryz.prog.info? 42 with
 |none => simp [hq] at hi
 |some i =>
  have hi : i.size = 16 := by simpa [hq] using hi
  simp [Builtin.copy_, run_underlying Tryz.underlying30, Builtin.lenOf, Builtin.firstCells, sizeOf, typeInfo, hq, hi, ← hn, hl, hst]
theorem Yj4 {op : Oper} {a : Act} {w : World} {K : Act → World → Prop} {Q : Exit → Act → World → Prop} (i : Ins) (x : Operand) (ho : op.op = .buildSlice 30 1 #[(0, x)]) (hx : a.eval x = .agg i.cells)
  (hK : K (a.put op.dst (.slice (some ⟨w.heap.size, 0, none⟩) 1 1)) (w.alloc (.cells i.cells 42))) : op.wp Tryz.prog a w K Q := by
 unfold Oper.wp execOp
 simp only [ho, List.map_toArray, List.map_cons, List.map_nil, hx, Sem.run_bind, Yn1, Result.andThen_ok, Sem.run_pure]
 exact hK
theorem Ykt {ops : Array Oper} {rest : List Oper} {o : Oper} {a : Act} {w : World} {Q : Exit → Act → World → Prop} (hgd : o.guard = none) (s x : Operand)
  (ho : o.op = .call { callee := .builtin .copy, args := #[s, x], argTypes := #[30, 30] })
  (b off dLen dCap : Nat) (ad : Addr) (sLen sCap : Nat) (cs : List Value) (hs : a.eval s = .slice (some ⟨b, off, none⟩) dLen dCap) (hx : a.eval x = .slice (some ad) sLen sCap) (hn : cs.length = Nat.min sLen dLen * 16)
  (hsrc : ∀ j v, cs[j]? = some v → w.cell? (ad.add j) = some v) (hc : ∀ j, j < cs.length → (w.cell? ⟨b, off + j, none⟩).isSome = true) (hf : ∀ j, j < cs.length → w.frozen? ⟨b, off + j, none⟩ = false) (h1 : ∀ v ∈ cs, v.oneCell' = true)
  (h : ∀ w', w.setCells b off cs = w' → wpList Tryz.prog ops Q rest (a.put o.dst (goInt (Nat.min sLen dLen))) w') : wpList Tryz.prog ops Q (o :: rest) a w := by
 refine wpList_plain hgd fun _ hK => ?_
 unfold Oper.wp execOp
 simp only [ho, resolve, invoke, builtin, Sem.run_bind, Sem.run_pure, Result.andThen_ok, List.map_toArray, List.map_cons, List.map_nil, hs, hx, Yjt w o.type b off dLen dCap ad sLen sCap cs hn hsrc hc hf h1]
 exact hK _ _ (h _ rfl)
theorem wr_get' (c : Array Value) (o : Nat) (l : List Value) (h : o + l.length ≤ c.size) (k : Nat) : (wr c o l)[k]? = if o ≤ k ∧ k < o + l.length then l[k - o]? else c[k]? := Yhj l c o k h
end Go.Proofs.YteiplidhkelkbaaGreat
