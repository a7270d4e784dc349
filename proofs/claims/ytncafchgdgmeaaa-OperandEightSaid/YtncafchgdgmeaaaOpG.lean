/-
  The law OperandEight: the walk. No condition.
-/
import Derived.Test.YtncafchgdgmeaaaOpE
import Derived.Test.YtncafchgdgmeaaaAk12
import Derived.Test.YtncafchgdgmeaaaStK
namespace Go.Proofs.Ytncafchgdgmeaaa
open Go Go.RowKit
set_option linter.unusedVariables false
set_option linter.unusedSimpArgs false

theorem loadN_ok (L : List SpanV) (h : loadB L = true) : ∀ j, j ≤ L.length → (loadN L j).Ok
  | 0, _ => Mem.zero_ok
  | j + 1, hj => by
    rw [loadB, List.all_eq_true] at h
    have hb := h j (List.mem_range.2 (by omega))
    simp only [Mem.spanB, Bool.and_eq_true, decide_eq_true_eq] at hb
    have hr : rightsB (L.getD j default).rt = true := by
      have := hb.1
      simp only [Mem.mapB, Bool.and_eq_true] at this
      exact this.1
    have hr1 := (rightsB_iff _).1 hr
    rw [loadN, Mem.span1]
    exact Mem.poke_ok (Mem.mapN_ok (loadN_ok L (by rw [loadB, List.all_eq_true]; exact h) j (by omega)) _ _ (by omega) (by omega)) _ _ (strInts_ok _)

theorem loadR_ok (L : List SpanV) : (loadR L Mem.zero).Ok := by
  unfold loadR
  split
  · rename_i h; exact loadN_ok L h _ (Nat.le_refl _)
  · exact Mem.zero_ok

set_option maxRecDepth 100000 in
set_option maxHeartbeats 2000000 in
theorem OperandEight_walk (v : Value) (L : List SpanV) (g : Nat) (x u : Int) (w : World) (hS : SArg w v L g) (h0 : 0 ≤ x) (h1 : x < 4294967296) (hu0 : 0 ≤ u) (hu1 : u < 18446744073709551616) :
    Calls Try.prog 9 #[v, .int .u32 x, .int .u64 u] w fun e w' => e = .returned (.bool true) ∧ Upd [] w w' := by
  have HS := Lib.hid hS
  have HX0 := Lib.hid h0
  have HX1 := Lib.hid h1
  have HU0 := Lib.hid hu0
  have HU1 := Lib.hid hu1
  clear hS h0 h1 hu0 hu1
  have tok1 : True := trivial
  have tok2 : True := trivial
  cases hfew : fewB L
  · have HFew := Lib.hid hfew
    clear hfew
    go_enter Try.func9, Try.ntmps9
    go_wp2_with (first | (have _t := tok1; clear _t; go_at_call 29; refine (known12_any _).mono ?_; rintro e w1 ⟨rfl, hu⟩; have U1 := Lib.hid hu; clear hu tok1) | (have _t := U1; clear _t; go_at_call 35; refine (both12_any v L g _ (HS.out.keep U1.out)).mono ?_; rintro e w2 ⟨a, pb, rr, rfl, hm, hr, hu, hra, hrp, _, _, _⟩; have U2 := Lib.hid (U1.out.also hu (by simp)); clear hu hm hr hra hrp U1) | (have _t := U2; clear _t; go_at_call 36; refine (few12_any v L g _ (HS.out.keep U2.out)).mono ?_; rintro e w3 ⟨rfl, rfl⟩; rw [HFew.out]))
    go_ret
    exact ⟨rfl, U2.out⟩
  · have HFew := Lib.hid hfew
    clear hfew
    cases hlb : loadB L
    · have HLb := Lib.hid hlb
      clear hlb
      go_enter Try.func9, Try.ntmps9
      go_wp2_with (first | (have _t := tok1; clear _t; go_at_call 29; refine (known12_any _).mono ?_; rintro e w1 ⟨rfl, hu⟩; have U1 := Lib.hid hu; clear hu tok1) | (have _t := U1; clear _t; go_at_call 35; refine (both12_any v L g _ (HS.out.keep U1.out)).mono ?_; rintro e w2 ⟨a, pb, rr, rfl, hm, hr, hu, hra, hrp, _, _, _⟩; rw [HLb.out]; have U2 := Lib.hid (U1.out.also hu (by simp)); clear hu hm hr hra hrp U1) | (have _t := U2; clear _t; go_at_call 36; refine (few12_any v L g _ (HS.out.keep U2.out)).mono ?_; rintro e w3 ⟨rfl, rfl⟩; rw [HFew.out]))
      go_ret
      exact ⟨rfl, U2.out⟩
    · have HLb := Lib.hid hlb
      clear hlb
      obtain ⟨M, hM⟩ : ∃ M, loadR L Mem.zero = M := ⟨_, rfl⟩
      have HMe := Lib.hid hM
      have HOk := Lib.hid (show M.Ok by rw [← hM]; exact loadR_ok L)
      clear hM
      have HF8 := Lib.hid (rd8F_can (M := M.wr8M x u) (by rw [Mem.wr8M]; split; exact Mem.putN_ok (Mem.putN_ok HOk.out _ _ _) _ _ _; exact HOk.out) x)
      have HK8 := Lib.hid (rd8K_can (M := M.wr8M x u) (by rw [Mem.wr8M]; split; exact Mem.putN_ok (Mem.putN_ok HOk.out _ _ _) _ _ _; exact HOk.out) x)
      have HKR := Lib.hid (canK_R (wr8M_R M x u) x 8 1)
      have HFR := Lib.hid (canF_R (wr8M_R M x u) x 8 1)
      have tok3 : True := trivial
      have tok7 : True := trivial
      cases hk2 : M.canK x 8 2
      · have hwm : M.wr8M x u = M := by rw [Mem.wr8M, if_neg (by rw [hk2]; simp)]
        have HWM := Lib.hid hwm
        have HK2 := Lib.hid hk2
        have hf8 := HF8.out
        have hk8 := HK8.out
        rw [hwm] at hf8 hk8
        have HFN := Lib.hid hf8
        clear hk2 HF8 HK8 HKR HFR hf8 hwm
        cases hk1 : M.canK x 8 1
        · have HK1 := Lib.hid hk1
          have HKN := Lib.hid (hk8.trans hk1)
          have HV := Lib.hid (rd8V_no x (hk8.trans hk1))
          clear hk1 hk8
          go_enter Try.func9, Try.ntmps9
          go_wp2_with (first | (have _t := tok1; clear _t; go_at_call 29; refine (known12_any _).mono ?_; rintro e w1 ⟨rfl, hu⟩; have U1 := Lib.hid hu; clear hu tok1) | (have _t := U1; clear _t; go_at_call 35; refine (both12_any v L g _ (HS.out.keep U1.out)).mono ?_; rintro e w2 ⟨a, pb, rr, rfl, hm, hr, hu, hra, hrp, _, hpn, _⟩; rw [HLb.out]; rw [HMe.out] at hm hr; have U2 := Lib.hid (U1.out.also hu (by simp)); have M2 := Lib.hid hm; have R2 := Lib.hid hr; have N2 := Lib.hid (And.intro hra hrp); have P2 := Lib.hid (Nat.le_trans U1.out.size hpn); clear hu hm hr hra hrp hpn U1) | (have _t := tok2; clear _t; go_at_call 36; refine (few12_any v L g _ (HS.out.keep U2.out)).mono ?_; rintro e w3 ⟨rfl, rfl⟩; rw [HFew.out]; have tokL := tok2; clear tok2) | (have _t := tokL; clear _t; go_at_call 37; refine (Lacks_ref M rr 8 x 2 _ R2.out HX0.out HX1.out (by decide) (by decide) (by decide)).mono ?_; rintro e w4 ⟨rfl, hu⟩; rw [HK2.out]; unfold Flt.val; have U4 := Lib.hid (U2.out.also hu (by simp)); have M4 := Lib.hid (M2.out.keep hu (by simp) (by simp)); have R4 := Lib.hid (R2.out.keep hu (by simp)); clear hu tokL) | (have _t := U4; clear _t; go_at_call 38; refine (Write8_any M a pb x u _ (M4.out.keep ((Upd.refl [] _).alloc _) (by simp) (by simp)) HX0.out HX1.out HU0.out HU1.out).mono ?_; rintro e w5 ⟨rfl, hm, hu⟩; rw [HK2.out]; unfold Flt.val; have h10 := hu.get (heap_alloc_new _ _) (by have := M4.out.pl; simp; omega); have c10 := fun (O : Obj) (o : Nat) => cells_of (heap_alloc_keep O h10) o; have U5 := Lib.hid ((U4.out.alloc _).also hu (by have := P2.out; simp; omega)); rw [HWM.out] at hm; have H10 := Lib.hid h10; have M5 := Lib.hid hm; have R5 := Lib.hid (R4.out.keep (((Upd.refl [] _).alloc _).trans (T := [pb]) hu (by simp) (by simp)) (by have := N2.out.2; simpa using this)); have L5 := Lib.hid hu.size; clear hm hu h10; have tok5 := tok3; clear tok3) | (have _t := tok5; clear _t; go_at_call 39; refine (alike12_any M a pb rr _ (M5.out.keep ((Upd.refl [] _).alloc _) (by simp) (by simp)) (R5.out.keep ((Upd.refl [] _).alloc _) (by simp))).mono ?_; rintro e w6 ⟨rfl, hu⟩; have M6 := Lib.hid ((M5.out.keep ((Upd.refl [] _).alloc _) (by simp) (by simp)).keep hu (by simp) (by simp)); have R6 := Lib.hid ((R5.out.keep ((Upd.refl [] _).alloc _) (by simp)).keep hu (by simp)); have U6 := Lib.hid ((U5.out.alloc _).also hu (by simp)); clear hu tok5; have tok6 := tok7; clear tok7) | (have _t := tok6; clear _t; go_at_call 37; refine (Lacks_ref M rr 8 x 1 _ R6.out HX0.out HX1.out (by decide) (by decide) (by decide)).mono ?_; rintro e w7 ⟨rfl, hu⟩; rw [HK1.out]; unfold Flt.val; have U7 := Lib.hid (U6.out.also hu (by simp)); have M7 := Lib.hid (M6.out.keep hu (by simp) (by simp)); clear hu tok6) | (have _t := U7; clear _t; go_at_call 40; refine (Read8_any M a pb x _ (M7.out.keep ((Upd.refl [] _).alloc _) (by simp) (by simp)) HX0.out HX1.out).mono ?_; rintro e w8 ⟨rfl, hu⟩; rw [HV.out, HFN.out, HKN.out]; unfold Flt.val; have h14 := hu.get (heap_alloc_new _ _) (by simp); have c14 := fun (O : Obj) (o : Nat) => cells_of (heap_alloc_keep O h14) o; have U8 := Lib.hid ((U7.out.alloc _).also hu (by simp)); clear hu h14))
          go_ret
          exact ⟨rfl, U8.out.alloc _⟩
        · have HK1 := Lib.hid hk1
          have HKN := Lib.hid (hk8.trans hk1)
          obtain ⟨y, hy⟩ : ∃ y, M.rd8V x = y := ⟨_, rfl⟩
          have HV := Lib.hid hy
          clear hy
          clear hk1 hk8
          go_enter Try.func9, Try.ntmps9
          go_wp2_with (first | (have _t := tok1; clear _t; go_at_call 29; refine (known12_any _).mono ?_; rintro e w1 ⟨rfl, hu⟩; have U1 := Lib.hid hu; clear hu tok1) | (have _t := U1; clear _t; go_at_call 35; refine (both12_any v L g _ (HS.out.keep U1.out)).mono ?_; rintro e w2 ⟨a, pb, rr, rfl, hm, hr, hu, hra, hrp, _, hpn, _⟩; rw [HLb.out]; rw [HMe.out] at hm hr; have U2 := Lib.hid (U1.out.also hu (by simp)); have M2 := Lib.hid hm; have R2 := Lib.hid hr; have N2 := Lib.hid (And.intro hra hrp); have P2 := Lib.hid (Nat.le_trans U1.out.size hpn); clear hu hm hr hra hrp hpn U1) | (have _t := tok2; clear _t; go_at_call 36; refine (few12_any v L g _ (HS.out.keep U2.out)).mono ?_; rintro e w3 ⟨rfl, rfl⟩; rw [HFew.out]; have tokL := tok2; clear tok2) | (have _t := tokL; clear _t; go_at_call 37; refine (Lacks_ref M rr 8 x 2 _ R2.out HX0.out HX1.out (by decide) (by decide) (by decide)).mono ?_; rintro e w4 ⟨rfl, hu⟩; rw [HK2.out]; unfold Flt.val; have U4 := Lib.hid (U2.out.also hu (by simp)); have M4 := Lib.hid (M2.out.keep hu (by simp) (by simp)); have R4 := Lib.hid (R2.out.keep hu (by simp)); clear hu tokL) | (have _t := U4; clear _t; go_at_call 38; refine (Write8_any M a pb x u _ (M4.out.keep ((Upd.refl [] _).alloc _) (by simp) (by simp)) HX0.out HX1.out HU0.out HU1.out).mono ?_; rintro e w5 ⟨rfl, hm, hu⟩; rw [HK2.out]; unfold Flt.val; have h10 := hu.get (heap_alloc_new _ _) (by have := M4.out.pl; simp; omega); have c10 := fun (O : Obj) (o : Nat) => cells_of (heap_alloc_keep O h10) o; have U5 := Lib.hid ((U4.out.alloc _).also hu (by have := P2.out; simp; omega)); rw [HWM.out] at hm; have H10 := Lib.hid h10; have M5 := Lib.hid hm; have R5 := Lib.hid (R4.out.keep (((Upd.refl [] _).alloc _).trans (T := [pb]) hu (by simp) (by simp)) (by have := N2.out.2; simpa using this)); have L5 := Lib.hid hu.size; clear hm hu h10; have tok5 := tok3; clear tok3) | (have _t := tok5; clear _t; go_at_call 39; refine (alike12_any M a pb rr _ (M5.out.keep ((Upd.refl [] _).alloc _) (by simp) (by simp)) (R5.out.keep ((Upd.refl [] _).alloc _) (by simp))).mono ?_; rintro e w6 ⟨rfl, hu⟩; have M6 := Lib.hid ((M5.out.keep ((Upd.refl [] _).alloc _) (by simp) (by simp)).keep hu (by simp) (by simp)); have R6 := Lib.hid ((R5.out.keep ((Upd.refl [] _).alloc _) (by simp)).keep hu (by simp)); have U6 := Lib.hid ((U5.out.alloc _).also hu (by simp)); clear hu tok5; have tok6 := tok7; clear tok7) | (have _t := tok6; clear _t; go_at_call 37; refine (Lacks_ref M rr 8 x 1 _ R6.out HX0.out HX1.out (by decide) (by decide) (by decide)).mono ?_; rintro e w7 ⟨rfl, hu⟩; rw [HK1.out]; unfold Flt.val; have U7 := Lib.hid (U6.out.also hu (by simp)); have M7 := Lib.hid (M6.out.keep hu (by simp) (by simp)); clear hu tok6) | (have _t := U7; clear _t; go_at_call 40; refine (Read8_any M a pb x _ (M7.out.keep ((Upd.refl [] _).alloc _) (by simp) (by simp)) HX0.out HX1.out).mono ?_; rintro e w8 ⟨rfl, hu⟩; rw [HV.out, HFN.out, HKN.out]; unfold Flt.val; have h14 := hu.get (heap_alloc_new _ _) (by simp); have c14 := fun (O : Obj) (o : Nat) => cells_of (heap_alloc_keep O h14) o; have U8 := Lib.hid ((U7.out.alloc _).also hu (by simp)); clear hu h14))
          go_ret
          exact ⟨rfl, U8.out.alloc _⟩
      · have HFN := Lib.hid (HF8.out.trans HFR.out)
        have hk8 := HK8.out.trans HKR.out
        cases hk1 : M.canK x 8 1
        · have HK1 := Lib.hid hk1
          have HKN := Lib.hid (hk8.trans hk1)
          have HV := Lib.hid (rd8V_no x (hk8.trans hk1))
          have HK2 := Lib.hid hk2
          clear hk1 hk2 hk8 HF8 HK8 HKR HFR
          go_enter Try.func9, Try.ntmps9
          go_wp2_with (first | (have _t := tok1; clear _t; go_at_call 29; refine (known12_any _).mono ?_; rintro e w1 ⟨rfl, hu⟩; have U1 := Lib.hid hu; clear hu tok1) | (have _t := U1; clear _t; go_at_call 35; refine (both12_any v L g _ (HS.out.keep U1.out)).mono ?_; rintro e w2 ⟨a, pb, rr, rfl, hm, hr, hu, hra, hrp, _, hpn, _⟩; rw [HLb.out]; rw [HMe.out] at hm hr; have U2 := Lib.hid (U1.out.also hu (by simp)); have M2 := Lib.hid hm; have R2 := Lib.hid hr; have N2 := Lib.hid (And.intro hra hrp); have P2 := Lib.hid (Nat.le_trans U1.out.size hpn); clear hu hm hr hra hrp hpn U1) | (have _t := tok2; clear _t; go_at_call 36; refine (few12_any v L g _ (HS.out.keep U2.out)).mono ?_; rintro e w3 ⟨rfl, rfl⟩; rw [HFew.out]; have tokL := tok2; clear tok2) | (have _t := tokL; clear _t; go_at_call 37; refine (Lacks_ref M rr 8 x 2 _ R2.out HX0.out HX1.out (by decide) (by decide) (by decide)).mono ?_; rintro e w4 ⟨rfl, hu⟩; rw [HK2.out]; unfold Flt.val; have U4 := Lib.hid (U2.out.also hu (by simp)); have M4 := Lib.hid (M2.out.keep hu (by simp) (by simp)); have R4 := Lib.hid (R2.out.keep hu (by simp)); clear hu tokL) | (have _t := U4; clear _t; go_at_call 38; refine (Write8_any M a pb x u _ (M4.out.keep ((Upd.refl [] _).alloc _) (by simp) (by simp)) HX0.out HX1.out HU0.out HU1.out).mono ?_; rintro e w5 ⟨rfl, hm, hu⟩; rw [HK2.out]; unfold Flt.val; have h10 := hu.get (heap_alloc_new _ _) (by have := M4.out.pl; simp; omega); have c10 := fun (O : Obj) (o : Nat) => cells_of (heap_alloc_keep O h10) o; have U5 := Lib.hid ((U4.out.alloc _).also hu (by have := P2.out; simp; omega));  have H10 := Lib.hid h10; have M5 := Lib.hid hm; have R5 := Lib.hid (R4.out.keep (((Upd.refl [] _).alloc _).trans (T := [pb]) hu (by simp) (by simp)) (by have := N2.out.2; simpa using this)); have L5 := Lib.hid hu.size; clear hm hu h10; have tok5 := tok3; clear tok3) | (have _t := tok5; clear _t; go_at_call 37; refine (Lacks_ref M rr 8 x 1 _ (R5.out.keep ((Upd.refl [] _).alloc _) (by simp)) HX0.out HX1.out (by decide) (by decide) (by decide)).mono ?_; rintro e w7 ⟨rfl, hu⟩; rw [HK1.out]; unfold Flt.val; have U7 := Lib.hid ((U5.out.alloc _).also hu (by simp)); have M7 := Lib.hid ((M5.out.keep ((Upd.refl [] _).alloc _) (by simp) (by simp)).keep hu (by simp) (by simp)); clear hu tok5) | (have _t := U7; clear _t; go_at_call 40; refine (Read8_any (M.wr8M x u) a pb x _ (M7.out.keep ((Upd.refl [] _).alloc _) (by simp) (by simp)) HX0.out HX1.out).mono ?_; rintro e w8 ⟨rfl, hu⟩; rw [HV.out, HFN.out, HKN.out]; unfold Flt.val; have h14 := hu.get (heap_alloc_new _ _) (by simp); have c14 := fun (O : Obj) (o : Nat) => cells_of (heap_alloc_keep O h14) o; have U8 := Lib.hid ((U7.out.alloc _).also hu (by simp)); clear hu h14))
          go_ret
          exact ⟨rfl, U8.out.alloc _⟩
        · have HK1 := Lib.hid hk1
          have HKN := Lib.hid (hk8.trans hk1)
          have HV := Lib.hid (rd8_wr8 HOk.out x u HX0.out HX1.out HU0.out HU1.out hk2 hk1)
          have HK2 := Lib.hid hk2
          clear hk1 hk2 hk8 HF8 HK8 HKR HFR
          go_enter Try.func9, Try.ntmps9
          go_wp2_with (first | (have _t := tok1; clear _t; go_at_call 29; refine (known12_any _).mono ?_; rintro e w1 ⟨rfl, hu⟩; have U1 := Lib.hid hu; clear hu tok1) | (have _t := U1; clear _t; go_at_call 35; refine (both12_any v L g _ (HS.out.keep U1.out)).mono ?_; rintro e w2 ⟨a, pb, rr, rfl, hm, hr, hu, hra, hrp, _, hpn, _⟩; rw [HLb.out]; rw [HMe.out] at hm hr; have U2 := Lib.hid (U1.out.also hu (by simp)); have M2 := Lib.hid hm; have R2 := Lib.hid hr; have N2 := Lib.hid (And.intro hra hrp); have P2 := Lib.hid (Nat.le_trans U1.out.size hpn); clear hu hm hr hra hrp hpn U1) | (have _t := tok2; clear _t; go_at_call 36; refine (few12_any v L g _ (HS.out.keep U2.out)).mono ?_; rintro e w3 ⟨rfl, rfl⟩; rw [HFew.out]; have tokL := tok2; clear tok2) | (have _t := tokL; clear _t; go_at_call 37; refine (Lacks_ref M rr 8 x 2 _ R2.out HX0.out HX1.out (by decide) (by decide) (by decide)).mono ?_; rintro e w4 ⟨rfl, hu⟩; rw [HK2.out]; unfold Flt.val; have U4 := Lib.hid (U2.out.also hu (by simp)); have M4 := Lib.hid (M2.out.keep hu (by simp) (by simp)); have R4 := Lib.hid (R2.out.keep hu (by simp)); clear hu tokL) | (have _t := U4; clear _t; go_at_call 38; refine (Write8_any M a pb x u _ (M4.out.keep ((Upd.refl [] _).alloc _) (by simp) (by simp)) HX0.out HX1.out HU0.out HU1.out).mono ?_; rintro e w5 ⟨rfl, hm, hu⟩; rw [HK2.out]; unfold Flt.val; have h10 := hu.get (heap_alloc_new _ _) (by have := M4.out.pl; simp; omega); have c10 := fun (O : Obj) (o : Nat) => cells_of (heap_alloc_keep O h10) o; have U5 := Lib.hid ((U4.out.alloc _).also hu (by have := P2.out; simp; omega));  have H10 := Lib.hid h10; have M5 := Lib.hid hm; have R5 := Lib.hid (R4.out.keep (((Upd.refl [] _).alloc _).trans (T := [pb]) hu (by simp) (by simp)) (by have := N2.out.2; simpa using this)); have L5 := Lib.hid hu.size; clear hm hu h10; have tok5 := tok3; clear tok3) | (have _t := tok5; clear _t; go_at_call 37; refine (Lacks_ref M rr 8 x 1 _ (R5.out.keep ((Upd.refl [] _).alloc _) (by simp)) HX0.out HX1.out (by decide) (by decide) (by decide)).mono ?_; rintro e w7 ⟨rfl, hu⟩; rw [HK1.out]; unfold Flt.val; have U7 := Lib.hid ((U5.out.alloc _).also hu (by simp)); have M7 := Lib.hid ((M5.out.keep ((Upd.refl [] _).alloc _) (by simp) (by simp)).keep hu (by simp) (by simp)); clear hu tok5) | (have _t := U7; clear _t; go_at_call 40; refine (Read8_any (M.wr8M x u) a pb x _ (M7.out.keep ((Upd.refl [] _).alloc _) (by simp) (by simp)) HX0.out HX1.out).mono ?_; rintro e w8 ⟨rfl, hu⟩; rw [HV.out, HFN.out, HKN.out]; unfold Flt.val; have h14 := hu.get (heap_alloc_new _ _) (by simp); have c14 := fun (O : Obj) (o : Nat) => cells_of (heap_alloc_keep O h14) o; have U8 := Lib.hid ((U7.out.alloc _).also hu (by simp)); clear hu h14))
          go_ret
          exact ⟨rfl, U8.out.alloc _⟩

end Go.Proofs.Ytncafchgdgmeaaa
