/-
  Parts of the proof (their names shortened by a program). No condition.
-/
import Derived.Test.YteiplidhkelkbaaGreatMg01
import Derived.Test.YteiplidhkelkbaaGreatMg28
import Derived.Test.YteiplidhkelkbaaGreatMg30
namespace Go.Proofs.YteiplidhkelkbaaGreat
open Go Go.RowKit
set_option linter.unusedVariables false
set_option linter.unusedSimpArgs false
set_option maxRecDepth 100000
set_option maxHeartbeats 16000000
theorem one_or (m : Nat) : (1 < m ∧ decide ((1 : Int) < m) = true) ∨ (¬ 1 < m ∧ decide ((1 : Int) < m) = false) := by
 by_cases h : 1 < m
 ·exact .inl ⟨h, by simp; omega⟩
 ·exact .inr ⟨h, by simp; omega⟩
theorem Yj0 {y : Int} (h : 0 ≤ y ∧ y < 4294967296) : y.tdiv 256 % 4294967296 = y / 256 := by rw [Int.tdiv_eq_ediv_of_nonneg h.1]; omega
theorem ends_few (v : Value) (L : List Ycf) (g : Nat) (pc : Int) (w : World) (hS : Ygu w v L g) (h0 : 0 ≤ pc ∧ pc < 4294967296) (hfew : Ygx L = false) :
  Calls Tryz.prog 4 #[v, .int .u32 pc] w fun e w' => e = .returned (.bool true) ∧ Upd [] w w' := by
 have HS := Yh_ hS
 have HPC := Yh_ h0
 clear hS h0
 have tok1 : True := trivial
 have tok2 : True := trivial
 have HFew := Yh_ hfew
 clear hfew
 go_enter Tryz.func4, Tryz.ntmps4
 go_wp2_with (first | (have _t := tok1; clear _t; go_at_call 5; refine (Yha _).mono ?_; rintro e w1 ⟨rfl, hu⟩; have U1 := Yh_ hu; clear hu tok1) | (have _t := U1; clear _t; go_at_call 6; refine (Yhp v L g _ (HS.out.keep U1.out)).mono ?_; rintro e w2 ⟨a, pb, rr, rfl, hm, hr, hu, hra, hrp, -, -, -⟩; have U2 := Yh_ (U1.out.also hu (by simp)); clear hu hm hr hra hrp U1) | (have _t := U2; clear _t; go_at_call 7; refine (Yic v L g _ (HS.out.keep U2.out)).mono ?_; rintro e w3 ⟨rfl, rfl⟩; rw [HFew.out]))
 go_ret
 exact ⟨rfl, U2.out⟩
theorem ends_bad (v : Value) (L : List Ycf) (g : Nat) (pc : Int) (w : World) (hS : Ygu w v L g) (h0 : 0 ≤ pc ∧ pc < 4294967296) (hfew : Ygx L = true) (hlb : Ydn L = false) :
  Calls Tryz.prog 4 #[v, .int .u32 pc] w fun e w' => e = .returned (.bool true) ∧ Upd [] w w' := by
 have HS := Yh_ hS
 have HPC := Yh_ h0
 clear hS h0
 have tok1 : True := trivial
 have tok2 : True := trivial
 have HFew := Yh_ hfew
 have HLb := Yh_ hlb
 clear hfew hlb
 go_enter Tryz.func4, Tryz.ntmps4
 go_wp2_with (first | (have _t := tok1; clear _t; go_at_call 5; refine (Yha _).mono ?_; rintro e w1 ⟨rfl, hu⟩; have U1 := Yh_ hu; clear hu tok1) | (have _t := U1; clear _t; go_at_call 6; refine (Yhp v L g _ (HS.out.keep U1.out)).mono ?_; rintro e w2 ⟨a, pb, rr, rfl, hm, hr, hu, hra, hrp, -, -, -⟩; rw [HLb.out]; have U2 := Yh_ (U1.out.also hu (by simp)); clear hu hm hr hra hrp U1) | (have _t := U2; clear _t; go_at_call 7; refine (Yic v L g _ (HS.out.keep U2.out)).mono ?_; rintro e w3 ⟨rfl, rfl⟩; rw [HFew.out]))
 go_ret
 exact ⟨rfl, U2.out⟩
theorem Ytu (v : Value) (L : List Ycf) (g : Nat) (pc : Int) (w : World) (hS : Ygu w v L g) (h0 : 0 ≤ pc ∧ pc < 4294967296) (hfew : Ygx L = true) (hlb : Ydn L = true) (hk : Ygz (Yfe L Mem.zero) pc = false) :
  Calls Tryz.prog 4 #[v, .int .u32 pc] w fun e w' => e = .returned (.bool true) ∧ Upd [] w w' := by
 have HS := Yh_ hS
 have HPC := Yh_ h0
 clear hS h0
 have tok1 : True := trivial
 have tok2 : True := trivial
 have HFew := Yh_ hfew
 have HLb := Yh_ hlb
 clear hfew hlb
 obtain ⟨M, hM⟩ : ∃ M, Yfe L Mem.zero = M := ⟨_, rfl⟩
 rw [hM] at hk
 have HMe := Yh_ hM
 clear hM
 obtain ⟨N, hN⟩ : ∃ N, (Ybp M pc).length = N := ⟨_, rfl⟩
 have HN := Yh_ hN
 obtain ⟨⟨fk, fp, fa, fw⟩, hF⟩ : ∃ F, Ygk M pc = F := ⟨_, rfl⟩
 have HJ := Yh_ (And.intro hF hk)
 have e0 : N = 0 := by rw [← hN, findL_no hk]; rfl
 clear hF hk hN
 subst e0
 go_enter Tryz.func4, Tryz.ntmps4
 go_wp2_with (first | (have _t := tok1; clear _t; go_at_call 5; refine (Yha _).mono ?_; rintro e w1 ⟨rfl, hu⟩; have U1 := Yh_ hu; clear hu tok1) | (have _t := U1; clear _t; go_at_call 6; refine (Yhp v L g _ (HS.out.keep U1.out)).mono ?_; rintro e w2 ⟨a, pb, rr, rfl, hm, hr, hu, -, -, -, -, -⟩; rw [HLb.out]; rw [HMe.out] at hm hr; have U2 := Yh_ (And.intro hm (And.intro hr (U1.out.also hu (by simp)))); clear hu hm hr U1) | (have _t := U2; have _t2 := tok2; clear _t _t2 tok2; go_at_call 7; refine (Yic v L g _ (HS.out.keep U2.out.2.2)).mono ?_; rintro e w3 ⟨rfl, rfl⟩; rw [HFew.out]; have tok3 : True := trivial) | (have _t := tok3; clear _t; go_at_call 8; refine (Yiq M a pb pc _ U2.out.1 HPC.out).mono ?_; rintro e w4 ⟨v4, g4, rfl, hI, -, hu⟩; rw [HJ.out.1, HJ.out.2]; unfold Flt.val; obtain ⟨b4, c4, rfl⟩ := hI.form; rw [HN.out] at hI; rw [HN.out]; have K4 := Yh_ ((FnS.mk (U2.out.1.keep hu (by simp) (by simp)) (U2.out.2.1.keep hu (by simp)) hI (U2.out.2.2.also hu (by simp))).step ((Upd.refl [] w4).alloc (.cells #[.int .i64 fk, .int .u32 fp, .int .u32 fa, .int .i64 fw] 32))); clear hu hI U2 tok3))
 go_ret
 exact ⟨rfl, K4.out.u⟩
theorem Yt5 (v : Value) (L : List Ycf) (g : Nat) (pc : Int) (w : World) (hS : Ygu w v L g) (h0 : 0 ≤ pc ∧ pc < 4294967296) (hfew : Ygx L = true) (hlb : Ydn L = true) (hk : Ygz (Yfe L Mem.zero) pc = true) :
  Calls Tryz.prog 4 #[v, .int .u32 pc] w fun e w' => e = .returned (.bool true) ∧ Upd [] w w' := by
 have HS := Yh_ hS
 have HPC := Yh_ h0
 clear hS h0
 have tok1 : True := trivial
 have tok2 : True := trivial
 have HFew := Yh_ hfew
 have HLb := Yh_ hlb
 clear hfew hlb
 obtain ⟨M, hM⟩ : ∃ M, Yfe L Mem.zero = M := ⟨_, rfl⟩
 rw [hM] at hk
 have HMe := Yh_ hM
 clear hM
 obtain ⟨N, hN⟩ : ∃ N, (Ybp M pc).length = N := ⟨_, rfl⟩
 have HN := Yh_ hN
 obtain ⟨⟨fk, fp, fa, fw⟩, hF⟩ : ∃ F, Ygk M pc = F := ⟨_, rfl⟩
 have HJ := Yh_ (And.intro hF hk)
 have hok := findL_ok hk
 have h1N := hok.one
 have h8N := hok.len
 rw [hN] at h1N h8N
 have HOK := Yh_ hok
 have HL8 := Yh_ (show (Ybp M pc).length ≤ 100 by omega)
 have hbz := Yl2 (Ybp M pc) N
 obtain ⟨z, hz⟩ : ∃ z, Ycq (Ybp M pc) N = z := ⟨_, rfl⟩
 have HZ := Yh_ hz
 obtain ⟨m, hm⟩ : ∃ k, N = k + 1 := ⟨N - 1, by omega⟩
 have HNM := Yh_ (show N = m + 1 ∧ N ≤ 8 from ⟨hm, h8N⟩)
 have eN : wrap64 ((N : Int) - 1) = m := by unfold wrap64; omega
 clear hF hk hN hok hbz hz h1N h8N hm
 go_enter Tryz.func4, Tryz.ntmps4
 go_wp2_with (first | (have _t := tok1; clear _t; go_at_call 5; refine (Yha _).mono ?_; rintro e w1 ⟨rfl, hu⟩; have U1 := Yh_ hu; clear hu tok1) | (have _t := U1; clear _t; go_at_call 6; refine (Yhp v L g _ (HS.out.keep U1.out)).mono ?_; rintro e w2 ⟨a, pb, rr, rfl, hm, hr, hu, -, -, -, -, -⟩; rw [HLb.out]; rw [HMe.out] at hm hr; have U2 := Yh_ (And.intro hm (And.intro hr (U1.out.also hu (by simp)))); clear hu hm hr U1) | (have _t := U2; have _t2 := tok2; clear _t _t2 tok2; go_at_call 7; refine (Yic v L g _ (HS.out.keep U2.out.2.2)).mono ?_; rintro e w3 ⟨rfl, rfl⟩; rw [HFew.out]; have tok3 : True := trivial) | (have _t := tok3; clear _t; go_at_call 8; refine (Yiq M a pb pc _ U2.out.1 HPC.out).mono ?_; rintro e w4 ⟨v4, g4, rfl, hI, -, hu⟩; rw [HJ.out.1, HJ.out.2]; unfold Flt.val; obtain ⟨b4, c4, rfl⟩ := hI.form; rw [HN.out] at hI; rw [HN.out]; have K4 := Yh_ ((FnS.mk (U2.out.1.keep hu (by simp) (by simp)) (U2.out.2.1.keep hu (by simp)) hI (U2.out.2.2.also hu (by simp))).step ((Upd.refl [] w4).alloc (.cells #[.int .i64 fk, .int .u32 fp, .int .u32 fa, .int .i64 fw] 32))); clear hu hI U2 tok3))
 go_loopw [11] (fun i wr => ∃ k : Nat, k ≤ m ∧ i = .int .i64 k ∧ FnS a pb rr M b4 c4 N (Ybp M pc) g4 w wr) (fun i _ => m - (intOf i).toNat)
 case atStart => exact ⟨0, Nat.zero_le _, rfl, K4.out⟩
 case round =>
  obtain ⟨k, hk, rfl, hu⟩ := hrel
  have K8 := Yh_ hu
  clear hu K4
  have hkN : k < N := by have := HNM.out; omega
  obtain ⟨x, hx⟩ : ∃ x, (Ybp M pc)[k]? = some x := ⟨(Ybp M pc)[k]'(by rw [HN.out]; exact hkN), List.getElem?_eq_getElem (by rw [HN.out]; exact hkN)⟩
  have HX := Yh_ hx
  have hxd : (Ybp M pc).getD k Ins.zero = x := by rw [List.getD_eq_getElem?_getD, hx]; rfl
  obtain ⟨o4, rfl⟩ := K8.out.i.some (by rw [HN.out]; exact Nat.lt_of_le_of_lt (Nat.zero_le _) hkN)
  by_cases hlt : k < m
  ·have d1 : decide ((k : Int) < m) = true := by simp; omega
   have e1 : wrap64 ((k : Int) + 1) = ((k + 1 : Nat) : Int) := by have := HNM.out; unfold wrap64; omega
   have HE := Yh_ (show Yfc x = false by rw [← hxd]; exact HOK.out.e k (by have := HNM.out; rw [HN.out]; omega))
   have HT := Yh_ hlt
   clear hx hk hlt hxd
   go_wp2_with (first | (have _t := K8; clear _t; refine Ybl x g4 (o4 + k * 16) rfl _ rfl rfl (K8.out.i.at HX.out) ?_; have tE : True := trivial) | (have _t := tE; clear _t tE; go_at_call 15; refine (Yfm x _).mono ?_; rintro e wE ⟨rfl, hu⟩; rw [HE.out]; have K9 := Yh_ (K8.out.step hu); clear hu K8))
   go_roundw
   case rel => exact ⟨k + 1, HT.out, by rw [e1], K9.out⟩
   case measure => exact meas_up HT.out e1
  ·obtain rfl : k = m := by omega
   have d1 : decide ((k : Int) < k) = false := by simp
   clear hlt hk hx
   have hN8 := HNM.out
   have HXD := Yh_ (show (Ybp M pc).getD (N - 1) Ins.zero = x by rw [show N - 1 = k from by omega]; exact hxd)
   have a1 : decide ((N : Int) < 1) = false := by simp; omega
   have a8 : decide ((8 : Int) < N) = false := by simp; omega
   have epc := Yj0 HPC.out
   obtain ⟨y, hy⟩ : ∃ y, (pc + z - 1) % 4294967296 = y := ⟨_, rfl⟩
   have ey := Yj0 (y := y) (by omega)
   obtain ⟨x2, hx2⟩ : ∃ x2, (pc + z) % 4294967296 = x2 := ⟨_, rfl⟩
   have HX2 := Yh_ (show 0 ≤ x2 ∧ x2 < 4294967296 by omega)
   have h3 : 1 < N → y / 256 = pc / 256 := fun h => by have := HOK.out.p; rw [HN.out, HZ.out, hy] at this; exact this h
   have h4 : N < 8 → Yfc x = false → y / 256 = pc / 256 → Ye4 pc x2 (Yat M x2) = false := fun h8 he hp => by have := HOK.out.stop; rw [HN.out, HZ.out, hy, hx2, HXD.out] at this; exact this h8 he hp
   have H4 := Yh_ h4
   clear hxd h4
   rcases one_or N with ⟨h1, q1⟩ | ⟨h1, q1⟩
   ·have hp := h3 h1
    by_cases h8 : N = 8
    ·have q8 : ((N : Int) == 8) = true := by rw [h8]; rfl
     clear h1 h8 h3 hN8
     go_wp2_with (first | (have _t := K8; clear _t; go_at_call 12; refine (Yef _ (Ybp M pc) g4 _ K8.out.i HL8.out).mono ?_; rintro e w9 ⟨rfl, hu⟩; rw [HN.out, HZ.out]; have K9 := Yh_ (K8.out.step hu); clear hu K8))
     go_ret
     exact ⟨rfl, K9.out.u⟩
    ·have q8 : ((N : Int) == 8) = false := by simp; omega
     have h8' : N < 8 := by omega
     cases he : Yfc x
     ·have hb := H4.out h8' he hp
      obtain ⟨J, hJ⟩ : ∃ J, (Yat M x2).i = J := ⟨_, rfl⟩
      obtain ⟨jk, jp, ja, jw, hJF⟩ := Ygm M x2
      cases hk : (Yat M x2).k
      ·have HG := Yh_ (And.intro hJ (And.intro hJF hk))
       clear h1 h3 hN8 h8' hb hJ hJF hk
       go_wp2_with (first | (have _t := K8; clear _t; go_at_call 12; refine (Yef _ (Ybp M pc) g4 _ K8.out.i HL8.out).mono ?_; rintro e w9 ⟨rfl, hu⟩; rw [HN.out, HZ.out]; have K9 := Yh_ (K8.out.step hu); clear hu K8) | (have _t := K9; clear _t; refine Ybl x g4 (o4 + k * 16) rfl _ rfl rfl (K9.out.i.at HX.out) ?_; have tE : True := trivial) | (have _t := tE; clear _t tE; go_at_call 15; refine (Yfm x _).mono ?_; rintro e wE ⟨rfl, hu⟩; rw [he]; have KA := Yh_ (K9.out.step hu); clear hu K9) | (have _t := KA; clear _t; go_at_call 16; refine (Yie M rr x2 _ KA.out.r HX2.out).mono ?_; rintro e wF ⟨rfl, hu⟩; rw [HG.out.1, HG.out.2.1, HG.out.2.2]; unfold Flt.val; have KB := Yh_ (KA.out.step hu); clear hu KA) | (have _t := KB; clear _t; refine Ye 42 rfl ?_; refine Yb J wF.heap.size rfl _ _ rfl rfl rfl (heap_alloc2_old wF (.cells Ins.zero.cells 42) Yfy) rfl ?_; intro wG hw; have h2 := Yfp hw; have c2 := Ya h2.2.1; have f2 := Yh h2.2.1; have u3 := Yap (S := []) (b := wF.heap.size + 1) h2.2.2 (.inr (by simp)) (.int .i64 jk) (.int .u32 jp) (.int .u32 ja) (.int .i64 jw); have c15 := Ya ((Yap (S := [wF.heap.size + 1]) (b := wF.heap.size + 1) (Upd.refl _ wG) (.inl (by simp)) (.int .i64 jk) (.int .u32 jp) (.int .u32 ja) (.int .i64 jw)).get h2.1 (by simp)) 15; rw [show (J.cells)[15]? = some (.int .i64 J.len) from rfl] at c15; have KC := Yh_ (KB.out.step u3); clear h2 hw u3 KB))
       go_ret
       exact ⟨rfl, KC.out.u⟩
      ·have hl := Ygg hk
       rw [hJ] at hl
       have qJ : J.len % 4294967296 = J.len := by omega
       have HG := Yh_ (And.intro hJ (And.intro hJF hk))
       rw [Ye4, hk, hJ, Bool.true_and] at hb
       obtain ⟨y2, hy2⟩ : ∃ y2, (x2 + J.len - 1) % 4294967296 = y2 := ⟨_, rfl⟩
       have ey2 := Yj0 (y := y2) (by omega)
       rw [hy2] at hb
       have hb2 : (y2 / 256 != pc / 256) = true := by simpa using hb
       clear h1 h3 hN8 h8' hb hJ hJF hk hl
       go_wp2_with (first | (have _t := K8; clear _t; go_at_call 12; refine (Yef _ (Ybp M pc) g4 _ K8.out.i HL8.out).mono ?_; rintro e w9 ⟨rfl, hu⟩; rw [HN.out, HZ.out]; have K9 := Yh_ (K8.out.step hu); clear hu K8) | (have _t := K9; clear _t; refine Ybl x g4 (o4 + k * 16) rfl _ rfl rfl (K9.out.i.at HX.out) ?_; have tE : True := trivial) | (have _t := tE; clear _t tE; go_at_call 15; refine (Yfm x _).mono ?_; rintro e wE ⟨rfl, hu⟩; rw [he]; have KA := Yh_ (K9.out.step hu); clear hu K9) | (have _t := KA; clear _t; go_at_call 16; refine (Yie M rr x2 _ KA.out.r HX2.out).mono ?_; rintro e wF ⟨rfl, hu⟩; rw [HG.out.1, HG.out.2.1, HG.out.2.2]; unfold Flt.val; have KB := Yh_ (KA.out.step hu); clear hu KA) | (have _t := KB; clear _t; refine Ye 42 rfl ?_; refine Yb J wF.heap.size rfl _ _ rfl rfl rfl (heap_alloc2_old wF (.cells Ins.zero.cells 42) Yfy) rfl ?_; intro wG hw; have h2 := Yfp hw; have c2 := Ya h2.2.1; have f2 := Yh h2.2.1; have u3 := Yap (S := []) (b := wF.heap.size + 1) h2.2.2 (.inr (by simp)) (.int .i64 jk) (.int .u32 jp) (.int .u32 ja) (.int .i64 jw); have c15 := Ya ((Yap (S := [wF.heap.size + 1]) (b := wF.heap.size + 1) (Upd.refl _ wG) (.inl (by simp)) (.int .i64 jk) (.int .u32 jp) (.int .u32 ja) (.int .i64 jw)).get h2.1 (by simp)) 15; rw [show (J.cells)[15]? = some (.int .i64 J.len) from rfl] at c15; have KC := Yh_ (KB.out.step u3); clear h2 hw u3 KB))
       go_ret
       exact ⟨rfl, KC.out.u⟩
     ·clear h1 h3 hN8 h8'
      go_wp2_with (first | (have _t := K8; clear _t; go_at_call 12; refine (Yef _ (Ybp M pc) g4 _ K8.out.i HL8.out).mono ?_; rintro e w9 ⟨rfl, hu⟩; rw [HN.out, HZ.out]; have K9 := Yh_ (K8.out.step hu); clear hu K8) | (have _t := K9; clear _t; refine Ybl x g4 (o4 + k * 16) rfl _ rfl rfl (K9.out.i.at HX.out) ?_; have tE : True := trivial) | (have _t := tE; clear _t tE; go_at_call 15; refine (Yfm x _).mono ?_; rintro e wE ⟨rfl, hu⟩; rw [he]; have KA := Yh_ (K9.out.step hu); clear hu K9))
      go_ret
      exact ⟨rfl, KA.out.u⟩
   ·by_cases hp : y / 256 = pc / 256
    ·have q8 : ((N : Int) == 8) = false := by simp; omega
     have h8' : N < 8 := by omega
     cases he : Yfc x
     ·have hb := H4.out h8' he hp
      obtain ⟨J, hJ⟩ : ∃ J, (Yat M x2).i = J := ⟨_, rfl⟩
      obtain ⟨jk, jp, ja, jw, hJF⟩ := Ygm M x2
      cases hk : (Yat M x2).k
      ·have HG := Yh_ (And.intro hJ (And.intro hJF hk))
       clear h1 h3 hN8 h8' hb hJ hJF hk
       go_wp2_with (first | (have _t := K8; clear _t; go_at_call 12; refine (Yef _ (Ybp M pc) g4 _ K8.out.i HL8.out).mono ?_; rintro e w9 ⟨rfl, hu⟩; rw [HN.out, HZ.out]; have K9 := Yh_ (K8.out.step hu); clear hu K8) | (have _t := K9; clear _t; refine Ybl x g4 (o4 + k * 16) rfl _ rfl rfl (K9.out.i.at HX.out) ?_; have tE : True := trivial) | (have _t := tE; clear _t tE; go_at_call 15; refine (Yfm x _).mono ?_; rintro e wE ⟨rfl, hu⟩; rw [he]; have KA := Yh_ (K9.out.step hu); clear hu K9) | (have _t := KA; clear _t; go_at_call 16; refine (Yie M rr x2 _ KA.out.r HX2.out).mono ?_; rintro e wF ⟨rfl, hu⟩; rw [HG.out.1, HG.out.2.1, HG.out.2.2]; unfold Flt.val; have KB := Yh_ (KA.out.step hu); clear hu KA) | (have _t := KB; clear _t; refine Ye 42 rfl ?_; refine Yb J wF.heap.size rfl _ _ rfl rfl rfl (heap_alloc2_old wF (.cells Ins.zero.cells 42) Yfy) rfl ?_; intro wG hw; have h2 := Yfp hw; have c2 := Ya h2.2.1; have f2 := Yh h2.2.1; have u3 := Yap (S := []) (b := wF.heap.size + 1) h2.2.2 (.inr (by simp)) (.int .i64 jk) (.int .u32 jp) (.int .u32 ja) (.int .i64 jw); have c15 := Ya ((Yap (S := [wF.heap.size + 1]) (b := wF.heap.size + 1) (Upd.refl _ wG) (.inl (by simp)) (.int .i64 jk) (.int .u32 jp) (.int .u32 ja) (.int .i64 jw)).get h2.1 (by simp)) 15; rw [show (J.cells)[15]? = some (.int .i64 J.len) from rfl] at c15; have KC := Yh_ (KB.out.step u3); clear h2 hw u3 KB))
       go_ret
       exact ⟨rfl, KC.out.u⟩
      ·have hl := Ygg hk
       rw [hJ] at hl
       have qJ : J.len % 4294967296 = J.len := by omega
       have HG := Yh_ (And.intro hJ (And.intro hJF hk))
       rw [Ye4, hk, hJ, Bool.true_and] at hb
       obtain ⟨y2, hy2⟩ : ∃ y2, (x2 + J.len - 1) % 4294967296 = y2 := ⟨_, rfl⟩
       have ey2 := Yj0 (y := y2) (by omega)
       rw [hy2] at hb
       have hb2 : (y2 / 256 != pc / 256) = true := by simpa using hb
       clear h1 h3 hN8 h8' hb hJ hJF hk hl
       go_wp2_with (first | (have _t := K8; clear _t; go_at_call 12; refine (Yef _ (Ybp M pc) g4 _ K8.out.i HL8.out).mono ?_; rintro e w9 ⟨rfl, hu⟩; rw [HN.out, HZ.out]; have K9 := Yh_ (K8.out.step hu); clear hu K8) | (have _t := K9; clear _t; refine Ybl x g4 (o4 + k * 16) rfl _ rfl rfl (K9.out.i.at HX.out) ?_; have tE : True := trivial) | (have _t := tE; clear _t tE; go_at_call 15; refine (Yfm x _).mono ?_; rintro e wE ⟨rfl, hu⟩; rw [he]; have KA := Yh_ (K9.out.step hu); clear hu K9) | (have _t := KA; clear _t; go_at_call 16; refine (Yie M rr x2 _ KA.out.r HX2.out).mono ?_; rintro e wF ⟨rfl, hu⟩; rw [HG.out.1, HG.out.2.1, HG.out.2.2]; unfold Flt.val; have KB := Yh_ (KA.out.step hu); clear hu KA) | (have _t := KB; clear _t; refine Ye 42 rfl ?_; refine Yb J wF.heap.size rfl _ _ rfl rfl rfl (heap_alloc2_old wF (.cells Ins.zero.cells 42) Yfy) rfl ?_; intro wG hw; have h2 := Yfp hw; have c2 := Ya h2.2.1; have f2 := Yh h2.2.1; have u3 := Yap (S := []) (b := wF.heap.size + 1) h2.2.2 (.inr (by simp)) (.int .i64 jk) (.int .u32 jp) (.int .u32 ja) (.int .i64 jw); have c15 := Ya ((Yap (S := [wF.heap.size + 1]) (b := wF.heap.size + 1) (Upd.refl _ wG) (.inl (by simp)) (.int .i64 jk) (.int .u32 jp) (.int .u32 ja) (.int .i64 jw)).get h2.1 (by simp)) 15; rw [show (J.cells)[15]? = some (.int .i64 J.len) from rfl] at c15; have KC := Yh_ (KB.out.step u3); clear h2 hw u3 KB))
       go_ret
       exact ⟨rfl, KC.out.u⟩
     ·clear h1 h3 hN8 h8'
      go_wp2_with (first | (have _t := K8; clear _t; go_at_call 12; refine (Yef _ (Ybp M pc) g4 _ K8.out.i HL8.out).mono ?_; rintro e w9 ⟨rfl, hu⟩; rw [HN.out, HZ.out]; have K9 := Yh_ (K8.out.step hu); clear hu K8) | (have _t := K9; clear _t; refine Ybl x g4 (o4 + k * 16) rfl _ rfl rfl (K9.out.i.at HX.out) ?_; have tE : True := trivial) | (have _t := tE; clear _t tE; go_at_call 15; refine (Yfm x _).mono ?_; rintro e wE ⟨rfl, hu⟩; rw [he]; have KA := Yh_ (K9.out.step hu); clear hu K9))
      go_ret
      exact ⟨rfl, KA.out.u⟩
    ·have q8 : ((N : Int) == 8) = false := by simp; omega
     clear h1 h3 hN8
     cases he : Yfc x
     all_goals
      go_wp2_with (first | (have _t := K8; clear _t; go_at_call 12; refine (Yef _ (Ybp M pc) g4 _ K8.out.i HL8.out).mono ?_; rintro e w9 ⟨rfl, hu⟩; rw [HN.out, HZ.out]; have K9 := Yh_ (K8.out.step hu); clear hu K8) | (have _t := K9; clear _t; refine Ybl x g4 (o4 + k * 16) rfl _ rfl rfl (K9.out.i.at HX.out) ?_; have tE : True := trivial) | (have _t := tE; clear _t tE; go_at_call 15; refine (Yfm x _).mono ?_; rintro e wE ⟨rfl, hu⟩; rw [he]; have KA := Yh_ (K9.out.step hu); clear hu K9))
      go_ret
      exact ⟨rfl, KA.out.u⟩
theorem Ylr (v : Value) (L : List Ycf) (g : Nat) (pc : Int) (w : World) (hS : Ygu w v L g) (h0 : 0 ≤ pc ∧ pc < 4294967296) :
  Calls Tryz.prog 4 #[v, .int .u32 pc] w fun e w' => e = .returned (.bool true) ∧ Upd [] w w' := by
 cases hfew : Ygx L
 ·exact ends_few v L g pc w hS h0 hfew
 cases hlb : Ydn L
 ·exact ends_bad v L g pc w hS h0 hfew hlb
 cases hk : Ygz (Yfe L Mem.zero) pc
 ·exact Ytu v L g pc w hS h0 hfew hlb hk
 ·exact Yt5 v L g pc w hS h0 hfew hlb hk
end Go.Proofs.YteiplidhkelkbaaGreat
