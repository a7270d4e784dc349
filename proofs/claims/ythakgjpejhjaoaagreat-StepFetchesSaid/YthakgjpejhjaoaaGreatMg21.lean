/-
  Parts of the proof (their names shortened by a program). No condition.
-/
import Derived.Test.YthakgjpejhjaoaaGreatMg01
import Derived.Test.YthakgjpejhjaoaaGreatMg20
namespace Go.Proofs.YthakgjpejhjaoaaGreat
open Go Go.RowKit
set_option linter.unusedVariables false
set_option linter.unusedSimpArgs false
set_option maxRecDepth 100000
set_option maxHeartbeats 16000000
theorem Yfo {w : World} {g : Nat} {l : List Int} (o c : Nat) (h : w.heap[g]? = some (.cells #[.int .u8 184, .int .u8 7, .int .u8 0, .int .u8 0, .int .u8 0] 5 (0, 0))) (hl : ∀ i, i < l.length → #[Value.int .u8 184, .int .u8 7, .int .u8 0, .int .u8 0, .int .u8 0][o + i]? = some (.int .u8 (l.getD i 0))) : Ydj w (.slice (some ⟨g, o, none⟩) l.length c) l g :=
 .inr ⟨o, c, _, _, _, rfl, h, hl⟩
theorem Yod (k n : Int) (w : World) (hk : k.tmod 5 = 1) (hn : n.tmod 8 = 0) :
  Calls Tryz.prog 10 #[.int .u8 k, .int .u8 n] w fun e w' => e = .returned (.bool true) ∧ Upd [] w w' := by
 have e8 : 0 < 8 := by omega
 have HP1 := Yh_ (Ydk 1 (by decide) 0 e8)
 have hy := Yfx 1 (by decide) 0 e8 (by omega)
 obtain ⟨i, hi⟩ : ∃ i, (Ym (Yp 1 0) (251 + (1 : Nat))).i = i := ⟨_, rfl⟩
 obtain ⟨⟨fk, fp, fa, fw⟩, hF⟩ : ∃ F, (Ym (Yp 1 0) (251 + (1 : Nat))).f = F := ⟨_, rfl⟩
 rw [hF] at hy
 obtain ⟨hk, e1, e2, e3, e4⟩ := hy
 dsimp only at e1 e2 e3 e4
 subst e1 e2 e3 e4
 have HF := Yh_ (And.intro hi (And.intro hF hk))
 clear hi hF hk
 have tok : True := trivial
 go_enter Tryz.func10, Tryz.ntmps10
 go_wp2_with (first | (have _t := tok; clear _t; go_at_call 12; refine (Ybp _).mono ?_; rintro e w0 ⟨rfl, hu0⟩; clear tok) | (have _t := hu0; clear _t; go_at_call 13; refine (Ych _).mono ?_; rintro e w1 ⟨a, pb, rfl, ha, hp, hM1, hu1⟩; have hS : ∀ x, x ∈ [pb] → x ∈ ([] : List Nat) ∨ w.heap.size ≤ x := (fun x hx => .inr (List.mem_singleton.mp hx ▸ Nat.le_trans hu0.size hp)); have HS := Yh_ hS; have U1 := Yh_ (hu0.also hu1 (by simp)); clear hu0 hu1 ha hp hS) | (have _t := hM1; clear _t; go_at_call 14; refine (Ybi Mem.zero a pb 0 1 7 _ hM1 (by decide)).mono ?_; rintro e w2 ⟨rfl, hM2, hu2⟩; rw [Ycw, Yz]; have K2 := Yh_ (And.intro (show Yk w2 a pb Ya9 from hM2) (U1.out.also hu2 HS.out)); clear hM1 hM2 hu2 U1) | (have _t := K2; clear _t; go_at_call 20; have hn := heap_alloc_new w2 (.cells #[.int .u8 184, .int .u8 7, .int .u8 0, .int .u8 0, .int .u8 0] 5); have hpb : w2.heap.size ≠ pb := (by obtain ⟨C, _, hc⟩ := K2.out.1.pg; exact Nat.ne_of_gt (Yh hc)); refine (Ya6 (Ya5 0) a pb 252 _ [184, 7, 0, 0] w2.heap.size _ (K2.out.1.keep ((Upd.refl [] w2).alloc _) (by simp) (by simp)) (by decide) (by decide) (Yfo (l := [184, 7, 0, 0]) 0 _ hn (fun i hi => match i, hi with | 0, _ => rfl | 1, _ => rfl | 2, _ => rfl | 3, _ => rfl | i + 4, h => absurd h (by simp))) hpb (Ya7 (by decide)) (by simp [maxLen])).mono ?_; rintro e w4 ⟨rfl, hM4, hu4⟩; rw [show (Ya5 0).pokeB 252 [184, 7, 0, 0] = true from HP1.out, Yz]; have K4 := Yh_ (And.intro (show Yk w4 a pb (Ybh 1 0) from hM4) (And.intro ((K2.out.2.alloc (.cells #[.int .u8 184, .int .u8 7, .int .u8 0, .int .u8 0, .int .u8 0] 5)).also hu4 HS.out) (And.intro (hu4.get hn (by simpa using hpb)) hpb))); clear hM4 hu4 hn hpb K2) | (have _t := K4; clear _t; go_at_call 21; refine (Ybu (Yp 1 0) a pb 252 _ (show Yk w4 a pb (Yp 1 0) from K4.out.1) (by decide)).mono ?_; rintro e w6 ⟨rfl, hu6⟩; rw [show (Ym (Yp 1 0) 252).i = i from HF.out.1, show (Ym (Yp 1 0) 252).f = _ from HF.out.2.1, show (Ym (Yp 1 0) 252).k = _ from HF.out.2.2]; unfold Flt.val; have K6 := Yh_ (K4.out.2.1.also hu6 (by simp)); clear hu6 K4) | (have _t := K6; clear _t; refine Ye 41 rfl ?_; refine Yc i w6.heap.size rfl _ _ rfl rfl rfl (heap_alloc2_old w6 (.cells Ins.zero.cells 41) (.cells #[.int .i64 0, .int .u32 0, .int .u32 0, .int .i64 0] 35)) rfl ?_; intro w7 hw; have h2 := Yb4 hw; have c2 := Ya h2.2.1; have f2 := Yi h2.2.1; have HI := Yh_ (And.intro h2.1 (And.intro (K6.out.also h2.2.2 (fun _ h => .inl h)) (Nat.le_succ_of_le K6.out.size))); skip; clear hw h2 K6))
 exact bodyPost_ret (Yd rfl (Yt 4 rfl)) rfl ⟨rfl, Yab HI.out.2.1 (.inr HI.out.2.2) _ _ _ _⟩
theorem sf_1_low (k n : Int) (w : World) (q : Nat) (h1 : 1 ≤ q) (h4 : q < 4) (hk : k.tmod 5 = 1) (hn : n.tmod 8 = q) :
  Calls Tryz.prog 10 #[.int .u8 k, .int .u8 n] w fun e w' => e = .returned (.bool true) ∧ Upd [] w w' := by
 have e8 : q < 8 := by omega
 have p1 : 1 ≤ q := by omega
 have d0 : decide (0 < (q : Int)) = true := by simp <;> omega
 have d1 : decide (0 < q) = true := by simp <;> omega
 have wq : wrap64 (q : Int) = q := by unfold wrap64; omega
 have HM2 := Yh_ (Yeg q e8 p1)
 have HP2 := Yh_ (Ye5 1 (by decide) q e8 p1)
 have han : (bits .and .i64 (q : Int) 4 != 0) = false := by rw [Yef q e8]; (simp <;> omega)
 have HQ := Yh_ (show Ya5 q = Ya9.mapM 1 1 q from if_neg (by omega))
 have HQ2 := Yh_ (show Yp 1 q = (Ybh 1 q).poke 256 [0] from if_neg (by omega))
 have HP1 := Yh_ (Ydk 1 (by decide) q e8)
 have hy := Yfx 1 (by decide) q e8 (by omega)
 obtain ⟨i, hi⟩ : ∃ i, (Ym (Yp 1 q) (251 + (1 : Nat))).i = i := ⟨_, rfl⟩
 obtain ⟨⟨fk, fp, fa, fw⟩, hF⟩ : ∃ F, (Ym (Yp 1 q) (251 + (1 : Nat))).f = F := ⟨_, rfl⟩
 rw [hF] at hy
 obtain ⟨hk, e1, e2, e3, e4⟩ := hy
 dsimp only at e1 e2 e3 e4
 subst e1 e2 e3 e4
 have HF := Yh_ (And.intro hi (And.intro hF hk))
 clear hi hF hk
 have tok : True := trivial
 go_enter Tryz.func10, Tryz.ntmps10
 go_wp2_with (first | (have _t := tok; clear _t; go_at_call 12; refine (Ybp _).mono ?_; rintro e w0 ⟨rfl, hu0⟩; clear tok) | (have _t := hu0; clear _t; go_at_call 13; refine (Ych _).mono ?_; rintro e w1 ⟨a, pb, rfl, ha, hp, hM1, hu1⟩; have hS : ∀ x, x ∈ [pb] → x ∈ ([] : List Nat) ∨ w.heap.size ≤ x := (fun x hx => .inr (List.mem_singleton.mp hx ▸ Nat.le_trans hu0.size hp)); have HS := Yh_ hS; have U1 := Yh_ (hu0.also hu1 (by simp)); clear hu0 hu1 ha hp hS) | (have _t := hM1; clear _t; go_at_call 14; refine (Ybi Mem.zero a pb 0 1 7 _ hM1 (by decide)).mono ?_; rintro e w2 ⟨rfl, hM2, hu2⟩; rw [Ycw, Yz]; have K2 := Yh_ (And.intro (show Yk w2 a pb Ya9 from hM2) (U1.out.also hu2 HS.out)); clear hM1 hM2 hu2 U1) | (have _t := K2; clear _t; go_at_call 14; refine (Ybi Ya9 a pb 1 1 q _ K2.out.1 (by decide)).mono ?_; rintro e w3 ⟨rfl, hM3, hu3⟩; rw [HM2.out, Yz]; rw [← HQ.out] at hM3; have K3 := Yh_ (And.intro hM3 (K2.out.2.also hu3 HS.out)); clear hM3 hu3 K2) | (have _t := K3; clear _t; go_at_call 20; have hn := heap_alloc_new w3 (.cells #[.int .u8 184, .int .u8 7, .int .u8 0, .int .u8 0, .int .u8 0] 5); have hpb : w3.heap.size ≠ pb := (by obtain ⟨C, _, hc⟩ := K3.out.1.pg; exact Nat.ne_of_gt (Yh hc)); refine (Ya6 (Ya5 q) a pb 252 _ [184, 7, 0, 0] w3.heap.size _ (K3.out.1.keep ((Upd.refl [] w3).alloc _) (by simp) (by simp)) (by decide) (by decide) (Yfo (l := [184, 7, 0, 0]) 0 _ hn (fun i hi => match i, hi with | 0, _ => rfl | 1, _ => rfl | 2, _ => rfl | 3, _ => rfl | i + 4, h => absurd h (by simp))) hpb (Ya7 (by decide)) (by simp [maxLen])).mono ?_; rintro e w4 ⟨rfl, hM4, hu4⟩; rw [show (Ya5 q).pokeB 252 [184, 7, 0, 0] = true from HP1.out, Yz]; have K4 := Yh_ (And.intro (show Yk w4 a pb (Ybh 1 q) from hM4) (And.intro ((K3.out.2.alloc (.cells #[.int .u8 184, .int .u8 7, .int .u8 0, .int .u8 0, .int .u8 0] 5)).also hu4 HS.out) (And.intro (hu4.get hn (by simpa using hpb)) hpb))); clear hM4 hu4 hn hpb K3) | (have _t := K4; clear _t; go_at_call 20; refine (Ya6 (Ybh 1 q) a pb 256 _ [0] w3.heap.size _ K4.out.1 (by decide) (by decide) (Yfo (l := [0]) 4 _ K4.out.2.2.1 (fun i hi => match i, hi with | 0, _ => rfl | i + 1, h => absurd h (by simp))) K4.out.2.2.2 (Ya7 (by decide)) (by simp [maxLen])).mono ?_; rintro e w5 ⟨rfl, hM5, hu5⟩; rw [show (Ybh 1 q).pokeB 256 [0] = true from HP2.out, Yz]; rw [← HQ2.out] at hM5; have K5 := Yh_ (And.intro hM5 (K4.out.2.1.also hu5 HS.out)); clear hM5 hu5 K4) | (have _t := K5; clear _t; go_at_call 21; refine (Ybu (Yp 1 q) a pb 252 _ K5.out.1 (by decide)).mono ?_; rintro e w6 ⟨rfl, hu6⟩; rw [show (Ym (Yp 1 q) 252).i = i from HF.out.1, show (Ym (Yp 1 q) 252).f = _ from HF.out.2.1, show (Ym (Yp 1 q) 252).k = _ from HF.out.2.2]; unfold Flt.val; have K6 := Yh_ (K5.out.2.also hu6 (by simp)); clear hu6 K5) | (have _t := K6; clear _t; refine Ye 41 rfl ?_; refine Yc i w6.heap.size rfl _ _ rfl rfl rfl (heap_alloc2_old w6 (.cells Ins.zero.cells 41) (.cells #[.int .i64 0, .int .u32 0, .int .u32 0, .int .i64 0] 35)) rfl ?_; intro w7 hw; have h2 := Yb4 hw; have c2 := Ya h2.2.1; have f2 := Yi h2.2.1; have HI := Yh_ (And.intro h2.1 (And.intro (K6.out.also h2.2.2 (fun _ h => .inl h)) (Nat.le_succ_of_le K6.out.size))); skip; clear hw h2 K6))
 exact bodyPost_ret (Yd rfl (Yt 4 rfl)) rfl ⟨rfl, Yab HI.out.2.1 (.inr HI.out.2.2) _ _ _ _⟩
theorem Ynu (k n : Int) (w : World) (q : Nat) (h1 : 4 ≤ q) (h8 : q < 8) (hk : k.tmod 5 = 1) (hn : n.tmod 8 = q) :
  Calls Tryz.prog 10 #[.int .u8 k, .int .u8 n] w fun e w' => e = .returned (.bool true) ∧ Upd [] w w' := by
 have e8 : q < 8 := by omega
 have p1 : 1 ≤ q := by omega
 have d0 : decide (0 < (q : Int)) = true := by simp <;> omega
 have d1 : decide (0 < q) = true := by simp <;> omega
 have wq : wrap64 (q : Int) = q := by unfold wrap64; omega
 have HM2 := Yh_ (Yeg q e8 p1)
 have HP2 := Yh_ (Ye5 1 (by decide) q e8 p1)
 have han : (bits .and .i64 (q : Int) 4 != 0) = true := by rw [Yef q e8]; (simp <;> omega)
 have HQ := Yh_ (show Ya5 q = Ya9.mapM 1 1 q from if_neg (by omega))
 have HQ2 := Yh_ (show Yp 1 q = (Ybh 1 q).poke 256 [0] from if_neg (by omega))
 have HP1 := Yh_ (Ydk 1 (by decide) q e8)
 have hy := Yf4 1 (by decide) q e8 (by omega)
 obtain ⟨i, hi⟩ : ∃ i, (Ym (Yp 1 q) (251 + (1 : Nat))).i = i := ⟨_, rfl⟩
 rw [hi] at hy
 obtain ⟨⟨fk, fp, fa, fw⟩, hF⟩ : ∃ F, (Ym (Yp 1 q) (251 + (1 : Nat))).f = F := ⟨_, rfl⟩
 have HF := Yh_ (And.intro hi (And.intro hF hy))
 clear hi hF hy
 have tok : True := trivial
 go_enter Tryz.func10, Tryz.ntmps10
 go_wp2_with (first | (have _t := tok; clear _t; go_at_call 12; refine (Ybp _).mono ?_; rintro e w0 ⟨rfl, hu0⟩; clear tok) | (have _t := hu0; clear _t; go_at_call 13; refine (Ych _).mono ?_; rintro e w1 ⟨a, pb, rfl, ha, hp, hM1, hu1⟩; have hS : ∀ x, x ∈ [pb] → x ∈ ([] : List Nat) ∨ w.heap.size ≤ x := (fun x hx => .inr (List.mem_singleton.mp hx ▸ Nat.le_trans hu0.size hp)); have HS := Yh_ hS; have U1 := Yh_ (hu0.also hu1 (by simp)); clear hu0 hu1 ha hp hS) | (have _t := hM1; clear _t; go_at_call 14; refine (Ybi Mem.zero a pb 0 1 7 _ hM1 (by decide)).mono ?_; rintro e w2 ⟨rfl, hM2, hu2⟩; rw [Ycw, Yz]; have K2 := Yh_ (And.intro (show Yk w2 a pb Ya9 from hM2) (U1.out.also hu2 HS.out)); clear hM1 hM2 hu2 U1) | (have _t := K2; clear _t; go_at_call 14; refine (Ybi Ya9 a pb 1 1 q _ K2.out.1 (by decide)).mono ?_; rintro e w3 ⟨rfl, hM3, hu3⟩; rw [HM2.out, Yz]; rw [← HQ.out] at hM3; have K3 := Yh_ (And.intro hM3 (K2.out.2.also hu3 HS.out)); clear hM3 hu3 K2) | (have _t := K3; clear _t; go_at_call 20; have hn := heap_alloc_new w3 (.cells #[.int .u8 184, .int .u8 7, .int .u8 0, .int .u8 0, .int .u8 0] 5); have hpb : w3.heap.size ≠ pb := (by obtain ⟨C, _, hc⟩ := K3.out.1.pg; exact Nat.ne_of_gt (Yh hc)); refine (Ya6 (Ya5 q) a pb 252 _ [184, 7, 0, 0] w3.heap.size _ (K3.out.1.keep ((Upd.refl [] w3).alloc _) (by simp) (by simp)) (by decide) (by decide) (Yfo (l := [184, 7, 0, 0]) 0 _ hn (fun i hi => match i, hi with | 0, _ => rfl | 1, _ => rfl | 2, _ => rfl | 3, _ => rfl | i + 4, h => absurd h (by simp))) hpb (Ya7 (by decide)) (by simp [maxLen])).mono ?_; rintro e w4 ⟨rfl, hM4, hu4⟩; rw [show (Ya5 q).pokeB 252 [184, 7, 0, 0] = true from HP1.out, Yz]; have K4 := Yh_ (And.intro (show Yk w4 a pb (Ybh 1 q) from hM4) (And.intro ((K3.out.2.alloc (.cells #[.int .u8 184, .int .u8 7, .int .u8 0, .int .u8 0, .int .u8 0] 5)).also hu4 HS.out) (And.intro (hu4.get hn (by simpa using hpb)) hpb))); clear hM4 hu4 hn hpb K3) | (have _t := K4; clear _t; go_at_call 20; refine (Ya6 (Ybh 1 q) a pb 256 _ [0] w3.heap.size _ K4.out.1 (by decide) (by decide) (Yfo (l := [0]) 4 _ K4.out.2.2.1 (fun i hi => match i, hi with | 0, _ => rfl | i + 1, h => absurd h (by simp))) K4.out.2.2.2 (Ya7 (by decide)) (by simp [maxLen])).mono ?_; rintro e w5 ⟨rfl, hM5, hu5⟩; rw [show (Ybh 1 q).pokeB 256 [0] = true from HP2.out, Yz]; rw [← HQ2.out] at hM5; have K5 := Yh_ (And.intro hM5 (K4.out.2.1.also hu5 HS.out)); clear hM5 hu5 K4) | (have _t := K5; clear _t; go_at_call 21; refine (Ybu (Yp 1 q) a pb 252 _ K5.out.1 (by decide)).mono ?_; rintro e w6 ⟨rfl, hu6⟩; rw [show (Ym (Yp 1 q) 252).i = i from HF.out.1, show (Ym (Yp 1 q) 252).f = _ from HF.out.2.1, show (Ym (Yp 1 q) 252).k = _ from HF.out.2.2.1]; unfold Flt.val; have K6 := Yh_ (K5.out.2.also hu6 (by simp)); clear hu6 K5) | (have _t := K6; clear _t; refine Ye 41 rfl ?_; refine Yc i w6.heap.size rfl _ _ rfl rfl rfl (heap_alloc2_old w6 (.cells Ins.zero.cells 41) (.cells #[.int .i64 0, .int .u32 0, .int .u32 0, .int .i64 0] 35)) rfl ?_; intro w7 hw; have h2 := Yb4 hw; have c2 := Ya h2.2.1; have f2 := Yi h2.2.1; have HI := Yh_ (And.intro h2.1 (And.intro (K6.out.also h2.2.2 (fun _ h => .inl h)) (Nat.le_succ_of_le K6.out.size))); have c15 := Ya HI.out.1 15; rw [show i.cells[15]? = some (.int .i64 i.len) from rfl, HF.out.2.2.2.1] at c15; have c10 := Ya HI.out.1 10; rw [show i.cells[10]? = some (.int .u32 i.b.imm) from rfl, HF.out.2.2.2.2] at c10; clear hw h2 K6))
 exact bodyPost_ret (Yd rfl (Yt 4 rfl)) rfl ⟨rfl, Yab HI.out.2.1 (.inr HI.out.2.2) _ _ _ _⟩
theorem Yfh {w : World} {g : Nat} {l : List Int} (o c : Nat) (h : w.heap[g]? = some (.cells #[.int .u8 184, .int .u8 7, .int .u8 0, .int .u8 0, .int .u8 0] 5 (0, 0))) (hl : ∀ i, i < l.length → #[Value.int .u8 184, .int .u8 7, .int .u8 0, .int .u8 0, .int .u8 0][o + i]? = some (.int .u8 (l.getD i 0))) : Ydj w (.slice (some ⟨g, o, none⟩) l.length c) l g :=
 .inr ⟨o, c, _, _, _, rfl, h, hl⟩
theorem Yny (k n : Int) (w : World) (hk : k.tmod 5 = 2) (hn : n.tmod 8 = 0) :
  Calls Tryz.prog 10 #[.int .u8 k, .int .u8 n] w fun e w' => e = .returned (.bool true) ∧ Upd [] w w' := by
 have e8 : 0 < 8 := by omega
 have HP1 := Yh_ (Ydk 2 (by decide) 0 e8)
 have hy := Yfx 2 (by decide) 0 e8 (by omega)
 obtain ⟨i, hi⟩ : ∃ i, (Ym (Yp 2 0) (251 + (2 : Nat))).i = i := ⟨_, rfl⟩
 obtain ⟨⟨fk, fp, fa, fw⟩, hF⟩ : ∃ F, (Ym (Yp 2 0) (251 + (2 : Nat))).f = F := ⟨_, rfl⟩
 rw [hF] at hy
 obtain ⟨hk, e1, e2, e3, e4⟩ := hy
 dsimp only at e1 e2 e3 e4
 subst e1 e2 e3 e4
 have HF := Yh_ (And.intro hi (And.intro hF hk))
 clear hi hF hk
 have tok : True := trivial
 go_enter Tryz.func10, Tryz.ntmps10
 go_wp2_with (first | (have _t := tok; clear _t; go_at_call 12; refine (Ybp _).mono ?_; rintro e w0 ⟨rfl, hu0⟩; clear tok) | (have _t := hu0; clear _t; go_at_call 13; refine (Ych _).mono ?_; rintro e w1 ⟨a, pb, rfl, ha, hp, hM1, hu1⟩; have hS : ∀ x, x ∈ [pb] → x ∈ ([] : List Nat) ∨ w.heap.size ≤ x := (fun x hx => .inr (List.mem_singleton.mp hx ▸ Nat.le_trans hu0.size hp)); have HS := Yh_ hS; have U1 := Yh_ (hu0.also hu1 (by simp)); clear hu0 hu1 ha hp hS) | (have _t := hM1; clear _t; go_at_call 14; refine (Ybi Mem.zero a pb 0 1 7 _ hM1 (by decide)).mono ?_; rintro e w2 ⟨rfl, hM2, hu2⟩; rw [Ycw, Yz]; have K2 := Yh_ (And.intro (show Yk w2 a pb Ya9 from hM2) (U1.out.also hu2 HS.out)); clear hM1 hM2 hu2 U1) | (have _t := K2; clear _t; go_at_call 20; have hn := heap_alloc_new w2 (.cells #[.int .u8 184, .int .u8 7, .int .u8 0, .int .u8 0, .int .u8 0] 5); have hpb : w2.heap.size ≠ pb := (by obtain ⟨C, _, hc⟩ := K2.out.1.pg; exact Nat.ne_of_gt (Yh hc)); refine (Ya6 (Ya5 0) a pb 253 _ [184, 7, 0] w2.heap.size _ (K2.out.1.keep ((Upd.refl [] w2).alloc _) (by simp) (by simp)) (by decide) (by decide) (Yfh (l := [184, 7, 0]) 0 _ hn (fun i hi => match i, hi with | 0, _ => rfl | 1, _ => rfl | 2, _ => rfl | i + 3, h => absurd h (by simp))) hpb (Ya7 (by decide)) (by simp [maxLen])).mono ?_; rintro e w4 ⟨rfl, hM4, hu4⟩; rw [show (Ya5 0).pokeB 253 [184, 7, 0] = true from HP1.out, Yz]; have K4 := Yh_ (And.intro (show Yk w4 a pb (Ybh 2 0) from hM4) (And.intro ((K2.out.2.alloc (.cells #[.int .u8 184, .int .u8 7, .int .u8 0, .int .u8 0, .int .u8 0] 5)).also hu4 HS.out) (And.intro (hu4.get hn (by simpa using hpb)) hpb))); clear hM4 hu4 hn hpb K2) | (have _t := K4; clear _t; go_at_call 21; refine (Ybu (Yp 2 0) a pb 253 _ (show Yk w4 a pb (Yp 2 0) from K4.out.1) (by decide)).mono ?_; rintro e w6 ⟨rfl, hu6⟩; rw [show (Ym (Yp 2 0) 253).i = i from HF.out.1, show (Ym (Yp 2 0) 253).f = _ from HF.out.2.1, show (Ym (Yp 2 0) 253).k = _ from HF.out.2.2]; unfold Flt.val; have K6 := Yh_ (K4.out.2.1.also hu6 (by simp)); clear hu6 K4) | (have _t := K6; clear _t; refine Ye 41 rfl ?_; refine Yc i w6.heap.size rfl _ _ rfl rfl rfl (heap_alloc2_old w6 (.cells Ins.zero.cells 41) (.cells #[.int .i64 0, .int .u32 0, .int .u32 0, .int .i64 0] 35)) rfl ?_; intro w7 hw; have h2 := Yb4 hw; have c2 := Ya h2.2.1; have f2 := Yi h2.2.1; have HI := Yh_ (And.intro h2.1 (And.intro (K6.out.also h2.2.2 (fun _ h => .inl h)) (Nat.le_succ_of_le K6.out.size))); skip; clear hw h2 K6))
 exact bodyPost_ret (Yd rfl (Yt 4 rfl)) rfl ⟨rfl, Yab HI.out.2.1 (.inr HI.out.2.2) _ _ _ _⟩
theorem sf_2_low (k n : Int) (w : World) (q : Nat) (h1 : 1 ≤ q) (h4 : q < 4) (hk : k.tmod 5 = 2) (hn : n.tmod 8 = q) :
  Calls Tryz.prog 10 #[.int .u8 k, .int .u8 n] w fun e w' => e = .returned (.bool true) ∧ Upd [] w w' := by
 have e8 : q < 8 := by omega
 have p1 : 1 ≤ q := by omega
 have d0 : decide (0 < (q : Int)) = true := by simp <;> omega
 have d1 : decide (0 < q) = true := by simp <;> omega
 have wq : wrap64 (q : Int) = q := by unfold wrap64; omega
 have HM2 := Yh_ (Yeg q e8 p1)
 have HP2 := Yh_ (Ye5 2 (by decide) q e8 p1)
 have han : (bits .and .i64 (q : Int) 4 != 0) = false := by rw [Yef q e8]; (simp <;> omega)
 have HQ := Yh_ (show Ya5 q = Ya9.mapM 1 1 q from if_neg (by omega))
 have HQ2 := Yh_ (show Yp 2 q = (Ybh 2 q).poke 256 [0, 0] from if_neg (by omega))
 have HP1 := Yh_ (Ydk 2 (by decide) q e8)
 have hy := Yfx 2 (by decide) q e8 (by omega)
 obtain ⟨i, hi⟩ : ∃ i, (Ym (Yp 2 q) (251 + (2 : Nat))).i = i := ⟨_, rfl⟩
 obtain ⟨⟨fk, fp, fa, fw⟩, hF⟩ : ∃ F, (Ym (Yp 2 q) (251 + (2 : Nat))).f = F := ⟨_, rfl⟩
 rw [hF] at hy
 obtain ⟨hk, e1, e2, e3, e4⟩ := hy
 dsimp only at e1 e2 e3 e4
 subst e1 e2 e3 e4
 have HF := Yh_ (And.intro hi (And.intro hF hk))
 clear hi hF hk
 have tok : True := trivial
 go_enter Tryz.func10, Tryz.ntmps10
 go_wp2_with (first | (have _t := tok; clear _t; go_at_call 12; refine (Ybp _).mono ?_; rintro e w0 ⟨rfl, hu0⟩; clear tok) | (have _t := hu0; clear _t; go_at_call 13; refine (Ych _).mono ?_; rintro e w1 ⟨a, pb, rfl, ha, hp, hM1, hu1⟩; have hS : ∀ x, x ∈ [pb] → x ∈ ([] : List Nat) ∨ w.heap.size ≤ x := (fun x hx => .inr (List.mem_singleton.mp hx ▸ Nat.le_trans hu0.size hp)); have HS := Yh_ hS; have U1 := Yh_ (hu0.also hu1 (by simp)); clear hu0 hu1 ha hp hS) | (have _t := hM1; clear _t; go_at_call 14; refine (Ybi Mem.zero a pb 0 1 7 _ hM1 (by decide)).mono ?_; rintro e w2 ⟨rfl, hM2, hu2⟩; rw [Ycw, Yz]; have K2 := Yh_ (And.intro (show Yk w2 a pb Ya9 from hM2) (U1.out.also hu2 HS.out)); clear hM1 hM2 hu2 U1) | (have _t := K2; clear _t; go_at_call 14; refine (Ybi Ya9 a pb 1 1 q _ K2.out.1 (by decide)).mono ?_; rintro e w3 ⟨rfl, hM3, hu3⟩; rw [HM2.out, Yz]; rw [← HQ.out] at hM3; have K3 := Yh_ (And.intro hM3 (K2.out.2.also hu3 HS.out)); clear hM3 hu3 K2) | (have _t := K3; clear _t; go_at_call 20; have hn := heap_alloc_new w3 (.cells #[.int .u8 184, .int .u8 7, .int .u8 0, .int .u8 0, .int .u8 0] 5); have hpb : w3.heap.size ≠ pb := (by obtain ⟨C, _, hc⟩ := K3.out.1.pg; exact Nat.ne_of_gt (Yh hc)); refine (Ya6 (Ya5 q) a pb 253 _ [184, 7, 0] w3.heap.size _ (K3.out.1.keep ((Upd.refl [] w3).alloc _) (by simp) (by simp)) (by decide) (by decide) (Yfh (l := [184, 7, 0]) 0 _ hn (fun i hi => match i, hi with | 0, _ => rfl | 1, _ => rfl | 2, _ => rfl | i + 3, h => absurd h (by simp))) hpb (Ya7 (by decide)) (by simp [maxLen])).mono ?_; rintro e w4 ⟨rfl, hM4, hu4⟩; rw [show (Ya5 q).pokeB 253 [184, 7, 0] = true from HP1.out, Yz]; have K4 := Yh_ (And.intro (show Yk w4 a pb (Ybh 2 q) from hM4) (And.intro ((K3.out.2.alloc (.cells #[.int .u8 184, .int .u8 7, .int .u8 0, .int .u8 0, .int .u8 0] 5)).also hu4 HS.out) (And.intro (hu4.get hn (by simpa using hpb)) hpb))); clear hM4 hu4 hn hpb K3) | (have _t := K4; clear _t; go_at_call 20; refine (Ya6 (Ybh 2 q) a pb 256 _ [0, 0] w3.heap.size _ K4.out.1 (by decide) (by decide) (Yfh (l := [0, 0]) 3 _ K4.out.2.2.1 (fun i hi => match i, hi with | 0, _ => rfl | 1, _ => rfl | i + 2, h => absurd h (by simp))) K4.out.2.2.2 (Ya7 (by decide)) (by simp [maxLen])).mono ?_; rintro e w5 ⟨rfl, hM5, hu5⟩; rw [show (Ybh 2 q).pokeB 256 [0, 0] = true from HP2.out, Yz]; rw [← HQ2.out] at hM5; have K5 := Yh_ (And.intro hM5 (K4.out.2.1.also hu5 HS.out)); clear hM5 hu5 K4) | (have _t := K5; clear _t; go_at_call 21; refine (Ybu (Yp 2 q) a pb 253 _ K5.out.1 (by decide)).mono ?_; rintro e w6 ⟨rfl, hu6⟩; rw [show (Ym (Yp 2 q) 253).i = i from HF.out.1, show (Ym (Yp 2 q) 253).f = _ from HF.out.2.1, show (Ym (Yp 2 q) 253).k = _ from HF.out.2.2]; unfold Flt.val; have K6 := Yh_ (K5.out.2.also hu6 (by simp)); clear hu6 K5) | (have _t := K6; clear _t; refine Ye 41 rfl ?_; refine Yc i w6.heap.size rfl _ _ rfl rfl rfl (heap_alloc2_old w6 (.cells Ins.zero.cells 41) (.cells #[.int .i64 0, .int .u32 0, .int .u32 0, .int .i64 0] 35)) rfl ?_; intro w7 hw; have h2 := Yb4 hw; have c2 := Ya h2.2.1; have f2 := Yi h2.2.1; have HI := Yh_ (And.intro h2.1 (And.intro (K6.out.also h2.2.2 (fun _ h => .inl h)) (Nat.le_succ_of_le K6.out.size))); skip; clear hw h2 K6))
 exact bodyPost_ret (Yd rfl (Yt 4 rfl)) rfl ⟨rfl, Yab HI.out.2.1 (.inr HI.out.2.2) _ _ _ _⟩
theorem Yn2 (k n : Int) (w : World) (q : Nat) (h1 : 4 ≤ q) (h8 : q < 8) (hk : k.tmod 5 = 2) (hn : n.tmod 8 = q) :
  Calls Tryz.prog 10 #[.int .u8 k, .int .u8 n] w fun e w' => e = .returned (.bool true) ∧ Upd [] w w' := by
 have e8 : q < 8 := by omega
 have p1 : 1 ≤ q := by omega
 have d0 : decide (0 < (q : Int)) = true := by simp <;> omega
 have d1 : decide (0 < q) = true := by simp <;> omega
 have wq : wrap64 (q : Int) = q := by unfold wrap64; omega
 have HM2 := Yh_ (Yeg q e8 p1)
 have HP2 := Yh_ (Ye5 2 (by decide) q e8 p1)
 have han : (bits .and .i64 (q : Int) 4 != 0) = true := by rw [Yef q e8]; (simp <;> omega)
 have HQ := Yh_ (show Ya5 q = Ya9.mapM 1 1 q from if_neg (by omega))
 have HQ2 := Yh_ (show Yp 2 q = (Ybh 2 q).poke 256 [0, 0] from if_neg (by omega))
 have HP1 := Yh_ (Ydk 2 (by decide) q e8)
 have hy := Yf4 2 (by decide) q e8 (by omega)
 obtain ⟨i, hi⟩ : ∃ i, (Ym (Yp 2 q) (251 + (2 : Nat))).i = i := ⟨_, rfl⟩
 rw [hi] at hy
 obtain ⟨⟨fk, fp, fa, fw⟩, hF⟩ : ∃ F, (Ym (Yp 2 q) (251 + (2 : Nat))).f = F := ⟨_, rfl⟩
 have HF := Yh_ (And.intro hi (And.intro hF hy))
 clear hi hF hy
 have tok : True := trivial
 go_enter Tryz.func10, Tryz.ntmps10
 go_wp2_with (first | (have _t := tok; clear _t; go_at_call 12; refine (Ybp _).mono ?_; rintro e w0 ⟨rfl, hu0⟩; clear tok) | (have _t := hu0; clear _t; go_at_call 13; refine (Ych _).mono ?_; rintro e w1 ⟨a, pb, rfl, ha, hp, hM1, hu1⟩; have hS : ∀ x, x ∈ [pb] → x ∈ ([] : List Nat) ∨ w.heap.size ≤ x := (fun x hx => .inr (List.mem_singleton.mp hx ▸ Nat.le_trans hu0.size hp)); have HS := Yh_ hS; have U1 := Yh_ (hu0.also hu1 (by simp)); clear hu0 hu1 ha hp hS) | (have _t := hM1; clear _t; go_at_call 14; refine (Ybi Mem.zero a pb 0 1 7 _ hM1 (by decide)).mono ?_; rintro e w2 ⟨rfl, hM2, hu2⟩; rw [Ycw, Yz]; have K2 := Yh_ (And.intro (show Yk w2 a pb Ya9 from hM2) (U1.out.also hu2 HS.out)); clear hM1 hM2 hu2 U1) | (have _t := K2; clear _t; go_at_call 14; refine (Ybi Ya9 a pb 1 1 q _ K2.out.1 (by decide)).mono ?_; rintro e w3 ⟨rfl, hM3, hu3⟩; rw [HM2.out, Yz]; rw [← HQ.out] at hM3; have K3 := Yh_ (And.intro hM3 (K2.out.2.also hu3 HS.out)); clear hM3 hu3 K2) | (have _t := K3; clear _t; go_at_call 20; have hn := heap_alloc_new w3 (.cells #[.int .u8 184, .int .u8 7, .int .u8 0, .int .u8 0, .int .u8 0] 5); have hpb : w3.heap.size ≠ pb := (by obtain ⟨C, _, hc⟩ := K3.out.1.pg; exact Nat.ne_of_gt (Yh hc)); refine (Ya6 (Ya5 q) a pb 253 _ [184, 7, 0] w3.heap.size _ (K3.out.1.keep ((Upd.refl [] w3).alloc _) (by simp) (by simp)) (by decide) (by decide) (Yfh (l := [184, 7, 0]) 0 _ hn (fun i hi => match i, hi with | 0, _ => rfl | 1, _ => rfl | 2, _ => rfl | i + 3, h => absurd h (by simp))) hpb (Ya7 (by decide)) (by simp [maxLen])).mono ?_; rintro e w4 ⟨rfl, hM4, hu4⟩; rw [show (Ya5 q).pokeB 253 [184, 7, 0] = true from HP1.out, Yz]; have K4 := Yh_ (And.intro (show Yk w4 a pb (Ybh 2 q) from hM4) (And.intro ((K3.out.2.alloc (.cells #[.int .u8 184, .int .u8 7, .int .u8 0, .int .u8 0, .int .u8 0] 5)).also hu4 HS.out) (And.intro (hu4.get hn (by simpa using hpb)) hpb))); clear hM4 hu4 hn hpb K3) | (have _t := K4; clear _t; go_at_call 20; refine (Ya6 (Ybh 2 q) a pb 256 _ [0, 0] w3.heap.size _ K4.out.1 (by decide) (by decide) (Yfh (l := [0, 0]) 3 _ K4.out.2.2.1 (fun i hi => match i, hi with | 0, _ => rfl | 1, _ => rfl | i + 2, h => absurd h (by simp))) K4.out.2.2.2 (Ya7 (by decide)) (by simp [maxLen])).mono ?_; rintro e w5 ⟨rfl, hM5, hu5⟩; rw [show (Ybh 2 q).pokeB 256 [0, 0] = true from HP2.out, Yz]; rw [← HQ2.out] at hM5; have K5 := Yh_ (And.intro hM5 (K4.out.2.1.also hu5 HS.out)); clear hM5 hu5 K4) | (have _t := K5; clear _t; go_at_call 21; refine (Ybu (Yp 2 q) a pb 253 _ K5.out.1 (by decide)).mono ?_; rintro e w6 ⟨rfl, hu6⟩; rw [show (Ym (Yp 2 q) 253).i = i from HF.out.1, show (Ym (Yp 2 q) 253).f = _ from HF.out.2.1, show (Ym (Yp 2 q) 253).k = _ from HF.out.2.2.1]; unfold Flt.val; have K6 := Yh_ (K5.out.2.also hu6 (by simp)); clear hu6 K5) | (have _t := K6; clear _t; refine Ye 41 rfl ?_; refine Yc i w6.heap.size rfl _ _ rfl rfl rfl (heap_alloc2_old w6 (.cells Ins.zero.cells 41) (.cells #[.int .i64 0, .int .u32 0, .int .u32 0, .int .i64 0] 35)) rfl ?_; intro w7 hw; have h2 := Yb4 hw; have c2 := Ya h2.2.1; have f2 := Yi h2.2.1; have HI := Yh_ (And.intro h2.1 (And.intro (K6.out.also h2.2.2 (fun _ h => .inl h)) (Nat.le_succ_of_le K6.out.size))); have c15 := Ya HI.out.1 15; rw [show i.cells[15]? = some (.int .i64 i.len) from rfl, HF.out.2.2.2.1] at c15; have c10 := Ya HI.out.1 10; rw [show i.cells[10]? = some (.int .u32 i.b.imm) from rfl, HF.out.2.2.2.2] at c10; clear hw h2 K6))
 exact bodyPost_ret (Yd rfl (Yt 4 rfl)) rfl ⟨rfl, Yab HI.out.2.1 (.inr HI.out.2.2) _ _ _ _⟩
theorem Yfl {w : World} {g : Nat} {l : List Int} (o c : Nat) (h : w.heap[g]? = some (.cells #[.int .u8 184, .int .u8 7, .int .u8 0, .int .u8 0, .int .u8 0] 5 (0, 0))) (hl : ∀ i, i < l.length → #[Value.int .u8 184, .int .u8 7, .int .u8 0, .int .u8 0, .int .u8 0][o + i]? = some (.int .u8 (l.getD i 0))) : Ydj w (.slice (some ⟨g, o, none⟩) l.length c) l g :=
 .inr ⟨o, c, _, _, _, rfl, h, hl⟩
theorem Yob (k n : Int) (w : World) (hk : k.tmod 5 = 3) (hn : n.tmod 8 = 0) :
  Calls Tryz.prog 10 #[.int .u8 k, .int .u8 n] w fun e w' => e = .returned (.bool true) ∧ Upd [] w w' := by
 have e8 : 0 < 8 := by omega
 have HP1 := Yh_ (Ydk 3 (by decide) 0 e8)
 have hy := Yfx 3 (by decide) 0 e8 (by omega)
 obtain ⟨i, hi⟩ : ∃ i, (Ym (Yp 3 0) (251 + (3 : Nat))).i = i := ⟨_, rfl⟩
 obtain ⟨⟨fk, fp, fa, fw⟩, hF⟩ : ∃ F, (Ym (Yp 3 0) (251 + (3 : Nat))).f = F := ⟨_, rfl⟩
 rw [hF] at hy
 obtain ⟨hk, e1, e2, e3, e4⟩ := hy
 dsimp only at e1 e2 e3 e4
 subst e1 e2 e3 e4
 have HF := Yh_ (And.intro hi (And.intro hF hk))
 clear hi hF hk
 have tok : True := trivial
 go_enter Tryz.func10, Tryz.ntmps10
 go_wp2_with (first | (have _t := tok; clear _t; go_at_call 12; refine (Ybp _).mono ?_; rintro e w0 ⟨rfl, hu0⟩; clear tok) | (have _t := hu0; clear _t; go_at_call 13; refine (Ych _).mono ?_; rintro e w1 ⟨a, pb, rfl, ha, hp, hM1, hu1⟩; have hS : ∀ x, x ∈ [pb] → x ∈ ([] : List Nat) ∨ w.heap.size ≤ x := (fun x hx => .inr (List.mem_singleton.mp hx ▸ Nat.le_trans hu0.size hp)); have HS := Yh_ hS; have U1 := Yh_ (hu0.also hu1 (by simp)); clear hu0 hu1 ha hp hS) | (have _t := hM1; clear _t; go_at_call 14; refine (Ybi Mem.zero a pb 0 1 7 _ hM1 (by decide)).mono ?_; rintro e w2 ⟨rfl, hM2, hu2⟩; rw [Ycw, Yz]; have K2 := Yh_ (And.intro (show Yk w2 a pb Ya9 from hM2) (U1.out.also hu2 HS.out)); clear hM1 hM2 hu2 U1) | (have _t := K2; clear _t; go_at_call 20; have hn := heap_alloc_new w2 (.cells #[.int .u8 184, .int .u8 7, .int .u8 0, .int .u8 0, .int .u8 0] 5); have hpb : w2.heap.size ≠ pb := (by obtain ⟨C, _, hc⟩ := K2.out.1.pg; exact Nat.ne_of_gt (Yh hc)); refine (Ya6 (Ya5 0) a pb 254 _ [184, 7] w2.heap.size _ (K2.out.1.keep ((Upd.refl [] w2).alloc _) (by simp) (by simp)) (by decide) (by decide) (Yfl (l := [184, 7]) 0 _ hn (fun i hi => match i, hi with | 0, _ => rfl | 1, _ => rfl | i + 2, h => absurd h (by simp))) hpb (Ya7 (by decide)) (by simp [maxLen])).mono ?_; rintro e w4 ⟨rfl, hM4, hu4⟩; rw [show (Ya5 0).pokeB 254 [184, 7] = true from HP1.out, Yz]; have K4 := Yh_ (And.intro (show Yk w4 a pb (Ybh 3 0) from hM4) (And.intro ((K2.out.2.alloc (.cells #[.int .u8 184, .int .u8 7, .int .u8 0, .int .u8 0, .int .u8 0] 5)).also hu4 HS.out) (And.intro (hu4.get hn (by simpa using hpb)) hpb))); clear hM4 hu4 hn hpb K2) | (have _t := K4; clear _t; go_at_call 21; refine (Ybu (Yp 3 0) a pb 254 _ (show Yk w4 a pb (Yp 3 0) from K4.out.1) (by decide)).mono ?_; rintro e w6 ⟨rfl, hu6⟩; rw [show (Ym (Yp 3 0) 254).i = i from HF.out.1, show (Ym (Yp 3 0) 254).f = _ from HF.out.2.1, show (Ym (Yp 3 0) 254).k = _ from HF.out.2.2]; unfold Flt.val; have K6 := Yh_ (K4.out.2.1.also hu6 (by simp)); clear hu6 K4) | (have _t := K6; clear _t; refine Ye 41 rfl ?_; refine Yc i w6.heap.size rfl _ _ rfl rfl rfl (heap_alloc2_old w6 (.cells Ins.zero.cells 41) (.cells #[.int .i64 0, .int .u32 0, .int .u32 0, .int .i64 0] 35)) rfl ?_; intro w7 hw; have h2 := Yb4 hw; have c2 := Ya h2.2.1; have f2 := Yi h2.2.1; have HI := Yh_ (And.intro h2.1 (And.intro (K6.out.also h2.2.2 (fun _ h => .inl h)) (Nat.le_succ_of_le K6.out.size))); skip; clear hw h2 K6))
 exact bodyPost_ret (Yd rfl (Yt 4 rfl)) rfl ⟨rfl, Yab HI.out.2.1 (.inr HI.out.2.2) _ _ _ _⟩
theorem sf_3_low (k n : Int) (w : World) (q : Nat) (h1 : 1 ≤ q) (h4 : q < 4) (hk : k.tmod 5 = 3) (hn : n.tmod 8 = q) :
  Calls Tryz.prog 10 #[.int .u8 k, .int .u8 n] w fun e w' => e = .returned (.bool true) ∧ Upd [] w w' := by
 have e8 : q < 8 := by omega
 have p1 : 1 ≤ q := by omega
 have d0 : decide (0 < (q : Int)) = true := by simp <;> omega
 have d1 : decide (0 < q) = true := by simp <;> omega
 have wq : wrap64 (q : Int) = q := by unfold wrap64; omega
 have HM2 := Yh_ (Yeg q e8 p1)
 have HP2 := Yh_ (Ye5 3 (by decide) q e8 p1)
 have han : (bits .and .i64 (q : Int) 4 != 0) = false := by rw [Yef q e8]; (simp <;> omega)
 have HQ := Yh_ (show Ya5 q = Ya9.mapM 1 1 q from if_neg (by omega))
 have HQ2 := Yh_ (show Yp 3 q = (Ybh 3 q).poke 256 [0, 0, 0] from if_neg (by omega))
 have HP1 := Yh_ (Ydk 3 (by decide) q e8)
 have hy := Yfx 3 (by decide) q e8 (by omega)
 obtain ⟨i, hi⟩ : ∃ i, (Ym (Yp 3 q) (251 + (3 : Nat))).i = i := ⟨_, rfl⟩
 obtain ⟨⟨fk, fp, fa, fw⟩, hF⟩ : ∃ F, (Ym (Yp 3 q) (251 + (3 : Nat))).f = F := ⟨_, rfl⟩
 rw [hF] at hy
 obtain ⟨hk, e1, e2, e3, e4⟩ := hy
 dsimp only at e1 e2 e3 e4
 subst e1 e2 e3 e4
 have HF := Yh_ (And.intro hi (And.intro hF hk))
 clear hi hF hk
 have tok : True := trivial
 go_enter Tryz.func10, Tryz.ntmps10
 go_wp2_with (first | (have _t := tok; clear _t; go_at_call 12; refine (Ybp _).mono ?_; rintro e w0 ⟨rfl, hu0⟩; clear tok) | (have _t := hu0; clear _t; go_at_call 13; refine (Ych _).mono ?_; rintro e w1 ⟨a, pb, rfl, ha, hp, hM1, hu1⟩; have hS : ∀ x, x ∈ [pb] → x ∈ ([] : List Nat) ∨ w.heap.size ≤ x := (fun x hx => .inr (List.mem_singleton.mp hx ▸ Nat.le_trans hu0.size hp)); have HS := Yh_ hS; have U1 := Yh_ (hu0.also hu1 (by simp)); clear hu0 hu1 ha hp hS) | (have _t := hM1; clear _t; go_at_call 14; refine (Ybi Mem.zero a pb 0 1 7 _ hM1 (by decide)).mono ?_; rintro e w2 ⟨rfl, hM2, hu2⟩; rw [Ycw, Yz]; have K2 := Yh_ (And.intro (show Yk w2 a pb Ya9 from hM2) (U1.out.also hu2 HS.out)); clear hM1 hM2 hu2 U1) | (have _t := K2; clear _t; go_at_call 14; refine (Ybi Ya9 a pb 1 1 q _ K2.out.1 (by decide)).mono ?_; rintro e w3 ⟨rfl, hM3, hu3⟩; rw [HM2.out, Yz]; rw [← HQ.out] at hM3; have K3 := Yh_ (And.intro hM3 (K2.out.2.also hu3 HS.out)); clear hM3 hu3 K2) | (have _t := K3; clear _t; go_at_call 20; have hn := heap_alloc_new w3 (.cells #[.int .u8 184, .int .u8 7, .int .u8 0, .int .u8 0, .int .u8 0] 5); have hpb : w3.heap.size ≠ pb := (by obtain ⟨C, _, hc⟩ := K3.out.1.pg; exact Nat.ne_of_gt (Yh hc)); refine (Ya6 (Ya5 q) a pb 254 _ [184, 7] w3.heap.size _ (K3.out.1.keep ((Upd.refl [] w3).alloc _) (by simp) (by simp)) (by decide) (by decide) (Yfl (l := [184, 7]) 0 _ hn (fun i hi => match i, hi with | 0, _ => rfl | 1, _ => rfl | i + 2, h => absurd h (by simp))) hpb (Ya7 (by decide)) (by simp [maxLen])).mono ?_; rintro e w4 ⟨rfl, hM4, hu4⟩; rw [show (Ya5 q).pokeB 254 [184, 7] = true from HP1.out, Yz]; have K4 := Yh_ (And.intro (show Yk w4 a pb (Ybh 3 q) from hM4) (And.intro ((K3.out.2.alloc (.cells #[.int .u8 184, .int .u8 7, .int .u8 0, .int .u8 0, .int .u8 0] 5)).also hu4 HS.out) (And.intro (hu4.get hn (by simpa using hpb)) hpb))); clear hM4 hu4 hn hpb K3) | (have _t := K4; clear _t; go_at_call 20; refine (Ya6 (Ybh 3 q) a pb 256 _ [0, 0, 0] w3.heap.size _ K4.out.1 (by decide) (by decide) (Yfl (l := [0, 0, 0]) 2 _ K4.out.2.2.1 (fun i hi => match i, hi with | 0, _ => rfl | 1, _ => rfl | 2, _ => rfl | i + 3, h => absurd h (by simp))) K4.out.2.2.2 (Ya7 (by decide)) (by simp [maxLen])).mono ?_; rintro e w5 ⟨rfl, hM5, hu5⟩; rw [show (Ybh 3 q).pokeB 256 [0, 0, 0] = true from HP2.out, Yz]; rw [← HQ2.out] at hM5; have K5 := Yh_ (And.intro hM5 (K4.out.2.1.also hu5 HS.out)); clear hM5 hu5 K4) | (have _t := K5; clear _t; go_at_call 21; refine (Ybu (Yp 3 q) a pb 254 _ K5.out.1 (by decide)).mono ?_; rintro e w6 ⟨rfl, hu6⟩; rw [show (Ym (Yp 3 q) 254).i = i from HF.out.1, show (Ym (Yp 3 q) 254).f = _ from HF.out.2.1, show (Ym (Yp 3 q) 254).k = _ from HF.out.2.2]; unfold Flt.val; have K6 := Yh_ (K5.out.2.also hu6 (by simp)); clear hu6 K5) | (have _t := K6; clear _t; refine Ye 41 rfl ?_; refine Yc i w6.heap.size rfl _ _ rfl rfl rfl (heap_alloc2_old w6 (.cells Ins.zero.cells 41) (.cells #[.int .i64 0, .int .u32 0, .int .u32 0, .int .i64 0] 35)) rfl ?_; intro w7 hw; have h2 := Yb4 hw; have c2 := Ya h2.2.1; have f2 := Yi h2.2.1; have HI := Yh_ (And.intro h2.1 (And.intro (K6.out.also h2.2.2 (fun _ h => .inl h)) (Nat.le_succ_of_le K6.out.size))); skip; clear hw h2 K6))
 exact bodyPost_ret (Yd rfl (Yt 4 rfl)) rfl ⟨rfl, Yab HI.out.2.1 (.inr HI.out.2.2) _ _ _ _⟩
theorem Ynz (k n : Int) (w : World) (q : Nat) (h1 : 4 ≤ q) (h8 : q < 8) (hk : k.tmod 5 = 3) (hn : n.tmod 8 = q) :
  Calls Tryz.prog 10 #[.int .u8 k, .int .u8 n] w fun e w' => e = .returned (.bool true) ∧ Upd [] w w' := by
 have e8 : q < 8 := by omega
 have p1 : 1 ≤ q := by omega
 have d0 : decide (0 < (q : Int)) = true := by simp <;> omega
 have d1 : decide (0 < q) = true := by simp <;> omega
 have wq : wrap64 (q : Int) = q := by unfold wrap64; omega
 have HM2 := Yh_ (Yeg q e8 p1)
 have HP2 := Yh_ (Ye5 3 (by decide) q e8 p1)
 have han : (bits .and .i64 (q : Int) 4 != 0) = true := by rw [Yef q e8]; (simp <;> omega)
 have HQ := Yh_ (show Ya5 q = Ya9.mapM 1 1 q from if_neg (by omega))
 have HQ2 := Yh_ (show Yp 3 q = (Ybh 3 q).poke 256 [0, 0, 0] from if_neg (by omega))
 have HP1 := Yh_ (Ydk 3 (by decide) q e8)
 have hy := Yf4 3 (by decide) q e8 (by omega)
 obtain ⟨i, hi⟩ : ∃ i, (Ym (Yp 3 q) (251 + (3 : Nat))).i = i := ⟨_, rfl⟩
 rw [hi] at hy
 obtain ⟨⟨fk, fp, fa, fw⟩, hF⟩ : ∃ F, (Ym (Yp 3 q) (251 + (3 : Nat))).f = F := ⟨_, rfl⟩
 have HF := Yh_ (And.intro hi (And.intro hF hy))
 clear hi hF hy
 have tok : True := trivial
 go_enter Tryz.func10, Tryz.ntmps10
 go_wp2_with (first | (have _t := tok; clear _t; go_at_call 12; refine (Ybp _).mono ?_; rintro e w0 ⟨rfl, hu0⟩; clear tok) | (have _t := hu0; clear _t; go_at_call 13; refine (Ych _).mono ?_; rintro e w1 ⟨a, pb, rfl, ha, hp, hM1, hu1⟩; have hS : ∀ x, x ∈ [pb] → x ∈ ([] : List Nat) ∨ w.heap.size ≤ x := (fun x hx => .inr (List.mem_singleton.mp hx ▸ Nat.le_trans hu0.size hp)); have HS := Yh_ hS; have U1 := Yh_ (hu0.also hu1 (by simp)); clear hu0 hu1 ha hp hS) | (have _t := hM1; clear _t; go_at_call 14; refine (Ybi Mem.zero a pb 0 1 7 _ hM1 (by decide)).mono ?_; rintro e w2 ⟨rfl, hM2, hu2⟩; rw [Ycw, Yz]; have K2 := Yh_ (And.intro (show Yk w2 a pb Ya9 from hM2) (U1.out.also hu2 HS.out)); clear hM1 hM2 hu2 U1) | (have _t := K2; clear _t; go_at_call 14; refine (Ybi Ya9 a pb 1 1 q _ K2.out.1 (by decide)).mono ?_; rintro e w3 ⟨rfl, hM3, hu3⟩; rw [HM2.out, Yz]; rw [← HQ.out] at hM3; have K3 := Yh_ (And.intro hM3 (K2.out.2.also hu3 HS.out)); clear hM3 hu3 K2) | (have _t := K3; clear _t; go_at_call 20; have hn := heap_alloc_new w3 (.cells #[.int .u8 184, .int .u8 7, .int .u8 0, .int .u8 0, .int .u8 0] 5); have hpb : w3.heap.size ≠ pb := (by obtain ⟨C, _, hc⟩ := K3.out.1.pg; exact Nat.ne_of_gt (Yh hc)); refine (Ya6 (Ya5 q) a pb 254 _ [184, 7] w3.heap.size _ (K3.out.1.keep ((Upd.refl [] w3).alloc _) (by simp) (by simp)) (by decide) (by decide) (Yfl (l := [184, 7]) 0 _ hn (fun i hi => match i, hi with | 0, _ => rfl | 1, _ => rfl | i + 2, h => absurd h (by simp))) hpb (Ya7 (by decide)) (by simp [maxLen])).mono ?_; rintro e w4 ⟨rfl, hM4, hu4⟩; rw [show (Ya5 q).pokeB 254 [184, 7] = true from HP1.out, Yz]; have K4 := Yh_ (And.intro (show Yk w4 a pb (Ybh 3 q) from hM4) (And.intro ((K3.out.2.alloc (.cells #[.int .u8 184, .int .u8 7, .int .u8 0, .int .u8 0, .int .u8 0] 5)).also hu4 HS.out) (And.intro (hu4.get hn (by simpa using hpb)) hpb))); clear hM4 hu4 hn hpb K3) | (have _t := K4; clear _t; go_at_call 20; refine (Ya6 (Ybh 3 q) a pb 256 _ [0, 0, 0] w3.heap.size _ K4.out.1 (by decide) (by decide) (Yfl (l := [0, 0, 0]) 2 _ K4.out.2.2.1 (fun i hi => match i, hi with | 0, _ => rfl | 1, _ => rfl | 2, _ => rfl | i + 3, h => absurd h (by simp))) K4.out.2.2.2 (Ya7 (by decide)) (by simp [maxLen])).mono ?_; rintro e w5 ⟨rfl, hM5, hu5⟩; rw [show (Ybh 3 q).pokeB 256 [0, 0, 0] = true from HP2.out, Yz]; rw [← HQ2.out] at hM5; have K5 := Yh_ (And.intro hM5 (K4.out.2.1.also hu5 HS.out)); clear hM5 hu5 K4) | (have _t := K5; clear _t; go_at_call 21; refine (Ybu (Yp 3 q) a pb 254 _ K5.out.1 (by decide)).mono ?_; rintro e w6 ⟨rfl, hu6⟩; rw [show (Ym (Yp 3 q) 254).i = i from HF.out.1, show (Ym (Yp 3 q) 254).f = _ from HF.out.2.1, show (Ym (Yp 3 q) 254).k = _ from HF.out.2.2.1]; unfold Flt.val; have K6 := Yh_ (K5.out.2.also hu6 (by simp)); clear hu6 K5) | (have _t := K6; clear _t; refine Ye 41 rfl ?_; refine Yc i w6.heap.size rfl _ _ rfl rfl rfl (heap_alloc2_old w6 (.cells Ins.zero.cells 41) (.cells #[.int .i64 0, .int .u32 0, .int .u32 0, .int .i64 0] 35)) rfl ?_; intro w7 hw; have h2 := Yb4 hw; have c2 := Ya h2.2.1; have f2 := Yi h2.2.1; have HI := Yh_ (And.intro h2.1 (And.intro (K6.out.also h2.2.2 (fun _ h => .inl h)) (Nat.le_succ_of_le K6.out.size))); have c15 := Ya HI.out.1 15; rw [show i.cells[15]? = some (.int .i64 i.len) from rfl, HF.out.2.2.2.1] at c15; have c10 := Ya HI.out.1 10; rw [show i.cells[10]? = some (.int .u32 i.b.imm) from rfl, HF.out.2.2.2.2] at c10; clear hw h2 K6))
 exact bodyPost_ret (Yd rfl (Yt 4 rfl)) rfl ⟨rfl, Yab HI.out.2.1 (.inr HI.out.2.2) _ _ _ _⟩
theorem Yfn {w : World} {g : Nat} {l : List Int} (o c : Nat) (h : w.heap[g]? = some (.cells #[.int .u8 184, .int .u8 7, .int .u8 0, .int .u8 0, .int .u8 0] 5 (0, 0))) (hl : ∀ i, i < l.length → #[Value.int .u8 184, .int .u8 7, .int .u8 0, .int .u8 0, .int .u8 0][o + i]? = some (.int .u8 (l.getD i 0))) : Ydj w (.slice (some ⟨g, o, none⟩) l.length c) l g :=
 .inr ⟨o, c, _, _, _, rfl, h, hl⟩
theorem Yoj (k n : Int) (w : World) (hk : k.tmod 5 = 4) (hn : n.tmod 8 = 0) :
  Calls Tryz.prog 10 #[.int .u8 k, .int .u8 n] w fun e w' => e = .returned (.bool true) ∧ Upd [] w w' := by
 have e8 : 0 < 8 := by omega
 have HP1 := Yh_ (Ydk 4 (by decide) 0 e8)
 have hy := Yfx 4 (by decide) 0 e8 (by omega)
 obtain ⟨i, hi⟩ : ∃ i, (Ym (Yp 4 0) (251 + (4 : Nat))).i = i := ⟨_, rfl⟩
 obtain ⟨⟨fk, fp, fa, fw⟩, hF⟩ : ∃ F, (Ym (Yp 4 0) (251 + (4 : Nat))).f = F := ⟨_, rfl⟩
 rw [hF] at hy
 obtain ⟨hk, e1, e2, e3, e4⟩ := hy
 dsimp only at e1 e2 e3 e4
 subst e1 e2 e3 e4
 have HF := Yh_ (And.intro hi (And.intro hF hk))
 clear hi hF hk
 have tok : True := trivial
 go_enter Tryz.func10, Tryz.ntmps10
 go_wp2_with (first | (have _t := tok; clear _t; go_at_call 12; refine (Ybp _).mono ?_; rintro e w0 ⟨rfl, hu0⟩; clear tok) | (have _t := hu0; clear _t; go_at_call 13; refine (Ych _).mono ?_; rintro e w1 ⟨a, pb, rfl, ha, hp, hM1, hu1⟩; have hS : ∀ x, x ∈ [pb] → x ∈ ([] : List Nat) ∨ w.heap.size ≤ x := (fun x hx => .inr (List.mem_singleton.mp hx ▸ Nat.le_trans hu0.size hp)); have HS := Yh_ hS; have U1 := Yh_ (hu0.also hu1 (by simp)); clear hu0 hu1 ha hp hS) | (have _t := hM1; clear _t; go_at_call 14; refine (Ybi Mem.zero a pb 0 1 7 _ hM1 (by decide)).mono ?_; rintro e w2 ⟨rfl, hM2, hu2⟩; rw [Ycw, Yz]; have K2 := Yh_ (And.intro (show Yk w2 a pb Ya9 from hM2) (U1.out.also hu2 HS.out)); clear hM1 hM2 hu2 U1) | (have _t := K2; clear _t; go_at_call 20; have hn := heap_alloc_new w2 (.cells #[.int .u8 184, .int .u8 7, .int .u8 0, .int .u8 0, .int .u8 0] 5); have hpb : w2.heap.size ≠ pb := (by obtain ⟨C, _, hc⟩ := K2.out.1.pg; exact Nat.ne_of_gt (Yh hc)); refine (Ya6 (Ya5 0) a pb 255 _ [184] w2.heap.size _ (K2.out.1.keep ((Upd.refl [] w2).alloc _) (by simp) (by simp)) (by decide) (by decide) (Yfn (l := [184]) 0 _ hn (fun i hi => match i, hi with | 0, _ => rfl | i + 1, h => absurd h (by simp))) hpb (Ya7 (by decide)) (by simp [maxLen])).mono ?_; rintro e w4 ⟨rfl, hM4, hu4⟩; rw [show (Ya5 0).pokeB 255 [184] = true from HP1.out, Yz]; have K4 := Yh_ (And.intro (show Yk w4 a pb (Ybh 4 0) from hM4) (And.intro ((K2.out.2.alloc (.cells #[.int .u8 184, .int .u8 7, .int .u8 0, .int .u8 0, .int .u8 0] 5)).also hu4 HS.out) (And.intro (hu4.get hn (by simpa using hpb)) hpb))); clear hM4 hu4 hn hpb K2) | (have _t := K4; clear _t; go_at_call 21; refine (Ybu (Yp 4 0) a pb 255 _ (show Yk w4 a pb (Yp 4 0) from K4.out.1) (by decide)).mono ?_; rintro e w6 ⟨rfl, hu6⟩; rw [show (Ym (Yp 4 0) 255).i = i from HF.out.1, show (Ym (Yp 4 0) 255).f = _ from HF.out.2.1, show (Ym (Yp 4 0) 255).k = _ from HF.out.2.2]; unfold Flt.val; have K6 := Yh_ (K4.out.2.1.also hu6 (by simp)); clear hu6 K4) | (have _t := K6; clear _t; refine Ye 41 rfl ?_; refine Yc i w6.heap.size rfl _ _ rfl rfl rfl (heap_alloc2_old w6 (.cells Ins.zero.cells 41) (.cells #[.int .i64 0, .int .u32 0, .int .u32 0, .int .i64 0] 35)) rfl ?_; intro w7 hw; have h2 := Yb4 hw; have c2 := Ya h2.2.1; have f2 := Yi h2.2.1; have HI := Yh_ (And.intro h2.1 (And.intro (K6.out.also h2.2.2 (fun _ h => .inl h)) (Nat.le_succ_of_le K6.out.size))); skip; clear hw h2 K6))
 exact bodyPost_ret (Yd rfl (Yt 4 rfl)) rfl ⟨rfl, Yab HI.out.2.1 (.inr HI.out.2.2) _ _ _ _⟩
theorem sf_4_low (k n : Int) (w : World) (q : Nat) (h1 : 1 ≤ q) (h4 : q < 4) (hk : k.tmod 5 = 4) (hn : n.tmod 8 = q) :
  Calls Tryz.prog 10 #[.int .u8 k, .int .u8 n] w fun e w' => e = .returned (.bool true) ∧ Upd [] w w' := by
 have e8 : q < 8 := by omega
 have p1 : 1 ≤ q := by omega
 have d0 : decide (0 < (q : Int)) = true := by simp <;> omega
 have d1 : decide (0 < q) = true := by simp <;> omega
 have wq : wrap64 (q : Int) = q := by unfold wrap64; omega
 have HM2 := Yh_ (Yeg q e8 p1)
 have HP2 := Yh_ (Ye5 4 (by decide) q e8 p1)
 have han : (bits .and .i64 (q : Int) 4 != 0) = false := by rw [Yef q e8]; (simp <;> omega)
 have HQ := Yh_ (show Ya5 q = Ya9.mapM 1 1 q from if_neg (by omega))
 have HQ2 := Yh_ (show Yp 4 q = (Ybh 4 q).poke 256 [7, 0, 0, 0] from if_neg (by omega))
 have HP1 := Yh_ (Ydk 4 (by decide) q e8)
 have hy := Yfx 4 (by decide) q e8 (by omega)
 obtain ⟨i, hi⟩ : ∃ i, (Ym (Yp 4 q) (251 + (4 : Nat))).i = i := ⟨_, rfl⟩
 obtain ⟨⟨fk, fp, fa, fw⟩, hF⟩ : ∃ F, (Ym (Yp 4 q) (251 + (4 : Nat))).f = F := ⟨_, rfl⟩
 rw [hF] at hy
 obtain ⟨hk, e1, e2, e3, e4⟩ := hy
 dsimp only at e1 e2 e3 e4
 subst e1 e2 e3 e4
 have HF := Yh_ (And.intro hi (And.intro hF hk))
 clear hi hF hk
 have tok : True := trivial
 go_enter Tryz.func10, Tryz.ntmps10
 go_wp2_with (first | (have _t := tok; clear _t; go_at_call 12; refine (Ybp _).mono ?_; rintro e w0 ⟨rfl, hu0⟩; clear tok) | (have _t := hu0; clear _t; go_at_call 13; refine (Ych _).mono ?_; rintro e w1 ⟨a, pb, rfl, ha, hp, hM1, hu1⟩; have hS : ∀ x, x ∈ [pb] → x ∈ ([] : List Nat) ∨ w.heap.size ≤ x := (fun x hx => .inr (List.mem_singleton.mp hx ▸ Nat.le_trans hu0.size hp)); have HS := Yh_ hS; have U1 := Yh_ (hu0.also hu1 (by simp)); clear hu0 hu1 ha hp hS) | (have _t := hM1; clear _t; go_at_call 14; refine (Ybi Mem.zero a pb 0 1 7 _ hM1 (by decide)).mono ?_; rintro e w2 ⟨rfl, hM2, hu2⟩; rw [Ycw, Yz]; have K2 := Yh_ (And.intro (show Yk w2 a pb Ya9 from hM2) (U1.out.also hu2 HS.out)); clear hM1 hM2 hu2 U1) | (have _t := K2; clear _t; go_at_call 14; refine (Ybi Ya9 a pb 1 1 q _ K2.out.1 (by decide)).mono ?_; rintro e w3 ⟨rfl, hM3, hu3⟩; rw [HM2.out, Yz]; rw [← HQ.out] at hM3; have K3 := Yh_ (And.intro hM3 (K2.out.2.also hu3 HS.out)); clear hM3 hu3 K2) | (have _t := K3; clear _t; go_at_call 20; have hn := heap_alloc_new w3 (.cells #[.int .u8 184, .int .u8 7, .int .u8 0, .int .u8 0, .int .u8 0] 5); have hpb : w3.heap.size ≠ pb := (by obtain ⟨C, _, hc⟩ := K3.out.1.pg; exact Nat.ne_of_gt (Yh hc)); refine (Ya6 (Ya5 q) a pb 255 _ [184] w3.heap.size _ (K3.out.1.keep ((Upd.refl [] w3).alloc _) (by simp) (by simp)) (by decide) (by decide) (Yfn (l := [184]) 0 _ hn (fun i hi => match i, hi with | 0, _ => rfl | i + 1, h => absurd h (by simp))) hpb (Ya7 (by decide)) (by simp [maxLen])).mono ?_; rintro e w4 ⟨rfl, hM4, hu4⟩; rw [show (Ya5 q).pokeB 255 [184] = true from HP1.out, Yz]; have K4 := Yh_ (And.intro (show Yk w4 a pb (Ybh 4 q) from hM4) (And.intro ((K3.out.2.alloc (.cells #[.int .u8 184, .int .u8 7, .int .u8 0, .int .u8 0, .int .u8 0] 5)).also hu4 HS.out) (And.intro (hu4.get hn (by simpa using hpb)) hpb))); clear hM4 hu4 hn hpb K3) | (have _t := K4; clear _t; go_at_call 20; refine (Ya6 (Ybh 4 q) a pb 256 _ [7, 0, 0, 0] w3.heap.size _ K4.out.1 (by decide) (by decide) (Yfn (l := [7, 0, 0, 0]) 1 _ K4.out.2.2.1 (fun i hi => match i, hi with | 0, _ => rfl | 1, _ => rfl | 2, _ => rfl | 3, _ => rfl | i + 4, h => absurd h (by simp))) K4.out.2.2.2 (Ya7 (by decide)) (by simp [maxLen])).mono ?_; rintro e w5 ⟨rfl, hM5, hu5⟩; rw [show (Ybh 4 q).pokeB 256 [7, 0, 0, 0] = true from HP2.out, Yz]; rw [← HQ2.out] at hM5; have K5 := Yh_ (And.intro hM5 (K4.out.2.1.also hu5 HS.out)); clear hM5 hu5 K4) | (have _t := K5; clear _t; go_at_call 21; refine (Ybu (Yp 4 q) a pb 255 _ K5.out.1 (by decide)).mono ?_; rintro e w6 ⟨rfl, hu6⟩; rw [show (Ym (Yp 4 q) 255).i = i from HF.out.1, show (Ym (Yp 4 q) 255).f = _ from HF.out.2.1, show (Ym (Yp 4 q) 255).k = _ from HF.out.2.2]; unfold Flt.val; have K6 := Yh_ (K5.out.2.also hu6 (by simp)); clear hu6 K5) | (have _t := K6; clear _t; refine Ye 41 rfl ?_; refine Yc i w6.heap.size rfl _ _ rfl rfl rfl (heap_alloc2_old w6 (.cells Ins.zero.cells 41) (.cells #[.int .i64 0, .int .u32 0, .int .u32 0, .int .i64 0] 35)) rfl ?_; intro w7 hw; have h2 := Yb4 hw; have c2 := Ya h2.2.1; have f2 := Yi h2.2.1; have HI := Yh_ (And.intro h2.1 (And.intro (K6.out.also h2.2.2 (fun _ h => .inl h)) (Nat.le_succ_of_le K6.out.size))); skip; clear hw h2 K6))
 exact bodyPost_ret (Yd rfl (Yt 4 rfl)) rfl ⟨rfl, Yab HI.out.2.1 (.inr HI.out.2.2) _ _ _ _⟩
theorem Yn3 (k n : Int) (w : World) (q : Nat) (h1 : 4 ≤ q) (h8 : q < 8) (hk : k.tmod 5 = 4) (hn : n.tmod 8 = q) :
  Calls Tryz.prog 10 #[.int .u8 k, .int .u8 n] w fun e w' => e = .returned (.bool true) ∧ Upd [] w w' := by
 have e8 : q < 8 := by omega
 have p1 : 1 ≤ q := by omega
 have d0 : decide (0 < (q : Int)) = true := by simp <;> omega
 have d1 : decide (0 < q) = true := by simp <;> omega
 have wq : wrap64 (q : Int) = q := by unfold wrap64; omega
 have HM2 := Yh_ (Yeg q e8 p1)
 have HP2 := Yh_ (Ye5 4 (by decide) q e8 p1)
 have han : (bits .and .i64 (q : Int) 4 != 0) = true := by rw [Yef q e8]; (simp <;> omega)
 have HQ := Yh_ (show Ya5 q = Ya9.mapM 1 1 q from if_neg (by omega))
 have HQ2 := Yh_ (show Yp 4 q = (Ybh 4 q).poke 256 [7, 0, 0, 0] from if_neg (by omega))
 have HP1 := Yh_ (Ydk 4 (by decide) q e8)
 have hy := Yf4 4 (by decide) q e8 (by omega)
 obtain ⟨i, hi⟩ : ∃ i, (Ym (Yp 4 q) (251 + (4 : Nat))).i = i := ⟨_, rfl⟩
 rw [hi] at hy
 obtain ⟨⟨fk, fp, fa, fw⟩, hF⟩ : ∃ F, (Ym (Yp 4 q) (251 + (4 : Nat))).f = F := ⟨_, rfl⟩
 have HF := Yh_ (And.intro hi (And.intro hF hy))
 clear hi hF hy
 have tok : True := trivial
 go_enter Tryz.func10, Tryz.ntmps10
 go_wp2_with (first | (have _t := tok; clear _t; go_at_call 12; refine (Ybp _).mono ?_; rintro e w0 ⟨rfl, hu0⟩; clear tok) | (have _t := hu0; clear _t; go_at_call 13; refine (Ych _).mono ?_; rintro e w1 ⟨a, pb, rfl, ha, hp, hM1, hu1⟩; have hS : ∀ x, x ∈ [pb] → x ∈ ([] : List Nat) ∨ w.heap.size ≤ x := (fun x hx => .inr (List.mem_singleton.mp hx ▸ Nat.le_trans hu0.size hp)); have HS := Yh_ hS; have U1 := Yh_ (hu0.also hu1 (by simp)); clear hu0 hu1 ha hp hS) | (have _t := hM1; clear _t; go_at_call 14; refine (Ybi Mem.zero a pb 0 1 7 _ hM1 (by decide)).mono ?_; rintro e w2 ⟨rfl, hM2, hu2⟩; rw [Ycw, Yz]; have K2 := Yh_ (And.intro (show Yk w2 a pb Ya9 from hM2) (U1.out.also hu2 HS.out)); clear hM1 hM2 hu2 U1) | (have _t := K2; clear _t; go_at_call 14; refine (Ybi Ya9 a pb 1 1 q _ K2.out.1 (by decide)).mono ?_; rintro e w3 ⟨rfl, hM3, hu3⟩; rw [HM2.out, Yz]; rw [← HQ.out] at hM3; have K3 := Yh_ (And.intro hM3 (K2.out.2.also hu3 HS.out)); clear hM3 hu3 K2) | (have _t := K3; clear _t; go_at_call 20; have hn := heap_alloc_new w3 (.cells #[.int .u8 184, .int .u8 7, .int .u8 0, .int .u8 0, .int .u8 0] 5); have hpb : w3.heap.size ≠ pb := (by obtain ⟨C, _, hc⟩ := K3.out.1.pg; exact Nat.ne_of_gt (Yh hc)); refine (Ya6 (Ya5 q) a pb 255 _ [184] w3.heap.size _ (K3.out.1.keep ((Upd.refl [] w3).alloc _) (by simp) (by simp)) (by decide) (by decide) (Yfn (l := [184]) 0 _ hn (fun i hi => match i, hi with | 0, _ => rfl | i + 1, h => absurd h (by simp))) hpb (Ya7 (by decide)) (by simp [maxLen])).mono ?_; rintro e w4 ⟨rfl, hM4, hu4⟩; rw [show (Ya5 q).pokeB 255 [184] = true from HP1.out, Yz]; have K4 := Yh_ (And.intro (show Yk w4 a pb (Ybh 4 q) from hM4) (And.intro ((K3.out.2.alloc (.cells #[.int .u8 184, .int .u8 7, .int .u8 0, .int .u8 0, .int .u8 0] 5)).also hu4 HS.out) (And.intro (hu4.get hn (by simpa using hpb)) hpb))); clear hM4 hu4 hn hpb K3) | (have _t := K4; clear _t; go_at_call 20; refine (Ya6 (Ybh 4 q) a pb 256 _ [7, 0, 0, 0] w3.heap.size _ K4.out.1 (by decide) (by decide) (Yfn (l := [7, 0, 0, 0]) 1 _ K4.out.2.2.1 (fun i hi => match i, hi with | 0, _ => rfl | 1, _ => rfl | 2, _ => rfl | 3, _ => rfl | i + 4, h => absurd h (by simp))) K4.out.2.2.2 (Ya7 (by decide)) (by simp [maxLen])).mono ?_; rintro e w5 ⟨rfl, hM5, hu5⟩; rw [show (Ybh 4 q).pokeB 256 [7, 0, 0, 0] = true from HP2.out, Yz]; rw [← HQ2.out] at hM5; have K5 := Yh_ (And.intro hM5 (K4.out.2.1.also hu5 HS.out)); clear hM5 hu5 K4) | (have _t := K5; clear _t; go_at_call 21; refine (Ybu (Yp 4 q) a pb 255 _ K5.out.1 (by decide)).mono ?_; rintro e w6 ⟨rfl, hu6⟩; rw [show (Ym (Yp 4 q) 255).i = i from HF.out.1, show (Ym (Yp 4 q) 255).f = _ from HF.out.2.1, show (Ym (Yp 4 q) 255).k = _ from HF.out.2.2.1]; unfold Flt.val; have K6 := Yh_ (K5.out.2.also hu6 (by simp)); clear hu6 K5) | (have _t := K6; clear _t; refine Ye 41 rfl ?_; refine Yc i w6.heap.size rfl _ _ rfl rfl rfl (heap_alloc2_old w6 (.cells Ins.zero.cells 41) (.cells #[.int .i64 0, .int .u32 0, .int .u32 0, .int .i64 0] 35)) rfl ?_; intro w7 hw; have h2 := Yb4 hw; have c2 := Ya h2.2.1; have f2 := Yi h2.2.1; have HI := Yh_ (And.intro h2.1 (And.intro (K6.out.also h2.2.2 (fun _ h => .inl h)) (Nat.le_succ_of_le K6.out.size))); have c15 := Ya HI.out.1 15; rw [show i.cells[15]? = some (.int .i64 i.len) from rfl, HF.out.2.2.2.1] at c15; have c10 := Ya HI.out.1 10; rw [show i.cells[10]? = some (.int .u32 i.b.imm) from rfl, HF.out.2.2.2.2] at c10; clear hw h2 K6))
 exact bodyPost_ret (Yd rfl (Yt 4 rfl)) rfl ⟨rfl, Yab HI.out.2.1 (.inr HI.out.2.2) _ _ _ _⟩
theorem Yhl (k n : Int) (w : World) (hk : 0 ≤ k) (hn : 0 ≤ n) :
  Calls Tryz.prog 10 #[.int .u8 k, .int .u8 n] w fun e w' => e = .returned (.bool true) ∧ Upd [] w w' := by
 obtain ⟨q, hq⟩ : ∃ q : Nat, n.tmod 8 = q := ⟨(n % 8).toNat, by rw [Int.tmod_eq_emod_of_nonneg hn]; omega⟩
 have h8 : q < 8 := by rw [Int.tmod_eq_emod_of_nonneg hn] at hq; omega
 have h5 := Int.tmod_eq_emod_of_nonneg (b := 5) hk
 have hj : k % 5 = 0 ∨ k % 5 = 1 ∨ k % 5 = 2 ∨ k % 5 = 3 ∨ k % 5 = 4 := by omega
 rw [← h5] at hj
 rcases Nat.eq_zero_or_pos q with h0 | h1
 ·rw [h0] at hq
  rcases hj with e | e | e | e | e
  ·exact Yn0 k n w e hq
  ·exact Yod k n w e hq
  ·exact Yny k n w e hq
  ·exact Yob k n w e hq
  ·exact Yoj k n w e hq
 ·by_cases h4 : q < 4
  ·rcases hj with e | e | e | e | e
   ·exact Yiu k n w q h1 h8 e hq
   ·exact sf_1_low k n w q h1 h4 e hq
   ·exact sf_2_low k n w q h1 h4 e hq
   ·exact sf_3_low k n w q h1 h4 e hq
   ·exact sf_4_low k n w q h1 h4 e hq
  ·have h4 : 4 ≤ q := by omega
   rcases hj with e | e | e | e | e
   ·exact Yiu k n w q h1 h8 e hq
   ·exact Ynu k n w q h4 h8 e hq
   ·exact Yn2 k n w q h4 h8 e hq
   ·exact Ynz k n w q h4 h8 e hq
   ·exact Yn3 k n w q h4 h8 e hq
end Go.Proofs.YthakgjpejhjaoaaGreat
