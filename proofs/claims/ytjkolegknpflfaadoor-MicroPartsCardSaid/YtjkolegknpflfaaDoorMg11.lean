/-
  Parts of the proof (their names shortened by a program). No condition.
-/
import Derived.Test.YtjkolegknpflfaaDoorMg01
import Derived.Test.YtjkolegknpflfaaDoorMg10
import Derived.Test.YtjkolegknpflfaaDoorMg06
import Derived.Test.YtjkolegknpflfaaDoorMg08
import Derived.Test.YtjkolegknpflfaaDoorMg07
namespace Go.Proofs.YtjkolegknpflfaaDoor
open Go Go.RowKit
set_option linter.unusedVariables false
set_option linter.unusedSimpArgs false
set_option maxRecDepth 100000
set_option maxHeartbeats 16000000
theorem Yk3 (x : Int) : Mem.zero.lack x 2 = 2 := by
 have e : Mem.zero.rightAt x = 0 := by unfold Mem.rightAt; split <;> rfl
 unfold Mem.lack
 rw [e]
 decide +kernel
theorem Yib (x : Int) : Mem.zero.canK x 8 2 = false := by
 unfold Mem.canK Mem.canBad
 rw [Bool.eq_false_iff]
 intro hh
 rw [Option.isNone_iff_eq_none, List.find?_eq_none] at hh
 have := hh 0 (by decide)
 rw [Yk3] at this
 exact this (by decide)
theorem zero_wr8 (x v : Int) : Mem.zero.wr8M x v = Mem.zero := by unfold Mem.wr8M; rw [Yib]; rfl
theorem zero_rd8 (x : Int) : Mem.zero.rd8K x = false := by unfold Mem.rd8K; rw [(Yfp x).1]; rfl
def St.setF (s : St) (v : Int) : St := { s with f := v }
theorem rn_f (a : Nat) (r : Rn) : (Ye a r)[17]? = some (.int .u64 r.s.f) := Ycl a r 16 (by decide)
theorem Ys.setF {w : World} {d ma : Nat} {r : Rn} (h : Ys w d ma r) (v : Int) (hv : 0 ≤ v ∧ v < 18446744073709551616) : Ys (w.setCell ⟨d, 17, none⟩ (.int .u64 v)) d ma { r with s := r.s.setF v } :=
 h.setS (r.s.setF v) 16 (.int .u64 v) (by decide) rfl ⟨h.ok.s.R, h.ok.s.pc, hv⟩
theorem Yln (d ma pb : Nat) (r : Rn) (a : Int) (w : World) (h : Yal w d ma pb r Mem.zero) (ha : 0 ≤ a ∧ a < 4294967296) : Calls Tryd.prog 40 #[.pointer (some ⟨d, 0, none⟩), .int .i64 51, .int .u32 a] w (Ycm d ma pb { r with s := r.s.setF (Yhs r.s.f) } Mem.zero w) := by
 have HX := Yh_ h
 have cd := h.r.cell
 have fd := Yc h.r.h
 have rf := rn_f ma r
 clear h
 go_enter Tryd.func40, Tryd.ntmps40
 go_wp2_with (go_at_call 60; refine (fl_Neg _ _).mono ?_; rintro e w1 ⟨rfl, rfl⟩)
 refine bodyPost_ret (results_none rfl _ _ _) rfl ?_
 exact Yfu HX.out ⟨rfl, HX.out.r.setF _ (Ygf _), (Upd.refl [d] w).setCell (.inl (by simp)) _⟩
theorem Yk1 (d ma pb : Nat) (r : Rn) (a : Int) (w : World) (h : Yal w d ma pb r Mem.zero) (ha : 0 ≤ a ∧ a < 4294967296) : Calls Tryd.prog 40 #[.pointer (some ⟨d, 0, none⟩), .int .i64 52, .int .u32 a] w (Ycm d ma pb { r with s := r.s.setF (Yha r.s.f) } Mem.zero w) := by
 have HX := Yh_ h
 have cd := h.r.cell
 have fd := Yc h.r.h
 have rf := rn_f ma r
 clear h
 go_enter Tryd.func40, Tryd.ntmps40
 go_wp2_with (go_at_call 61; refine (fl_Abs _ _).mono ?_; rintro e w1 ⟨rfl, rfl⟩)
 refine bodyPost_ret (results_none rfl _ _ _) rfl ?_
 exact Yfu HX.out ⟨rfl, HX.out.r.setF _ (Ygi _), (Upd.refl [d] w).setCell (.inl (by simp)) _⟩
theorem Yg1 : (∀ (d ma pb : Nat) (r : Rn) (a : Int) (w : World) (h : Yal w d ma pb r Mem.zero) (ha : 0 ≤ a ∧ a < 4294967296), Calls Tryd.prog 40 #[.pointer (some ⟨d, 0, none⟩), .int .i64 45, .int .u32 a] w (Ybe d ma pb r Mem.zero (Mem.zero.rd8F a) w)) ∧
 (∀ (d ma pb : Nat) (r : Rn) (a : Int) (w : World) (h : Yal w d ma pb r Mem.zero) (ha : 0 ≤ a ∧ a < 4294967296), Calls Tryd.prog 40 #[.pointer (some ⟨d, 0, none⟩), .int .i64 47, .int .u32 a] w (Ybe d ma pb r Mem.zero (Mem.zero.rd8F a) w)) ∧
 (∀ (d ma pb : Nat) (r : Rn) (a : Int) (w : World) (h : Yal w d ma pb r Mem.zero) (ha : 0 ≤ a ∧ a < 4294967296), Calls Tryd.prog 40 #[.pointer (some ⟨d, 0, none⟩), .int .i64 48, .int .u32 a] w (Ybe d ma pb r Mem.zero (Mem.zero.rd8F a) w)) ∧
 (∀ (d ma pb : Nat) (r : Rn) (a : Int) (w : World) (h : Yal w d ma pb r Mem.zero) (ha : 0 ≤ a ∧ a < 4294967296), Calls Tryd.prog 40 #[.pointer (some ⟨d, 0, none⟩), .int .i64 49, .int .u32 a] w (Ybe d ma pb r Mem.zero (Mem.zero.rd8F a) w)) ∧
 (∀ (d ma pb : Nat) (r : Rn) (a : Int) (w : World) (h : Yal w d ma pb r Mem.zero) (ha : 0 ≤ a ∧ a < 4294967296), Calls Tryd.prog 40 #[.pointer (some ⟨d, 0, none⟩), .int .i64 50, .int .u32 a] w (Ybe d ma pb r Mem.zero (Mem.zero.rd8F a) w)) ∧
 (∀ (d ma pb : Nat) (r : Rn) (a : Int) (w : World) (h : Yal w d ma pb r Mem.zero) (ha : 0 ≤ a ∧ a < 4294967296), Calls Tryd.prog 40 #[.pointer (some ⟨d, 0, none⟩), .int .i64 53, .int .u32 a] w (Ybe d ma pb r Mem.zero (Mem.zero.rd8F a) w)) := by
 refine ⟨fun d ma pb r a w h ha => ?_, fun d ma pb r a w h ha => ?_, fun d ma pb r a w h ha => ?_, fun d ma pb r a w h ha => ?_, fun d ma pb r a w h ha => ?_, fun d ma pb r a w h ha => ?_⟩
 all_goals
  have HX := Yh_ h
  have HA := Yh_ ha
  have cd := (h.r.cell 0).trans (rn_a ma r)
  obtain ⟨⟨fk, fp, fa, fw⟩, hF⟩ : ∃ F, Mem.zero.rd8F a = F := ⟨_, rfl⟩
  rw [hF]
  have HF := Yh_ hF
  clear h ha hF
  go_enter Tryd.func40, Tryd.ntmps40
  go_wp2_with (go_at_call 62; refine (Yli Mem.zero ma pb a _ HX.out.m HA.out.1 HA.out.2).mono ?_; rintro e w1 ⟨rfl, hu⟩; rw [HF.out, zero_rd8]; unfold Flt.val; have H5 := Yh_ hu; clear hu)
  have u := H5.out.alloc (.cells #[.int .i64 fk, .int .u32 fp, .int .u32 fa, .int .i64 fw] 37)
  exact ⟨rfl, rfl, HX.out.r.keep u (by simp), HX.out.m.keep u (by simp) (by simp), u.mono (by simp)⟩
theorem Yk5 (d ma pb : Nat) (r : Rn) (a : Int) (w : World) (h : Yal w d ma pb r Mem.zero) (ha : 0 ≤ a ∧ a < 4294967296) : Calls Tryd.prog 40 #[.pointer (some ⟨d, 0, none⟩), .int .i64 46, .int .u32 a] w (Ybe d ma pb r Mem.zero (Mem.zero.canF a 8 2) w) := by
 have HX := Yh_ h
 have HA := Yh_ (And.intro ha h.r.ok.s.f)
 obtain ⟨⟨fk, fp, fa, fw⟩, hF⟩ : ∃ F, Mem.zero.canF a 8 2 = F := ⟨_, rfl⟩
 rw [hF]
 have HF := Yh_ hF
 clear h ha hF
 go_enter Tryd.func40, Tryd.ntmps40
 go_upto_region 3 with fail
 refine Yeb 16 (Vg w [pb] (fun w1 => Yi w1 ma pb Mem.zero) 13 14 37 (Yj Flt.zero) (Yj ⟨fk, fp, fa, fw⟩)) (fun _ _ => False) (by kernel_rfl) (by decide +kernel) (fun r0 => Vg.start w [pb] (fun w1 => Yi w1 ma pb Mem.zero) (Yh7 HX.out.m) HX.out.m 13 14 37 (Yj Flt.zero) (Yj ⟨fk, fp, fa, fw⟩) r0) (fun _ _ _ h => h.elim) ?_
 simp only [List.take_succ_cons, List.take_zero, List.drop_succ_cons, List.drop_zero]
 iterate 9
  apply Yab rfl rfl
  ·intro dn r0 K hd hdep hK w5 hB2
   have hB1 := hB2.u
   have c0 : w5.cell? ⟨d, 0, none⟩ = some (.pointer (some ⟨ma, 0, none⟩)) := (HX.out.r.keep hB1 (by simpa using HX.out.n.2)).cell 0; have c17 : w5.cell? ⟨d, 17, none⟩ = some (.int .u64 r.s.f) := ((HX.out.r.keep hB1 (by simpa using HX.out.n.2)).cell 17).trans (rn_f ma r)
   have HB := Yh_ hB2
   clear hB1 hB2 hdep
   go_wp2_with fail
   first
   |exact hK _ (HB.out.same _ (by decide) (by decide))
   |exact HB.out.same _ (by decide) (by decide)
  ·exact ⟨_, rfl⟩
 apply Yab rfl rfl
 ·intro dn r0 K hd hdep hK w5 hB2
  have hB1 := hB2.u
  have HB := Yh_ hB2
  clear hB1 hB2 hdep
  go_wp2_with (go_at_call 59; refine (Yky Mem.zero ma pb a r.s.f _ HB.out.p HA.out.1.1 HA.out.1.2 HA.out.2.1 HA.out.2.2).mono ?_; rintro e w6 ⟨rfl, hm, hu⟩; rw [HF.out, Yib]; unfold Flt.val; have hm2 := zero_wr8 a r.s.f ▸ hm)
  first
  |exact hK _ (HB.out.wrote hu hm2 (by simpa using HX.out.m.pl) _ (by decide) (by decide))
  |exact HB.out.wrote hu hm2 (by simpa using HX.out.m.pl) _ (by decide) (by decide)
 ·exact ⟨_, rfl⟩
 iterate 3
  apply Yab rfl rfl
  ·intro dn r0 K hd hdep hK w5 hB2
   have hB1 := hB2.u
   have c0 : w5.cell? ⟨d, 0, none⟩ = some (.pointer (some ⟨ma, 0, none⟩)) := (HX.out.r.keep hB1 (by simpa using HX.out.n.2)).cell 0; have c17 : w5.cell? ⟨d, 17, none⟩ = some (.int .u64 r.s.f) := ((HX.out.r.keep hB1 (by simpa using HX.out.n.2)).cell 17).trans (rn_f ma r)
   have HB := Yh_ hB2
   clear hB1 hB2 hdep
   go_wp2_with fail
   first
   |exact hK _ (HB.out.same _ (by decide) (by decide))
   |exact HB.out.same _ (by decide) (by decide)
  ·exact ⟨_, rfl⟩
 refine Yc4 rfl (fun _ => rfl) 7 rfl (by simp [Act.put]) ?_ ?_
 ·intro dn r0 K hd w5 hB2 hK
  have HB := Yh_ hB2
  clear hB2
  simp only [Yq]
  go_wp2_with fail
  first
  |exact hK (.pointer (some ⟨w5.heap.size, 0, none⟩)) _ (HB.out.lay hd (by decide))
  |exact HB.out.lay hd (by decide)
 apply Yaq rfl (fun _ => rfl)
 ·intro dn r0 K hd hdep hK w5 hB2
  have h8 : dn 13 = true := hdep ⟨13, .data⟩ (by simp) rfl
  obtain ⟨g0, e1, e2, e3⟩ := hB2.x h8
  refine Ybu ⟨fk, fp, fa, fw⟩ (if dn 14 = true then ⟨fk, fp, fa, fw⟩ else Flt.zero) g0 _ _ rfl (by show r0 13 = _; exact e1) rfl (by rw [e3]; split <;> rfl) ?_
  exact hK _ (hB2.put h8 e1 (by rintro c (rfl | rfl) <;> rfl) (by decide))
 ·exact ⟨_, fun _ => rfl, rfl⟩
 iterate 1
  apply Yaq rfl (fun _ => rfl)
  ·intro dn r0 K hd hdep hK w5 hB2
   have hB1 := hB2.u
   have c0 : w5.cell? ⟨d, 0, none⟩ = some (.pointer (some ⟨ma, 0, none⟩)) := (HX.out.r.keep hB1 (by simpa using HX.out.n.2)).cell 0; have c17 : w5.cell? ⟨d, 17, none⟩ = some (.int .u64 r.s.f) := ((HX.out.r.keep hB1 (by simpa using HX.out.n.2)).cell 17).trans (rn_f ma r)
   have HB := Yh_ hB2
   clear hB1 hB2 hdep
   simp only [Yq]
   go_wp2_with fail
   first
   |exact hK _ (HB.out.same _ (by decide) (by decide))
   |exact HB.out.same _ (by decide) (by decide)
  ·exact ⟨_, fun _ => rfl, rfl⟩
 refine Yds (fun _ r0 w6 dn hall hB2 => ?_)
 obtain ⟨g, e1, hgl, hB1⟩ := hB2.x (hall 13 (by decide))
 have hU := hB2.u
 have hP := hB2.p
 rw [hall 14 (by decide), if_pos rfl] at hB1
 show wpList _ _ _ _ (Act.put (Yq _ _ [] _) (some 7) (r0 13)) _
 rw [e1]
 simp only [Yq]
 clear e1 hall hB2
 have cg := Ya hB1
 unfold Yj at cg
 dsimp only at cg
 have H6 := Yh_ (And.intro hU hP)
 clear hU hB1 hgl hP
 go_wp2_with fail
 exact ⟨rfl, rfl, HX.out.r.keep H6.out.1 (by simpa using HX.out.n.2), H6.out.2, H6.out.1.mono (by simp)⟩
def cdqV (x : Int) : Int := if x < 2147483648 then 0 else 4294967295
theorem mul_u (a b : Int) (ha : 0 ≤ a ∧ a < 4294967296) (hb : 0 ≤ b ∧ b < 4294967296) : 0 ≤ a * b ∧ a * b < 18446744073709551616 := by
 refine ⟨Int.mul_nonneg ha.1 hb.1, ?_⟩
 have h1 : a * b ≤ a * 4294967295 := Int.mul_le_mul_of_nonneg_left (by omega) ha.1
 omega
theorem mul_s (a b : Int) (ha : -2147483648 ≤ a ∧ a < 2147483648) (hb : -2147483648 ≤ b ∧ b < 2147483648) : -4611686018427387904 ≤ a * b ∧ a * b ≤ 4611686018427387904 := by
 have h1 : (a.natAbs : Int) ≤ 2147483648 := by omega
 have h2 : (b.natAbs : Int) ≤ 2147483648 := by omega
 have h3 : ((a * b).natAbs : Int) ≤ 4611686018427387904 := by
  rw [Int.natAbs_mul]
  have : a.natAbs * b.natAbs ≤ 2147483648 * 2147483648 := Nat.mul_le_mul (by omega) (by omega)
  omega
 omega
theorem Yfr (x : Int) (h : 0 ≤ x ∧ x < 4294967296) : wrap64 (sI x) = sI x := by have := Ycr x h; unfold wrap64; omega
def Ydm (p : Int) : Int := p % 4294967296
def Yc7 (p : Int) : Int := p / 4294967296 % 4294967296
theorem MulU_any (a b : Int) (w : World) (ha : 0 ≤ a ∧ a < 4294967296) (hb : 0 ≤ b ∧ b < 4294967296) :
  Calls Tryd.prog 50 #[.int .u32 a, .int .u32 b] w fun e w' => e = .returned (.tuple #[.int .u32 (Ydm (a * b)), .int .u32 (Yc7 (a * b))]) ∧ w = w' := by
 have h := mul_u a b ha hb
 have e1 : IntKind.u64.wrap (a * b) = a * b := by rw [Yb0]; omega
 have e2 : IntKind.u64.wrap a = a := by rw [Yb0]; omega
 have e3 : IntKind.u64.wrap b = b := by rw [Yb0]; omega
 clear h ha hb
 go_enter Tryd.func50, Tryd.ntmps50
 go_wp2_with fail
 exact bodyPost_ret (Yp rfl (Yk 4 rfl) (Yk 5 rfl)) rfl ⟨rfl, rfl⟩
theorem Yjb (a b : Int) (w : World) (ha : 0 ≤ a ∧ a < 4294967296) (hb : 0 ≤ b ∧ b < 4294967296) :
  Calls Tryd.prog 51 #[.int .u32 a, .int .u32 b] w fun e w' => e = .returned (.tuple #[.int .u32 (Ydm (sI a * sI b)), .int .u32 (Yc7 (sI a * sI b))]) ∧ w = w' := by
 have h := mul_s _ _ (Ycr a ha) (Ycr b hb)
 have e1 : wrap64 (sI a * sI b) = sI a * sI b := by unfold wrap64; omega
 have e2 := Ydf a ha
 have e3 := Ydf b hb
 have e4 := Yfr a ha
 have e5 := Yfr b hb
 clear h ha hb
 go_enter Tryd.func51, Tryd.ntmps51
 go_wp2_with fail
 exact bodyPost_ret (Yp rfl (Yk 4 rfl) (Yk 5 rfl)) rfl ⟨rfl, rfl⟩
def Ye4 (n d : Int) : Bool := !((n == -9223372036854775808) && (d == -1)) && (wrap64 (n.tdiv d) == wrap32 (wrap64 (n.tdiv d)))
def Yf3 (n d : Int) : Int := if Ye4 n d then wrap64 (n.tdiv d) % 4294967296 else 0
def Yf8 (n d : Int) : Int := if Ye4 n d then n.tmod d % 4294967296 else 0
theorem divs_any (n d : Int) (w : World) (hd : d ≠ 0) :
  Calls Tryd.prog 58 #[.int .i64 n, .int .i64 d] w fun e w' => e = .returned (.tuple #[.int .u32 (Yf3 n d), .int .u32 (Yf8 n d), .bool (Ye4 n d)]) ∧ Upd [] w w' := by
 have e0 : (d == 0) = false := by simpa using hd
 obtain ⟨q, hq⟩ : ∃ q, wrap64 (n.tdiv d) = q := ⟨_, rfl⟩
 have ew : wrap64 (wrap32 q) = wrap32 q := by unfold wrap64 wrap32; omega
 obtain ⟨b1, e1⟩ : ∃ b, (n == -9223372036854775808) = b := ⟨_, rfl⟩
 obtain ⟨b2, e2⟩ : ∃ b, (d == -1) = b := ⟨_, rfl⟩
 obtain ⟨b3, e3⟩ : ∃ b, (q == wrap32 q) = b := ⟨_, rfl⟩
 have e4 : (q != wrap32 q) = !b3 := by rw [← e3]; rfl
 have HE := Yh_ (show Ye4 n d = (!(b1 && b2) && b3) by rw [Ye4, hq, e1, e2, e3])
 have HQ := Yh_ (show Yf3 n d = if (!(b1 && b2) && b3) = true then q % 4294967296 else 0 by rw [Yf3, HE.out, hq])
 have HR := Yh_ (show Yf8 n d = if (!(b1 && b2) && b3) = true then n.tmod d % 4294967296 else 0 by rw [Yf8, HE.out])
 rw [HE.out, HQ.out, HR.out]
 clear HE HQ HR
 have hne := hd
 cases b1 <;> cases b2 <;> cases b3
 all_goals
  go_enter Tryd.func58, Tryd.ntmps58
  go_wp2_with fail
 all_goals first
 |exact bodyPost_ret (Yai rfl (Yk 4 rfl) (Yk 5 rfl) (Yk 6 rfl)) rfl ⟨rfl, Upd.refl _ _⟩
 |skip
 all_goals
  refine Yx 9 (fun w1 => Upd [] w w1) (fun _ _ => False) (by kernel_rfl) (by decide +kernel) ((Upd.refl [] w).drew) (fun _ _ _ h => h.elim) ?_
  simp only [List.take_succ_cons, List.take_zero, List.drop_succ_cons, List.drop_zero]
  iterate 9
   apply Yg rfl rfl
   ·intro K hK w5 hB1
    skip
    have HB := Yh_ hB1
    clear hB1
    go_wp2_with fail
    first
    |exact hK _ HB.out
    |exact HB.out
   ·exact ⟨_, rfl⟩
  refine Yo (fun _ w6 hB1 => ?_)
  have HB := Yh_ hB1
  clear hB1
  go_wp2_with fail
  exact bodyPost_ret (Yai rfl (Yk 4 rfl) (Yk 5 rfl) (Yk 6 rfl)) rfl ⟨rfl, HB.out⟩
theorem Yjm (x : Int) (h : 0 ≤ x ∧ x < 4294967296) : wrap32 x / 2147483648 % 4294967296 = cdqV x := by unfold wrap32 cdqV; split <;> omega
theorem Ydk (p : Int) : 0 ≤ Ydm p ∧ Ydm p < 4294967296 := by unfold Ydm; omega
theorem Yjy (p : Int) : 0 ≤ Yc7 p ∧ Yc7 p < 4294967296 := by unfold Yc7; omega
def mulP (op a b : Int) : Int := if op = 16 then a * b else sI a * sI b
def mulC (op a b : Int) : Bool := if op = 16 then Yc7 (a * b) != 0 else Yc7 (sI a * sI b) != cdqV (Ydm (sI a * sI b))
def Yc3 (op a b : Int) : Int := Ydm (mulP op a b)
def Yct (op a b : Int) : Int := if op = 18 then 0 else Yc7 (mulP op a b)
def Ycq (op a b : Int) (f : Fl) : Fl := { f with cf := mulC op a b, of_ := mulC op a b }
theorem AlE.of2 (w : World) (F : Fl) : AlE w F ((w.alloc (.cells F.cells 25)).alloc (.cells Fl.zero.cells 25)) :=
 ⟨heap_alloc2_old _ _ _, heap_alloc2_new _ _ _, ((Upd.refl [] w).alloc _).alloc _⟩
theorem Ykg (a b : Int) (a0 : 0 ≤ a) (a1 : a < 4294967296) (b0 : 0 ≤ b) (b1 : b < 4294967296) : bits .or .u64 (b * 4294967296) a = b * 4294967296 + a := by
 obtain ⟨a, rfl⟩ := Int.eq_ofNat_of_zero_le a0
 obtain ⟨b, rfl⟩ := Int.eq_ofNat_of_zero_le b0
 have h := u64_or_nat (b * 4294967296) a (by omega) (by omega)
 rw [nat_join 32 _ _ (by omega) (by omega)] at h
 have e : (b : Int) * 4294967296 = ((b * 4294967296 : Nat) : Int) := by omega
 rw [e, h]
 omega
theorem Mul_16 (a b : Int) (f : Fl) (w : World) (ha : 0 ≤ a ∧ a < 4294967296) (hb : 0 ≤ b ∧ b < 4294967296) :
  Calls Tryd.prog 32 #[.int .i64 16, .int .u32 a, .int .u32 b, .agg f.cells] w fun e w' => e = .returned (.tuple #[.int .u32 (Yc3 16 a b), .int .u32 (Yct 16 a b), .agg (Ycq 16 a b f).cells]) ∧ Upd [] w w' := by
 obtain ⟨c, d, e', z, n', o⟩ := f
 have HA := Yh_ (And.intro ha hb)
 obtain ⟨L, hL⟩ : ∃ L, Ydm (a * b) = L := ⟨_, rfl⟩
 obtain ⟨H, hH⟩ : ∃ H, Yc7 (a * b) = H := ⟨_, rfl⟩
 have HL := Yh_ (And.intro hL hH)
 have eC := Yjm L (hL ▸ Ydk _)
 obtain ⟨C, hC⟩ : ∃ C, (H != 0) = C := ⟨_, rfl⟩
 have HM := Yh_ (show Yc3 16 a b = L from hL)
 have HN := Yh_ (show Yct 16 a b = H from hH)
 have HF := Yh_ (show Ycq 16 a b ⟨c, d, e', z, n', o⟩ = ⟨C, d, e', z, n', C⟩ by
  have hc : mulC 16 a b = C := by rw [← hC, ← hH]; rfl
  rw [Ycq, hc])
 rw [HM.out, HN.out, HF.out]
 clear ha hb hL hH HM HN HF
 unfold Fl.cells
 go_enter Tryd.func32, Tryd.ntmps32
 go_wp2_with (go_at_call 50; refine (MulU_any a b _ HA.out.1 HA.out.2).mono ?_; rintro e w6 ⟨rfl, rfl⟩; rw [HL.out.1, HL.out.2])
 refine Yx 5 (AlE w ⟨C, d, e', z, n', C⟩) (fun _ _ => False) (by kernel_rfl) (by decide +kernel) (AlE.of2 w ⟨C, d, e', z, n', C⟩).drew (fun _ _ _ h => h.elim) ?_
 simp only [List.take_succ_cons, List.take_zero, List.drop_succ_cons, List.drop_zero]
 iterate 5
  apply Yg rfl rfl
  ·intro K hK w5 hB1
   have c7 := Ya hB1.r7; unfold Fl.cells at c7
   have HB := Yh_ hB1
   clear hB1
   go_wp2_with fail
   first
   |exact hK _ HB.out
   |exact HB.out
  ·exact ⟨_, rfl⟩
 refine Yo (fun _ w6 hB1 => ?_)
 have c9 := Ya hB1.r9
 have f9 := Yc hB1.r9
 unfold Fl.cells Fl.zero at c9
 have HZ := Yh_ hB1
 clear hB1
 go_wp2_with fail
 exact bodyPost_ret (Yai rfl (Yk 8 rfl) (Yk 9 rfl) (Yan 10 (w.heap.size + 1) ⟨C, d, e', z, n', C⟩ rfl (Yam HZ.out.r9 _ _ _ _ _ _))) rfl ⟨rfl, Yt HZ.out.u (.inr (by omega)) _ _ _ _ _ _⟩
theorem Mul_17 (a b : Int) (f : Fl) (w : World) (ha : 0 ≤ a ∧ a < 4294967296) (hb : 0 ≤ b ∧ b < 4294967296) :
  Calls Tryd.prog 32 #[.int .i64 17, .int .u32 a, .int .u32 b, .agg f.cells] w fun e w' => e = .returned (.tuple #[.int .u32 (Yc3 17 a b), .int .u32 (Yct 17 a b), .agg (Ycq 17 a b f).cells]) ∧ Upd [] w w' := by
 obtain ⟨c, d, e', z, n', o⟩ := f
 have HA := Yh_ (And.intro ha hb)
 obtain ⟨L, hL⟩ : ∃ L, Ydm (sI a * sI b) = L := ⟨_, rfl⟩
 obtain ⟨H, hH⟩ : ∃ H, Yc7 (sI a * sI b) = H := ⟨_, rfl⟩
 have HL := Yh_ (And.intro hL hH)
 have eC := Yjm L (hL ▸ Ydk _)
 obtain ⟨C, hC⟩ : ∃ C, (H != cdqV L) = C := ⟨_, rfl⟩
 have HM := Yh_ (show Yc3 17 a b = L from hL)
 have HN := Yh_ (show Yct 17 a b = H from hH)
 have HF := Yh_ (show Ycq 17 a b ⟨c, d, e', z, n', o⟩ = ⟨C, d, e', z, n', C⟩ by
  have hc : mulC 17 a b = C := by rw [← hC, ← hH, ← hL]; rfl
  rw [Ycq, hc])
 rw [HM.out, HN.out, HF.out]
 clear ha hb hL hH HM HN HF
 unfold Fl.cells
 go_enter Tryd.func32, Tryd.ntmps32
 go_wp2_with (go_at_call 51; refine (Yjb a b _ HA.out.1 HA.out.2).mono ?_; rintro e w6 ⟨rfl, rfl⟩; rw [HL.out.1, HL.out.2])
 refine Yx 5 (AlE w ⟨C, d, e', z, n', C⟩) (fun _ _ => False) (by kernel_rfl) (by decide +kernel) (AlE.of2 w ⟨C, d, e', z, n', C⟩).drew (fun _ _ _ h => h.elim) ?_
 simp only [List.take_succ_cons, List.take_zero, List.drop_succ_cons, List.drop_zero]
 iterate 5
  apply Yg rfl rfl
  ·intro K hK w5 hB1
   have c7 := Ya hB1.r7; unfold Fl.cells at c7
   have HB := Yh_ hB1
   clear hB1
   go_wp2_with fail
   first
   |exact hK _ HB.out
   |exact HB.out
  ·exact ⟨_, rfl⟩
 refine Yo (fun _ w6 hB1 => ?_)
 have c9 := Ya hB1.r9
 have f9 := Yc hB1.r9
 unfold Fl.cells Fl.zero at c9
 have HZ := Yh_ hB1
 clear hB1
 go_wp2_with fail
 exact bodyPost_ret (Yai rfl (Yk 8 rfl) (Yk 9 rfl) (Yan 10 (w.heap.size + 1) ⟨C, d, e', z, n', C⟩ rfl (Yam HZ.out.r9 _ _ _ _ _ _))) rfl ⟨rfl, Yt HZ.out.u (.inr (by omega)) _ _ _ _ _ _⟩
theorem Mul_18 (a b : Int) (f : Fl) (w : World) (ha : 0 ≤ a ∧ a < 4294967296) (hb : 0 ≤ b ∧ b < 4294967296) :
  Calls Tryd.prog 32 #[.int .i64 18, .int .u32 a, .int .u32 b, .agg f.cells] w fun e w' => e = .returned (.tuple #[.int .u32 (Yc3 18 a b), .int .u32 (Yct 18 a b), .agg (Ycq 18 a b f).cells]) ∧ Upd [] w w' := by
 obtain ⟨c, d, e', z, n', o⟩ := f
 have HA := Yh_ (And.intro ha hb)
 obtain ⟨L, hL⟩ : ∃ L, Ydm (sI a * sI b) = L := ⟨_, rfl⟩
 obtain ⟨H, hH⟩ : ∃ H, Yc7 (sI a * sI b) = H := ⟨_, rfl⟩
 have HL := Yh_ (And.intro hL hH)
 have eC := Yjm L (hL ▸ Ydk _)
 obtain ⟨C, hC⟩ : ∃ C, (H != cdqV L) = C := ⟨_, rfl⟩
 have HM := Yh_ (show Yc3 18 a b = L from hL)
 have HN := Yh_ (show Yct 18 a b = 0 from rfl)
 have HF := Yh_ (show Ycq 18 a b ⟨c, d, e', z, n', o⟩ = ⟨C, d, e', z, n', C⟩ by
  have hc : mulC 18 a b = C := by rw [← hC, ← hH, ← hL]; rfl
  rw [Ycq, hc])
 rw [HM.out, HN.out, HF.out]
 clear ha hb hL hH HM HN HF
 unfold Fl.cells
 go_enter Tryd.func32, Tryd.ntmps32
 go_wp2_with (go_at_call 51; refine (Yjb a b _ HA.out.1 HA.out.2).mono ?_; rintro e w6 ⟨rfl, rfl⟩; rw [HL.out.1, HL.out.2])
 refine Yx 5 (AlE w ⟨C, d, e', z, n', C⟩) (fun _ _ => False) (by kernel_rfl) (by decide +kernel) (AlE.of2 w ⟨C, d, e', z, n', C⟩).drew (fun _ _ _ h => h.elim) ?_
 simp only [List.take_succ_cons, List.take_zero, List.drop_succ_cons, List.drop_zero]
 iterate 5
  apply Yg rfl rfl
  ·intro K hK w5 hB1
   have c7 := Ya hB1.r7; unfold Fl.cells at c7
   have HB := Yh_ hB1
   clear hB1
   go_wp2_with fail
   first
   |exact hK _ HB.out
   |exact HB.out
  ·exact ⟨_, rfl⟩
 refine Yo (fun _ w6 hB1 => ?_)
 have c9 := Ya hB1.r9
 have f9 := Yc hB1.r9
 unfold Fl.cells Fl.zero at c9
 have HZ := Yh_ hB1
 clear hB1
 go_wp2_with fail
 exact bodyPost_ret (Yai rfl (Yk 8 rfl) (Yk 9 rfl) (Yan 10 (w.heap.size + 1) ⟨C, d, e', z, n', C⟩ rfl (Yam HZ.out.r9 _ _ _ _ _ _))) rfl ⟨rfl, Yt HZ.out.u (.inr (by omega)) _ _ _ _ _ _⟩
def Ydo (op : Int) : Bool := decide (16 ≤ op) && decide (op ≤ 18)
theorem Yf6 (op a b : Int) (f : Fl) (w : World) (hop : Ydo op = true) (ha : 0 ≤ a ∧ a < 4294967296) (hb : 0 ≤ b ∧ b < 4294967296) :
  Calls Tryd.prog 32 #[.int .i64 op, .int .u32 a, .int .u32 b, .agg f.cells] w fun e w' => e = .returned (.tuple #[.int .u32 (Yc3 op a b), .int .u32 (Yct op a b), .agg (Ycq op a b f).cells]) ∧ Upd [] w w' := by
 have ho : op = 16 ∨ op = 17 ∨ op = 18 := by simp [Ydo] at hop; omega
 rcases ho with rfl | rfl | rfl
 ·exact Mul_16 a b f w ha hb
 ·exact Mul_17 a b f w ha hb
 ·exact Mul_18 a b f w ha hb
theorem Yc6 (op a b : Int) : 0 ≤ Yc3 op a b ∧ Yc3 op a b < 4294967296 := Ydk _
theorem Yc1 (op a b : Int) : 0 ≤ Yct op a b ∧ Yct op a b < 4294967296 := by
 unfold Yct; split
 ·omega
 ·exact Yjy _
def Yce (op lo hi d : Int) : Bool := if d = 0 then false else if op = 20 then Ye4 (wrap64 (hi * 4294967296 + lo)) (sI d) else decide ((hi * 4294967296 + lo) / d ≤ 4294967295)
def Ybr (op lo hi d : Int) : Int := if d = 0 then 0 else if op = 20 then Yf3 (wrap64 (hi * 4294967296 + lo)) (sI d) else if (hi * 4294967296 + lo) / d ≤ 4294967295 then (hi * 4294967296 + lo) / d else 0
def Ybq (op lo hi d : Int) : Int := if d = 0 then 0 else if op = 20 then Yf8 (wrap64 (hi * 4294967296 + lo)) (sI d) else if (hi * 4294967296 + lo) / d ≤ 4294967295 then (hi * 4294967296 + lo) % d else 0
theorem Yko (op lo hi d : Int) (w : World) (hlo : 0 ≤ lo ∧ lo < 4294967296) (hhi : 0 ≤ hi ∧ hi < 4294967296) (hd : d = 0) :
  Calls Tryd.prog 39 #[.int .i64 op, .int .u32 lo, .int .u32 hi, .int .u32 d] w fun e w' => e = .returned (.tuple #[.int .u32 (Ybr op lo hi d), .int .u32 (Ybq op lo hi d), .bool (Yce op lo hi d)]) ∧ Upd [] w w' := by
 subst hd
 have HE := Yh_ (And.intro (show Ybr op lo hi 0 = 0 from if_pos rfl) (And.intro (show Ybq op lo hi 0 = 0 from if_pos rfl) (show Yce op lo hi 0 = false from if_pos rfl)))
 rw [HE.out.1, HE.out.2.1, HE.out.2.2]
 go_enter Tryd.func39, Tryd.ntmps39
 go_wp2_with fail
 exact bodyPost_ret (Yai rfl (Yk 8 rfl) (Yk 9 rfl) (Yk 10 rfl)) rfl ⟨rfl, Upd.refl _ _⟩
theorem Div_19 (lo hi d : Int) (w : World) (hlo : 0 ≤ lo ∧ lo < 4294967296) (hhi : 0 ≤ hi ∧ hi < 4294967296) (hd : 0 < d ∧ d < 4294967296) :
  Calls Tryd.prog 39 #[.int .i64 19, .int .u32 lo, .int .u32 hi, .int .u32 d] w fun e w' => e = .returned (.tuple #[.int .u32 (Ybr 19 lo hi d), .int .u32 (Ybq 19 lo hi d), .bool (Yce 19 lo hi d)]) ∧ Upd [] w w' := by
 have e0 : (d == 0) = false := by simp; omega
 have e1 : IntKind.u64.wrap hi = hi := by rw [Yb0]; omega
 have e1' : IntKind.u64.wrap lo = lo := by rw [Yb0]; omega
 have e2 : IntKind.u64.wrap (hi * 4294967296) = hi * 4294967296 := by rw [Yb0]; omega
 have e3 : IntKind.u64.wrap d = d := by rw [Yb0]; omega
 have e4 := Ykg lo hi hlo.1 hlo.2 hhi.1 hhi.2
 obtain ⟨N, hN⟩ : ∃ N, hi * 4294967296 + lo = N := ⟨_, rfl⟩
 rw [hN] at e4
 have hN0 : 0 ≤ N := by omega
 have e5 : N.tdiv d = N / d := Int.tdiv_eq_ediv_of_nonneg hN0
 have e6 : N.tmod d = N % d := Int.tmod_eq_emod_of_nonneg hN0
 obtain ⟨q, hq⟩ : ∃ q, N / d = q := ⟨_, rfl⟩
 obtain ⟨r, hr⟩ : ∃ r, N % d = r := ⟨_, rfl⟩
 have hq0 : 0 ≤ q := hq ▸ Int.ediv_nonneg hN0 (by omega)
 have hq1 : q ≤ N := hq ▸ Int.ediv_le_self _ hN0
 have hr0 : 0 ≤ r ∧ r < 4294967296 := hr ▸ ⟨Int.emod_nonneg _ (by omega), Int.lt_trans (Int.emod_lt_of_pos _ hd.1) hd.2⟩
 rw [hq] at e5
 rw [hr] at e6
 have e7 : IntKind.u64.wrap q = q := by rw [Yb0]; omega
 have e8 : r % 4294967296 = r := by omega
 have hne : d ≠ 0 := by omega
 by_cases hk : q ≤ 4294967295
 ·have HE := Yh_ (And.intro (show Ybr 19 lo hi d = q by rw [Ybr, if_neg hne, if_neg (by decide), hN, hq, if_pos hk]) (And.intro (show Ybq 19 lo hi d = r by rw [Ybq, if_neg hne, if_neg (by decide), hN, hq, if_pos hk, hr]) (show Yce 19 lo hi d = true by rw [Yce, if_neg hne, if_neg (by decide), hN, hq]; simpa using hk)))
  rw [HE.out.1, HE.out.2.1, HE.out.2.2]
  have ek : decide (4294967295 < q) = false := by simpa using hk
  have e9 : q % 4294967296 = q := by omega
  clear hk hq hr hq0 hq1 hr0 hd hN hN0 hlo hhi HE
  go_enter Tryd.func39, Tryd.ntmps39
  go_wp2_with fail
  refine Yx 10 (fun w1 => Upd [] w w1) (fun _ _ => False) (by kernel_rfl) (by decide +kernel) ((Upd.refl [] w).drew) (fun _ _ _ h => h.elim) ?_
  simp only [List.take_succ_cons, List.take_zero, List.drop_succ_cons, List.drop_zero]
  iterate 10
   apply Yg rfl rfl
   ·intro K hK w5 hB1
    skip
    have HB := Yh_ hB1
    clear hB1
    go_wp2_with fail
    first
    |exact hK _ HB.out
    |exact HB.out
   ·exact ⟨_, rfl⟩
  refine Yo (fun _ w6 hB1 => ?_)
  have HB := Yh_ hB1
  clear hB1
  go_wp2_with fail
  exact bodyPost_ret (Yai rfl (Yk 8 rfl) (Yk 9 rfl) (Yk 10 rfl)) rfl ⟨rfl, HB.out⟩
 ·have HE := Yh_ (And.intro (show Ybr 19 lo hi d = 0 by rw [Ybr, if_neg hne, if_neg (by decide), hN, hq, if_neg hk]) (And.intro (show Ybq 19 lo hi d = 0 by rw [Ybq, if_neg hne, if_neg (by decide), hN, hq, if_neg hk]) (show Yce 19 lo hi d = false by rw [Yce, if_neg hne, if_neg (by decide), hN, hq]; simpa using hk)))
  rw [HE.out.1, HE.out.2.1, HE.out.2.2]
  have ek : decide (4294967295 < q) = true := by simp; omega
  clear hk hq hr hq0 hq1 hr0 hd hN hN0 hlo hhi HE
  go_enter Tryd.func39, Tryd.ntmps39
  go_wp2_with fail
  exact bodyPost_ret (Yai rfl (Yk 8 rfl) (Yk 9 rfl) (Yk 10 rfl)) rfl ⟨rfl, Upd.refl _ _⟩
theorem Div_20 (lo hi d : Int) (w : World) (hlo : 0 ≤ lo ∧ lo < 4294967296) (hhi : 0 ≤ hi ∧ hi < 4294967296) (hd : 0 < d ∧ d < 4294967296) :
  Calls Tryd.prog 39 #[.int .i64 20, .int .u32 lo, .int .u32 hi, .int .u32 d] w fun e w' => e = .returned (.tuple #[.int .u32 (Ybr 20 lo hi d), .int .u32 (Ybq 20 lo hi d), .bool (Yce 20 lo hi d)]) ∧ Upd [] w w' := by
 have e0 : (d == 0) = false := by simp; omega
 have e1 : IntKind.u64.wrap hi = hi := by rw [Yb0]; omega
 have e1' : IntKind.u64.wrap lo = lo := by rw [Yb0]; omega
 have e2 : IntKind.u64.wrap (hi * 4294967296) = hi * 4294967296 := by rw [Yb0]; omega
 have e4 := Ykg lo hi hlo.1 hlo.2 hhi.1 hhi.2
 obtain ⟨N, hN⟩ : ∃ N, hi * 4294967296 + lo = N := ⟨_, rfl⟩
 rw [hN] at e4
 have hne : d ≠ 0 := by omega
 have hd2 : 0 ≤ d ∧ d < 4294967296 := by omega
 have e5 := Ydf d hd2
 have e6 := Yfr d hd2
 have hs : sI d ≠ 0 := by unfold sI; split <;> omega
 have HE := Yh_ (And.intro (show Ybr 20 lo hi d = Yf3 (wrap64 N) (sI d) by rw [Ybr, if_neg hne, if_pos rfl, hN]) (And.intro (show Ybq 20 lo hi d = Yf8 (wrap64 N) (sI d) by rw [Ybq, if_neg hne, if_pos rfl, hN]) (show Yce 20 lo hi d = Ye4 (wrap64 N) (sI d) by rw [Yce, if_neg hne, if_pos rfl, hN])))
 rw [HE.out.1, HE.out.2.1, HE.out.2.2]
 have HS := Yh_ hs
 clear hs hd2 hne hN hlo hhi hd HE
 go_enter Tryd.func39, Tryd.ntmps39
 go_wp2_with (go_at_call 58; refine (divs_any (wrap64 N) (sI d) _ HS.out).mono ?_; rintro e w6 ⟨rfl, hu⟩; have HU := Yh_ hu; clear hu)
 exact bodyPost_ret (Yai rfl (Yk 8 rfl) (Yk 9 rfl) (Yk 10 rfl)) rfl ⟨rfl, HU.out⟩
theorem Yg3 (op lo hi d : Int) (hlo : 0 ≤ lo ∧ lo < 4294967296) (hhi : 0 ≤ hi ∧ hi < 4294967296) (hd : 0 ≤ d ∧ d < 4294967296) : 0 ≤ Ybr op lo hi d ∧ Ybr op lo hi d < 4294967296 := by
 unfold Ybr Yf3
 have hn : 0 ≤ (hi * 4294967296 + lo) / d := Int.ediv_nonneg (by omega) hd.1
 split
 ·omega
 ·split
  ·split <;> omega
  ·split <;> omega
theorem Yg7 (op lo hi d : Int) (hlo : 0 ≤ lo ∧ lo < 4294967296) (hhi : 0 ≤ hi ∧ hi < 4294967296) (hd : 0 ≤ d ∧ d < 4294967296) : 0 ≤ Ybq op lo hi d ∧ Ybq op lo hi d < 4294967296 := by
 unfold Ybq Yf8
 split
 ·omega
 ·have h1 := Int.emod_nonneg (hi * 4294967296 + lo) ‹¬ d = 0›
  have h2 := Int.emod_lt_of_pos (hi * 4294967296 + lo) (show 0 < d by omega)
  split
  ·split <;> omega
  ·split <;> omega
theorem Div_any (op lo hi d : Int) (w : World) (hop : op = 19 ∨ op = 20) (hlo : 0 ≤ lo ∧ lo < 4294967296) (hhi : 0 ≤ hi ∧ hi < 4294967296) (hd : 0 ≤ d ∧ d < 4294967296) :
  Calls Tryd.prog 39 #[.int .i64 op, .int .u32 lo, .int .u32 hi, .int .u32 d] w fun e w' => e = .returned (.tuple #[.int .u32 (Ybr op lo hi d), .int .u32 (Ybq op lo hi d), .bool (Yce op lo hi d)]) ∧ Upd [] w w' := by
 by_cases h0 : d = 0
 ·exact Yko op lo hi d w hlo hhi h0
 ·rcases hop with rfl | rfl
  ·exact Div_19 lo hi d w hlo hhi (by omega)
  ·exact Div_20 lo hi d w hlo hhi (by omega)
section
structure Hz (S : List Nat) (w : World) (L : List (Nat × Obj)) (w1 : World) : Prop where
 u : Upd S w w1
 v : ∀ p ∈ L, w1.heap[p.1]? = some p.2
 s : L.Pairwise (fun p q => p.1 ≠ q.1)
 t : ∀ p ∈ L, p.1 ∈ S ∨ w.heap.size ≤ p.1
section
variable {S : List Nat} {w w1 w2 : World} {L : List (Nat × Obj)} {x : Nat} {o o' : Obj}
theorem Hz.get (h : Hz S w L w1) (n : Nat) (hn : L[n]? = some (x, o)) : w1.heap[x]? = some o := h.v (x, o) (List.mem_of_getElem? hn)
theorem Hz.quiet (h : Hz S w L w1) (u : Upd [] w1 w2) : Hz S w L w2 := ⟨h.u.also u (by simp), fun p hp => u.get (h.v p hp) (by simp), h.s, h.t⟩
theorem Hz.add (h : Hz S w L w1) (u : Upd [] w1 w2) {y : Nat} (hy : w1.heap.size ≤ y) (ho : w2.heap[y]? = some o) : Hz S w ((y, o) :: L) w2 := by
 have q := h.quiet u
 refine ⟨q.u, fun p hp => ?_, List.pairwise_cons.2 ⟨fun p hp => ?_, h.s⟩, fun p hp => ?_⟩
 ·rcases List.mem_cons.1 hp with rfl | hp
  ·exact ho
  ·exact q.v p hp
 ·have := Yr (h.v p hp); dsimp only; omega
 ·rcases List.mem_cons.1 hp with rfl | hp
  ·exact .inr (Nat.le_trans h.u.size hy)
  ·exact h.t p hp
theorem Hz.lay (h : Hz S w L w1) (cs : Array Value) (t : TypeId) : Hz S w ((w1.heap.size, .cells cs t (0, 0)) :: L) (w1.alloc (.cells cs t)) :=
 h.add ((Upd.refl [] w1).alloc _) (Nat.le_refl _) (heap_alloc_new _ _)
theorem Hz.ne (h : Hz S w L w1) (n m : Nat) {y : Nat} {o2 : Obj} (hn : L[n]? = some (x, o)) (hm : L[m]? = some (y, o2)) (hnm : n ≠ m) : x ≠ y := by
 obtain ⟨l1, e1⟩ := List.getElem?_eq_some_iff.1 hn
 obtain ⟨l2, e2⟩ := List.getElem?_eq_some_iff.1 hm
 rcases Nat.lt_or_gt_of_ne hnm with hlt | hlt
 ·have := List.pairwise_iff_getElem.1 h.s n m l1 l2 hlt
  rw [e1, e2] at this; exact this
 ·have := List.pairwise_iff_getElem.1 h.s m n l2 l1 hlt
  rw [e1, e2] at this; exact fun e => this e.symm
theorem Hz.put (h : Hz S w L w1) (n : Nat) (hn : L[n]? = some (x, o)) (u : Upd [x] w1 w2) (ho : w2.heap[x]? = some o') : Hz S w (L.set n (x, o')) w2 := by
 have ht := h.t _ (List.mem_of_getElem? hn)
 dsimp only at ht
 obtain ⟨hl, he⟩ := List.getElem?_eq_some_iff.1 hn
 have hc : ∀ p, p ∈ L.set n (x, o') → p = (x, o') ∨ (p ∈ L ∧ p.1 ≠ x) := by
  intro p hp
  obtain ⟨j, hj⟩ := List.mem_iff_getElem?.1 hp
  rw [List.getElem?_set] at hj
  by_cases e : n = j
  ·subst e
   simp only [if_true, hl] at hj
   exact .inl (Option.some.inj hj).symm
  ·simp only [e, if_false] at hj
   exact .inr ⟨List.mem_of_getElem? hj, fun hh => h.ne n j hn (o2 := p.2) (y := p.1) hj e hh.symm⟩
 refine ⟨h.u.also u (fun z hz => by rw [List.mem_singleton.1 hz]; exact ht), fun p hp => ?_, ?_, fun p hp => ?_⟩
 ·rcases hc p hp with rfl | ⟨q1, q2⟩
  ·exact ho
  ·exact u.get (h.v p q1) (by simpa using q2)
 ·refine List.pairwise_iff_getElem.2 fun i j hi hj hij => ?_
  rw [List.length_set] at hi hj
  have h1 : ∀ q (hq : q < L.length) (hq2 : q < (L.set n (x, o')).length), ((L.set n (x, o'))[q]).1 = (L[q]).1 := by
   intro q hq hq2
   rw [List.getElem_set]
   split
   ·rename_i e; subst e; rw [he]
   ·rfl
  rw [h1 i hi (by rw [List.length_set]; exact hi), h1 j hj (by rw [List.length_set]; exact hj)]
  exact List.pairwise_iff_getElem.1 h.s i j hi hj hij
 ·rcases hc p hp with rfl | ⟨q1, q2⟩
  ·exact ht
  ·exact h.t p q1
theorem Hz.cell (h : Hz S w L w1) (n : Nat) {cs : Array Value} {t : TypeId} (hn : L[n]? = some (x, .cells cs t (0, 0))) (j : Nat) (z : Value) : Hz S w (L.set n (x, .cells (cs.setIfInBounds j z) t (0, 0))) (w1.setCell ⟨x, j, none⟩ z) :=
 h.put n hn ((Upd.refl [x] w1).setCell (p := ⟨x, j, none⟩) (.inl (by simp)) _) (Yf (h.get n hn) j z)
end
theorem Yy {P : Program} {c : Code} {Q : Exit → Act → World → Prop} {a : Act} {w : World} {B : World → Prop} (hB : B w) (h : ∀ w1, B w1 → c.wp P Q a w1) : c.wp P Q a w := h w hB
end
end Go.Proofs.YtjkolegknpflfaaDoor
