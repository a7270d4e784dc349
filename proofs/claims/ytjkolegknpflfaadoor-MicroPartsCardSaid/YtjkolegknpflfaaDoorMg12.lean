/-
  Parts of the proof (their names shortened by a program). No condition.
-/
import Derived.Test.YtjkolegknpflfaaDoorMg01
import Derived.Test.YtjkolegknpflfaaDoorMg08
import Derived.Test.YtjkolegknpflfaaDoorMg07
import Derived.Test.YtjkolegknpflfaaDoorMg09
import Derived.Test.YtjkolegknpflfaaDoorMg11
import Derived.BigQuiet
namespace Go.Proofs.YtjkolegknpflfaaDoor
open Go Go.RowKit
set_option linter.unusedVariables false
set_option linter.unusedSimpArgs false
set_option maxRecDepth 100000
set_option maxHeartbeats 16000000
def maV (op a b : Int) (f : Fl) : Int := if btw op 21 25 = true then Ydu op a b else if btw op 16 18 = true then Yc3 op a b else Ya0 op a b f
def maF (op a b : Int) (f : Fl) : Fl := if btw op 21 25 = true then Yfx op a b f else if btw op 16 18 = true then Ycq op a b f else Yar op a b f
def Rn.alu (r : Rn) (op t a b : Int) (fl : Bool) : Rn :=
 let r1 := r.setT t.toNat (maV op a b r.s.fl)
 let r2 := if op = 16 ∨ op = 17 then r1.setT ((t + 1) % 64).toNat (Yct op a b) else r1
 if fl = true then { r2 with s := r2.s.setFl (maF op a b r.s.fl) } else r2
theorem St.setFl_ok' {s : St} (h : s.Ok) (f : Fl) : (s.setFl f).Ok := ⟨h.R, h.pc, h.f⟩
theorem rn_setFl (a : Nat) (r : Rn) (f : Fl) : wr (Ye a r) 10 f.cells.toList = Ye a { r with s := r.s.setFl f } := by
 have h6 : f.cells.toList.length = 6 := rfl
 have hl : 10 + f.cells.toList.length ≤ (Ye a r).size := by rw [Yb4, h6]; decide
 refine Yg9 (by rw [Yhv, Yb4]) ?_ (fun i hi => ?_) (fun i hi => ?_) (fun i hi => ?_)
 ·rw [Ycc _ _ _ _ hl, if_neg (by omega), rn_a]
 ·rw [Ycc _ _ _ _ hl, h6]
  by_cases e : 10 ≤ 1 + i ∧ 1 + i < 10 + 6
  ·rw [if_pos e]
   have hi' : i = 9 ∨ i = 10 ∨ i = 11 ∨ i = 12 ∨ i = 13 ∨ i = 14 := by omega
   rcases hi' with rfl | rfl | rfl | rfl | rfl | rfl <;> rfl
  ·rw [if_neg e, Ycl a r i hi]
   have hi' : i = 0 ∨ i = 1 ∨ i = 2 ∨ i = 3 ∨ i = 4 ∨ i = 5 ∨ i = 6 ∨ i = 7 ∨ i = 8 ∨ i = 15 ∨ i = 16 := by omega
   rcases hi' with rfl | rfl | rfl | rfl | rfl | rfl | rfl | rfl | rfl | rfl | rfl <;> rfl
 ·rw [Ycc _ _ _ _ hl, h6, if_neg (by omega), rn_p a r i hi]
 ·rw [Ycc _ _ _ _ hl, h6, if_neg (by omega), Yah a r i hi]
theorem Ys.setFl {w : World} {d ma : Nat} {r : Rn} (h : Ys w d ma r) (f : Fl) : Ys (w.setCells d 10 f.cells.toList) d ma { r with s := r.s.setFl f } :=
 ⟨by rw [Yad _ _ _ _ h.h, rn_setFl], St.setFl_ok' h.ok.s f, h.ok.p, h.ok.T⟩
theorem Ya1 {ops : Array Oper} {rest : List Oper} {op : Oper} {a : Act} {w : World} {Q : Exit → Act → World → Prop} (F : Fl) (b : Nat) (hgd : op.guard = none) (x y : Operand) (ho : op.op = .store 25 x y) (hx : a.eval x = .pointer (some ⟨b, 0, none⟩)) (hy : a.eval y = .agg F.cells)
  (hb : w.heap[b]? = some (.cells Fl.zero.cells 25 (0, 0))) (h : ∀ w', Upd [b] w w' → w'.heap[b]? = some (.cells F.cells 25 (0, 0)) → wpList Tryd.prog ops Q rest (a.put op.dst undef) w') : wpList Tryd.prog ops Q (op :: rest) a w :=
 wpList_plain hgd fun _ hK => wp_store_mid 25 x y ho b 0 F.cells hx hy (Ycu hb 0 F.cells.size (by show 0 + 6 ≤ 6; decide)) Yao (fl_one F)
  (hK _ _ (h _ ((Upd.refl [b] w).setCells (q := b) (.inl (by simp)) _ _) (by
   rw [Yad _ _ _ _ hb]; rfl)))
theorem Ybn {ops : Array Oper} {rest : List Oper} {op : Oper} {a : Act} {w : World} {Q : Exit → Act → World → Prop} (F : Fl) (d ma : Nat) (r : Rn) (hgd : op.guard = none) (x y : Operand) (ho : op.op = .store 25 x y) (hx : a.eval x = .pointer (some ⟨d, 10, none⟩)) (hy : a.eval y = .agg F.cells)
  (hb : Ys w d ma r) (h : ∀ w', Upd [d] w w' → Ys w' d ma { r with s := r.s.setFl F } → wpList Tryd.prog ops Q rest (a.put op.dst undef) w') : wpList Tryd.prog ops Q (op :: rest) a w :=
 wpList_plain hgd fun _ hK => wp_store_mid 25 x y ho d 10 F.cells hx hy (Ycu hb.h 10 F.cells.size (by rw [Yb4]; show 10 + 6 ≤ 99; decide)) Yao (fl_one F)
  (hK _ _ (h _ ((Upd.refl [d] w).setCells (q := d) (.inl (by simp)) _ _) (hb.setFl F)))
theorem Ylu (d ma : Nat) (r : Rn) (k t a' b' c n a b : Int) (w : World) (h : Ys w d ma r) (ht : 0 ≤ t ∧ t < 64) (hn : 0 ≤ n ∧ n < 4294967296) (ha : 0 ≤ a ∧ a < 4294967296) (hb : 0 ≤ b ∧ b < 4294967296) (hf : btw n 21 25 = true) :
  Calls Tryd.prog 21 #[.pointer (some ⟨d, 0, none⟩), .agg #[.int .i64 k, .int .i64 t, .int .i64 a', .int .i64 b', .int .i64 c, .int .u32 n, .bool false], .int .u32 a, .int .u32 b] w fun e w' => e = .returned (.tuple #[]) ∧ Ys w' d ma (r.alu n t a b false) ∧ Upd [d] w w' := by
 obtain ⟨V, hV⟩ : ∃ V, Ydu n a b = V := ⟨_, rfl⟩
 obtain ⟨F, hF⟩ : ∃ F, Yfx n a b r.s.fl = F := ⟨_, rfl⟩
 have hnn : 21 ≤ n ∧ n ≤ 25 := by simpa [btw] using hf
 have HB := Yh_ (show isSh n = true by simp [isSh]; omega)
 have HT1 := Yh_ (show btw n 21 25 = true ∧ True from ⟨hf, trivial⟩)
 have h2 : ¬(n = 16 ∨ n = 17) := by omega
 have hgo : maV n a b r.s.fl = V ∧ maF n a b r.s.fl = F := by
  unfold maV maF
  rw [if_pos hf, if_pos hf]
  exact ⟨hV, hF⟩
 have HR := Yh_ (show r.alu n t a b false = r.setT t.toNat V by
  unfold Rn.alu
  rw [hgo.1, hgo.2]
  dsimp only
  rw [if_neg h2]
  rfl)
 have hVr : 0 ≤ V ∧ V < 4294967296 := by rw [← hV]; exact Yd9 n a b ha
 have HA := Yh_ (And.intro ha (And.intro hb (And.intro hn (And.intro hVr trivial))))
 have HVF := Yh_ (And.intro hV (And.intro hF trivial))
 have HOK := Yh_ h.ok
 have K0 := Yh_ (show Hz [d] w [(d, .cells (Ye ma r) 54 (0, 0))] w from ⟨Upd.refl _ _, fun p hp => by rw [List.mem_singleton.1 hp]; exact h.h, List.pairwise_singleton _ _, fun p hp => by rw [List.mem_singleton.1 hp]; exact .inl (by simp)⟩)
 have ew : wrap64 n = n := by unfold wrap64; omega
 have g16 : (n == 16) = false := by simp; omega
 have g17 : (n == 17) = false := by simp; omega
 clear ha hb hf hgo hV hF hVr hnn h h2
 have bt : 0 ≤ t ∧ t < 64 := ht
 go_enter Tryd.func21, Tryd.ntmps21
 go_upto_region 1 with fail
 have hk := K0.out.lay #[.int .i64 k, .int .i64 t, .int .i64 a', .int .i64 b', .int .i64 c, .int .u32 n, .bool false] 35
 generalize w.heap.size = M0 at hk ⊢
 refine Yy (B := fun w1 => Hz [d] w [(M0, .cells #[.int .i64 k, .int .i64 t, .int .i64 a', .int .i64 b', .int .i64 c, .int .u32 n, .bool false] 35 (0, 0)), (d, .cells (Ye ma (r)) 54 (0, 0))] w1) hk ?_
 intro w1 hk1
 have K1 := Yh_ hk1
 clear hk hk1 K0
 have cm := Ya (K1.out.get 0 rfl)
 go_upto_region 5 with fail
 have hk := K1.out.lay Fl.zero.cells 25
 generalize w1.heap.size = M1 at hk ⊢
 refine Yy (B := fun w1 => Hz [d] w [(M1, .cells (Fl.cells Fl.zero) 25 (0, 0)), (M0, .cells #[.int .i64 k, .int .i64 t, .int .i64 a', .int .i64 b', .int .i64 c, .int .u32 n, .bool false] 35 (0, 0)), (d, .cells (Ye ma (r)) 54 (0, 0))] w1) hk ?_
 intro w2 hk1
 have K2 := Yh_ hk1
 clear hk hk1 K1 cm
 have cm := Ya (K2.out.get 1 rfl)
 have tok : True := trivial
 have tka : True := trivial
 go_upto_region 9 with (first
  |(have _t := tka; clear _t; refine Yaa 25 rfl ?_; refine Yl rfl 25 _ rfl d 10 rfl r.s.fl.cells _ (Ys.rf (r := r) (ma := ma) ⟨K2.out.get 2 rfl, HOK.out⟩) Tryd.underlying25 rfl Yao ?_; clear tka)
  |(have _t := tok; clear _t; go_at_call 18; refine (Yv n 21 25 _ HA.out.2.2.1).mono ?_; rintro e w' ⟨rfl, rfl⟩; rw [HT1.out.1]; clear tok)
  |(go_at_call 18; refine (Yv n 16 18 _ HA.out.2.2.1).mono ?_; rintro e w' ⟨rfl, rfl⟩; rw [HT1.out.2])
  |(have _t := K2; clear _t; go_at_call 31; refine (Yii n a b r.s.fl _ HB.out HA.out.1 HA.out.2.1.1).mono ?_; rintro e w5 ⟨rfl, hu5⟩; rw [HVF.out.1, HVF.out.2.1]; have K3 := Yh_ (K2.out.quiet hu5); clear hu5 K2 cm)
  |(have _t := K3; clear _t; refine Yag 25 rfl ?_; refine Ya1 F M1 rfl _ _ rfl rfl rfl (K3.out.get 0 rfl) ?_; intro w6 hu6 hf6; have K4 := Yh_ (show Hz [d] w [(M1, .cells (Fl.cells F) 25 (0, 0)), (M0, .cells #[.int .i64 k, .int .i64 t, .int .i64 a', .int .i64 b', .int .i64 c, .int .u32 n, .bool false] 35 (0, 0)), (d, .cells (Ye ma (r)) 54 (0, 0))] w6 from K3.out.put 0 rfl hu6 hf6); clear hu6 hf6 K3))
 have cm := Ya (K4.out.get 1 rfl)
 go_still_tail 7, (by kernel_rfl)
 change wpList _ _ _ _ _ w6.drew
 have K5 := Yh_ (K4.out.quiet (Upd.refl [] w6).drew)
 clear K4 cm
 generalize w6.drew = w7 at *
 have cm := Ya (K5.out.get 1 rfl)
 have cd : ∀ o, w7.cell? ⟨d, o, none⟩ = (Ye ma r)[o]? := Ya (K5.out.get 2 rfl)
 have fd := Yc (K5.out.get 2 rfl)
 have rt := Yah ma r t.toNat (by omega)
 go_upto_region 10 with fail
 have hk := K5.out.cell 2 rfl (35 + t.toNat) (.int .u32 V)
 dsimp only [List.set] at hk
 rw [Ybl ma r t.toNat V (by omega)] at hk
 refine Yy (B := fun w1 => Hz [d] w [(M1, .cells (Fl.cells F) 25 (0, 0)), (M0, .cells #[.int .i64 k, .int .i64 t, .int .i64 a', .int .i64 b', .int .i64 c, .int .u32 n, .bool false] 35 (0, 0)), (d, .cells (Ye ma (r.setT t.toNat V)) 54 (0, 0))] w1) hk ?_
 intro w8 hk1
 have K6 := Yh_ hk1
 have HO6 := Yh_ (Rn.setT_ok HOK.out t.toNat HA.out.2.2.2.1)
 clear hk hk1 K5 cm cd fd rt
 have cm := Ya (K6.out.get 1 rfl)
 have tkl : True := trivial
 have tks : True := trivial
 go_wp2_with fail
 go_end0
 exact ⟨rfl, by rw [HR.out]; exact ⟨K6.out.get 2 rfl, HO6.out⟩, K6.out.u⟩
theorem Ylo (d ma : Nat) (r : Rn) (k t a' b' c n a b : Int) (w : World) (h : Ys w d ma r) (ht : 0 ≤ t ∧ t < 64) (hn : 0 ≤ n ∧ n < 4294967296) (ha : 0 ≤ a ∧ a < 4294967296) (hb : 0 ≤ b ∧ b < 4294967296) (hf : btw n 21 25 = true) :
  Calls Tryd.prog 21 #[.pointer (some ⟨d, 0, none⟩), .agg #[.int .i64 k, .int .i64 t, .int .i64 a', .int .i64 b', .int .i64 c, .int .u32 n, .bool true], .int .u32 a, .int .u32 b] w fun e w' => e = .returned (.tuple #[]) ∧ Ys w' d ma (r.alu n t a b true) ∧ Upd [d] w w' := by
 obtain ⟨V, hV⟩ : ∃ V, Ydu n a b = V := ⟨_, rfl⟩
 obtain ⟨F, hF⟩ : ∃ F, Yfx n a b r.s.fl = F := ⟨_, rfl⟩
 have hnn : 21 ≤ n ∧ n ≤ 25 := by simpa [btw] using hf
 have HB := Yh_ (show isSh n = true by simp [isSh]; omega)
 have HT1 := Yh_ (show btw n 21 25 = true ∧ True from ⟨hf, trivial⟩)
 have h2 : ¬(n = 16 ∨ n = 17) := by omega
 have hgo : maV n a b r.s.fl = V ∧ maF n a b r.s.fl = F := by
  unfold maV maF
  rw [if_pos hf, if_pos hf]
  exact ⟨hV, hF⟩
 have HR := Yh_ (show r.alu n t a b true = { (r.setT t.toNat V) with s := (r.setT t.toNat V).s.setFl F } by
  unfold Rn.alu
  rw [hgo.1, hgo.2]
  dsimp only
  rw [if_neg h2]
  rfl)
 have hVr : 0 ≤ V ∧ V < 4294967296 := by rw [← hV]; exact Yd9 n a b ha
 have HA := Yh_ (And.intro ha (And.intro hb (And.intro hn (And.intro hVr trivial))))
 have HVF := Yh_ (And.intro hV (And.intro hF trivial))
 have HOK := Yh_ h.ok
 have K0 := Yh_ (show Hz [d] w [(d, .cells (Ye ma r) 54 (0, 0))] w from ⟨Upd.refl _ _, fun p hp => by rw [List.mem_singleton.1 hp]; exact h.h, List.pairwise_singleton _ _, fun p hp => by rw [List.mem_singleton.1 hp]; exact .inl (by simp)⟩)
 have ew : wrap64 n = n := by unfold wrap64; omega
 have g16 : (n == 16) = false := by simp; omega
 have g17 : (n == 17) = false := by simp; omega
 clear ha hb hf hgo hV hF hVr hnn h h2
 have bt : 0 ≤ t ∧ t < 64 := ht
 go_enter Tryd.func21, Tryd.ntmps21
 go_upto_region 1 with fail
 have hk := K0.out.lay #[.int .i64 k, .int .i64 t, .int .i64 a', .int .i64 b', .int .i64 c, .int .u32 n, .bool true] 35
 generalize w.heap.size = M0 at hk ⊢
 refine Yy (B := fun w1 => Hz [d] w [(M0, .cells #[.int .i64 k, .int .i64 t, .int .i64 a', .int .i64 b', .int .i64 c, .int .u32 n, .bool true] 35 (0, 0)), (d, .cells (Ye ma (r)) 54 (0, 0))] w1) hk ?_
 intro w1 hk1
 have K1 := Yh_ hk1
 clear hk hk1 K0
 have cm := Ya (K1.out.get 0 rfl)
 go_upto_region 5 with fail
 have hk := K1.out.lay Fl.zero.cells 25
 generalize w1.heap.size = M1 at hk ⊢
 refine Yy (B := fun w1 => Hz [d] w [(M1, .cells (Fl.cells Fl.zero) 25 (0, 0)), (M0, .cells #[.int .i64 k, .int .i64 t, .int .i64 a', .int .i64 b', .int .i64 c, .int .u32 n, .bool true] 35 (0, 0)), (d, .cells (Ye ma (r)) 54 (0, 0))] w1) hk ?_
 intro w2 hk1
 have K2 := Yh_ hk1
 clear hk hk1 K1 cm
 have cm := Ya (K2.out.get 1 rfl)
 have tok : True := trivial
 have tka : True := trivial
 go_upto_region 9 with (first
  |(have _t := tka; clear _t; refine Yaa 25 rfl ?_; refine Yl rfl 25 _ rfl d 10 rfl r.s.fl.cells _ (Ys.rf (r := r) (ma := ma) ⟨K2.out.get 2 rfl, HOK.out⟩) Tryd.underlying25 rfl Yao ?_; clear tka)
  |(have _t := tok; clear _t; go_at_call 18; refine (Yv n 21 25 _ HA.out.2.2.1).mono ?_; rintro e w' ⟨rfl, rfl⟩; rw [HT1.out.1]; clear tok)
  |(go_at_call 18; refine (Yv n 16 18 _ HA.out.2.2.1).mono ?_; rintro e w' ⟨rfl, rfl⟩; rw [HT1.out.2])
  |(have _t := K2; clear _t; go_at_call 31; refine (Yii n a b r.s.fl _ HB.out HA.out.1 HA.out.2.1.1).mono ?_; rintro e w5 ⟨rfl, hu5⟩; rw [HVF.out.1, HVF.out.2.1]; have K3 := Yh_ (K2.out.quiet hu5); clear hu5 K2 cm)
  |(have _t := K3; clear _t; refine Yag 25 rfl ?_; refine Ya1 F M1 rfl _ _ rfl rfl rfl (K3.out.get 0 rfl) ?_; intro w6 hu6 hf6; have K4 := Yh_ (show Hz [d] w [(M1, .cells (Fl.cells F) 25 (0, 0)), (M0, .cells #[.int .i64 k, .int .i64 t, .int .i64 a', .int .i64 b', .int .i64 c, .int .u32 n, .bool true] 35 (0, 0)), (d, .cells (Ye ma (r)) 54 (0, 0))] w6 from K3.out.put 0 rfl hu6 hf6); clear hu6 hf6 K3))
 have cm := Ya (K4.out.get 1 rfl)
 go_still_tail 7, (by kernel_rfl)
 change wpList _ _ _ _ _ w6.drew
 have K5 := Yh_ (K4.out.quiet (Upd.refl [] w6).drew)
 clear K4 cm
 generalize w6.drew = w7 at *
 have cm := Ya (K5.out.get 1 rfl)
 have cd : ∀ o, w7.cell? ⟨d, o, none⟩ = (Ye ma r)[o]? := Ya (K5.out.get 2 rfl)
 have fd := Yc (K5.out.get 2 rfl)
 have rt := Yah ma r t.toNat (by omega)
 go_upto_region 10 with fail
 have hk := K5.out.cell 2 rfl (35 + t.toNat) (.int .u32 V)
 dsimp only [List.set] at hk
 rw [Ybl ma r t.toNat V (by omega)] at hk
 refine Yy (B := fun w1 => Hz [d] w [(M1, .cells (Fl.cells F) 25 (0, 0)), (M0, .cells #[.int .i64 k, .int .i64 t, .int .i64 a', .int .i64 b', .int .i64 c, .int .u32 n, .bool true] 35 (0, 0)), (d, .cells (Ye ma (r.setT t.toNat V)) 54 (0, 0))] w1) hk ?_
 intro w8 hk1
 have K6 := Yh_ hk1
 have HO6 := Yh_ (Rn.setT_ok HOK.out t.toNat HA.out.2.2.2.1)
 clear hk hk1 K5 cm cd fd rt
 have cm := Ya (K6.out.get 1 rfl)
 have tkl : True := trivial
 have tks : True := trivial
 go_wp2_with (first
  |(have _t := tkl; clear _t; refine Yaa 25 rfl ?_; refine Yl rfl 25 _ rfl M1 0 rfl F.cells _ (Ybk (K6.out.get 0 rfl)) Tryd.underlying25 rfl Yao ?_; clear tkl)
  |(have _t := tks; clear _t; refine Yag 25 rfl ?_; refine Ybn F d ma (r.setT t.toNat V) rfl _ _ rfl rfl rfl ⟨K6.out.get 2 rfl, HO6.out⟩ ?_; intro w9 hu9 hr9; have K9 := Yh_ (And.intro hr9 (And.intro K6.out.u hu9)); clear hu9 hr9 tks))
 go_end0
 exact ⟨rfl, by rw [HR.out]; exact K9.out.1, K9.out.2.1.also K9.out.2.2 (fun x hx => .inl hx)⟩
theorem Yk6 (d ma : Nat) (r : Rn) (k t a' b' c n a b : Int) (w : World) (h : Ys w d ma r) (ht : 0 ≤ t ∧ t < 64) (hn : 0 ≤ n ∧ n < 4294967296) (ha : 0 ≤ a ∧ a < 4294967296) (hb : 0 ≤ b ∧ b < 4294967296) (hf : Ydr n = true) :
  Calls Tryd.prog 21 #[.pointer (some ⟨d, 0, none⟩), .agg #[.int .i64 k, .int .i64 t, .int .i64 a', .int .i64 b', .int .i64 c, .int .u32 n, .bool false], .int .u32 a, .int .u32 b] w fun e w' => e = .returned (.tuple #[]) ∧ Ys w' d ma (r.alu n t a b false) ∧ Upd [d] w w' := by
 obtain ⟨V, hV⟩ : ∃ V, Ya0 n a b r.s.fl = V := ⟨_, rfl⟩
 obtain ⟨F, hF⟩ : ∃ F, Yar n a b r.s.fl = F := ⟨_, rfl⟩
 have hnn : 3 ≤ n ∧ n ≤ 15 := by simpa [Ydr] using hf
 have HB := Yh_ hf
 have HT1 := Yh_ (And.intro (show btw n 21 25 = false by simp [btw]; omega) (show btw n 16 18 = false by simp [btw]; omega))
 have h2 : ¬(n = 16 ∨ n = 17) := by omega
 have hgo : maV n a b r.s.fl = V ∧ maF n a b r.s.fl = F := by
  unfold maV maF
  rw [if_neg (by rw [HT1.out.1]; decide), if_neg (by rw [HT1.out.2]; decide), if_neg (by rw [HT1.out.1]; decide), if_neg (by rw [HT1.out.2]; decide)]
  exact ⟨hV, hF⟩
 have HR := Yh_ (show r.alu n t a b false = r.setT t.toNat V by
  unfold Rn.alu
  rw [hgo.1, hgo.2]
  dsimp only
  rw [if_neg h2]
  rfl)
 have hVr : 0 ≤ V ∧ V < 4294967296 := by rw [← hV]; exact Yfc n a b r.s.fl ha hb
 have HA := Yh_ (And.intro ha (And.intro hb (And.intro hn (And.intro hVr trivial))))
 have HVF := Yh_ (And.intro hV (And.intro hF trivial))
 have HOK := Yh_ h.ok
 have K0 := Yh_ (show Hz [d] w [(d, .cells (Ye ma r) 54 (0, 0))] w from ⟨Upd.refl _ _, fun p hp => by rw [List.mem_singleton.1 hp]; exact h.h, List.pairwise_singleton _ _, fun p hp => by rw [List.mem_singleton.1 hp]; exact .inl (by simp)⟩)
 have ew : wrap64 n = n := by unfold wrap64; omega
 have g16 : (n == 16) = false := by simp; omega
 have g17 : (n == 17) = false := by simp; omega
 clear ha hb hf hgo hV hF hVr hnn h h2
 have bt : 0 ≤ t ∧ t < 64 := ht
 go_enter Tryd.func21, Tryd.ntmps21
 go_upto_region 1 with fail
 have hk := K0.out.lay #[.int .i64 k, .int .i64 t, .int .i64 a', .int .i64 b', .int .i64 c, .int .u32 n, .bool false] 35
 generalize w.heap.size = M0 at hk ⊢
 refine Yy (B := fun w1 => Hz [d] w [(M0, .cells #[.int .i64 k, .int .i64 t, .int .i64 a', .int .i64 b', .int .i64 c, .int .u32 n, .bool false] 35 (0, 0)), (d, .cells (Ye ma (r)) 54 (0, 0))] w1) hk ?_
 intro w1 hk1
 have K1 := Yh_ hk1
 clear hk hk1 K0
 have cm := Ya (K1.out.get 0 rfl)
 go_upto_region 5 with fail
 have hk := K1.out.lay Fl.zero.cells 25
 generalize w1.heap.size = M1 at hk ⊢
 refine Yy (B := fun w1 => Hz [d] w [(M1, .cells (Fl.cells Fl.zero) 25 (0, 0)), (M0, .cells #[.int .i64 k, .int .i64 t, .int .i64 a', .int .i64 b', .int .i64 c, .int .u32 n, .bool false] 35 (0, 0)), (d, .cells (Ye ma (r)) 54 (0, 0))] w1) hk ?_
 intro w2 hk1
 have K2 := Yh_ hk1
 clear hk hk1 K1 cm
 have cm := Ya (K2.out.get 1 rfl)
 have tok : True := trivial
 have tka : True := trivial
 go_upto_region 9 with (first
  |(have _t := tka; clear _t; refine Yaa 25 rfl ?_; refine Yl rfl 25 _ rfl d 10 rfl r.s.fl.cells _ (Ys.rf (r := r) (ma := ma) ⟨K2.out.get 2 rfl, HOK.out⟩) Tryd.underlying25 rfl Yao ?_; clear tka)
  |(have _t := tok; clear _t; go_at_call 18; refine (Yv n 21 25 _ HA.out.2.2.1).mono ?_; rintro e w' ⟨rfl, rfl⟩; rw [HT1.out.1]; clear tok)
  |(go_at_call 18; refine (Yv n 16 18 _ HA.out.2.2.1).mono ?_; rintro e w' ⟨rfl, rfl⟩; rw [HT1.out.2])
  |(have _t := K2; clear _t; go_at_call 33; refine (Yid n a b r.s.fl _ HB.out HA.out.1 HA.out.2.1).mono ?_; rintro e w5 ⟨rfl, hu5⟩; rw [HVF.out.1, HVF.out.2.1]; have K3 := Yh_ (K2.out.quiet hu5); clear hu5 K2 cm)
  |(have _t := K3; clear _t; refine Yag 25 rfl ?_; refine Ya1 F M1 rfl _ _ rfl rfl rfl (K3.out.get 0 rfl) ?_; intro w6 hu6 hf6; have K4 := Yh_ (show Hz [d] w [(M1, .cells (Fl.cells F) 25 (0, 0)), (M0, .cells #[.int .i64 k, .int .i64 t, .int .i64 a', .int .i64 b', .int .i64 c, .int .u32 n, .bool false] 35 (0, 0)), (d, .cells (Ye ma (r)) 54 (0, 0))] w6 from K3.out.put 0 rfl hu6 hf6); clear hu6 hf6 K3))
 have cm := Ya (K4.out.get 1 rfl)
 go_still_tail 7, (by kernel_rfl)
 change wpList _ _ _ _ _ w6.drew
 have K5 := Yh_ (K4.out.quiet (Upd.refl [] w6).drew)
 clear K4 cm
 generalize w6.drew = w7 at *
 have cm := Ya (K5.out.get 1 rfl)
 have cd : ∀ o, w7.cell? ⟨d, o, none⟩ = (Ye ma r)[o]? := Ya (K5.out.get 2 rfl)
 have fd := Yc (K5.out.get 2 rfl)
 have rt := Yah ma r t.toNat (by omega)
 go_upto_region 10 with fail
 have hk := K5.out.cell 2 rfl (35 + t.toNat) (.int .u32 V)
 dsimp only [List.set] at hk
 rw [Ybl ma r t.toNat V (by omega)] at hk
 refine Yy (B := fun w1 => Hz [d] w [(M1, .cells (Fl.cells F) 25 (0, 0)), (M0, .cells #[.int .i64 k, .int .i64 t, .int .i64 a', .int .i64 b', .int .i64 c, .int .u32 n, .bool false] 35 (0, 0)), (d, .cells (Ye ma (r.setT t.toNat V)) 54 (0, 0))] w1) hk ?_
 intro w8 hk1
 have K6 := Yh_ hk1
 have HO6 := Yh_ (Rn.setT_ok HOK.out t.toNat HA.out.2.2.2.1)
 clear hk hk1 K5 cm cd fd rt
 have cm := Ya (K6.out.get 1 rfl)
 have tkl : True := trivial
 have tks : True := trivial
 go_wp2_with fail
 go_end0
 exact ⟨rfl, by rw [HR.out]; exact ⟨K6.out.get 2 rfl, HO6.out⟩, K6.out.u⟩
theorem Ylm (d ma : Nat) (r : Rn) (k t a' b' c n a b : Int) (w : World) (h : Ys w d ma r) (ht : 0 ≤ t ∧ t < 64) (hn : 0 ≤ n ∧ n < 4294967296) (ha : 0 ≤ a ∧ a < 4294967296) (hb : 0 ≤ b ∧ b < 4294967296) (hf : Ydr n = true) :
  Calls Tryd.prog 21 #[.pointer (some ⟨d, 0, none⟩), .agg #[.int .i64 k, .int .i64 t, .int .i64 a', .int .i64 b', .int .i64 c, .int .u32 n, .bool true], .int .u32 a, .int .u32 b] w fun e w' => e = .returned (.tuple #[]) ∧ Ys w' d ma (r.alu n t a b true) ∧ Upd [d] w w' := by
 obtain ⟨V, hV⟩ : ∃ V, Ya0 n a b r.s.fl = V := ⟨_, rfl⟩
 obtain ⟨F, hF⟩ : ∃ F, Yar n a b r.s.fl = F := ⟨_, rfl⟩
 have hnn : 3 ≤ n ∧ n ≤ 15 := by simpa [Ydr] using hf
 have HB := Yh_ hf
 have HT1 := Yh_ (And.intro (show btw n 21 25 = false by simp [btw]; omega) (show btw n 16 18 = false by simp [btw]; omega))
 have h2 : ¬(n = 16 ∨ n = 17) := by omega
 have hgo : maV n a b r.s.fl = V ∧ maF n a b r.s.fl = F := by
  unfold maV maF
  rw [if_neg (by rw [HT1.out.1]; decide), if_neg (by rw [HT1.out.2]; decide), if_neg (by rw [HT1.out.1]; decide), if_neg (by rw [HT1.out.2]; decide)]
  exact ⟨hV, hF⟩
 have HR := Yh_ (show r.alu n t a b true = { (r.setT t.toNat V) with s := (r.setT t.toNat V).s.setFl F } by
  unfold Rn.alu
  rw [hgo.1, hgo.2]
  dsimp only
  rw [if_neg h2]
  rfl)
 have hVr : 0 ≤ V ∧ V < 4294967296 := by rw [← hV]; exact Yfc n a b r.s.fl ha hb
 have HA := Yh_ (And.intro ha (And.intro hb (And.intro hn (And.intro hVr trivial))))
 have HVF := Yh_ (And.intro hV (And.intro hF trivial))
 have HOK := Yh_ h.ok
 have K0 := Yh_ (show Hz [d] w [(d, .cells (Ye ma r) 54 (0, 0))] w from ⟨Upd.refl _ _, fun p hp => by rw [List.mem_singleton.1 hp]; exact h.h, List.pairwise_singleton _ _, fun p hp => by rw [List.mem_singleton.1 hp]; exact .inl (by simp)⟩)
 have ew : wrap64 n = n := by unfold wrap64; omega
 have g16 : (n == 16) = false := by simp; omega
 have g17 : (n == 17) = false := by simp; omega
 clear ha hb hf hgo hV hF hVr hnn h h2
 have bt : 0 ≤ t ∧ t < 64 := ht
 go_enter Tryd.func21, Tryd.ntmps21
 go_upto_region 1 with fail
 have hk := K0.out.lay #[.int .i64 k, .int .i64 t, .int .i64 a', .int .i64 b', .int .i64 c, .int .u32 n, .bool true] 35
 generalize w.heap.size = M0 at hk ⊢
 refine Yy (B := fun w1 => Hz [d] w [(M0, .cells #[.int .i64 k, .int .i64 t, .int .i64 a', .int .i64 b', .int .i64 c, .int .u32 n, .bool true] 35 (0, 0)), (d, .cells (Ye ma (r)) 54 (0, 0))] w1) hk ?_
 intro w1 hk1
 have K1 := Yh_ hk1
 clear hk hk1 K0
 have cm := Ya (K1.out.get 0 rfl)
 go_upto_region 5 with fail
 have hk := K1.out.lay Fl.zero.cells 25
 generalize w1.heap.size = M1 at hk ⊢
 refine Yy (B := fun w1 => Hz [d] w [(M1, .cells (Fl.cells Fl.zero) 25 (0, 0)), (M0, .cells #[.int .i64 k, .int .i64 t, .int .i64 a', .int .i64 b', .int .i64 c, .int .u32 n, .bool true] 35 (0, 0)), (d, .cells (Ye ma (r)) 54 (0, 0))] w1) hk ?_
 intro w2 hk1
 have K2 := Yh_ hk1
 clear hk hk1 K1 cm
 have cm := Ya (K2.out.get 1 rfl)
 have tok : True := trivial
 have tka : True := trivial
 go_upto_region 9 with (first
  |(have _t := tka; clear _t; refine Yaa 25 rfl ?_; refine Yl rfl 25 _ rfl d 10 rfl r.s.fl.cells _ (Ys.rf (r := r) (ma := ma) ⟨K2.out.get 2 rfl, HOK.out⟩) Tryd.underlying25 rfl Yao ?_; clear tka)
  |(have _t := tok; clear _t; go_at_call 18; refine (Yv n 21 25 _ HA.out.2.2.1).mono ?_; rintro e w' ⟨rfl, rfl⟩; rw [HT1.out.1]; clear tok)
  |(go_at_call 18; refine (Yv n 16 18 _ HA.out.2.2.1).mono ?_; rintro e w' ⟨rfl, rfl⟩; rw [HT1.out.2])
  |(have _t := K2; clear _t; go_at_call 33; refine (Yid n a b r.s.fl _ HB.out HA.out.1 HA.out.2.1).mono ?_; rintro e w5 ⟨rfl, hu5⟩; rw [HVF.out.1, HVF.out.2.1]; have K3 := Yh_ (K2.out.quiet hu5); clear hu5 K2 cm)
  |(have _t := K3; clear _t; refine Yag 25 rfl ?_; refine Ya1 F M1 rfl _ _ rfl rfl rfl (K3.out.get 0 rfl) ?_; intro w6 hu6 hf6; have K4 := Yh_ (show Hz [d] w [(M1, .cells (Fl.cells F) 25 (0, 0)), (M0, .cells #[.int .i64 k, .int .i64 t, .int .i64 a', .int .i64 b', .int .i64 c, .int .u32 n, .bool true] 35 (0, 0)), (d, .cells (Ye ma (r)) 54 (0, 0))] w6 from K3.out.put 0 rfl hu6 hf6); clear hu6 hf6 K3))
 have cm := Ya (K4.out.get 1 rfl)
 go_still_tail 7, (by kernel_rfl)
 change wpList _ _ _ _ _ w6.drew
 have K5 := Yh_ (K4.out.quiet (Upd.refl [] w6).drew)
 clear K4 cm
 generalize w6.drew = w7 at *
 have cm := Ya (K5.out.get 1 rfl)
 have cd : ∀ o, w7.cell? ⟨d, o, none⟩ = (Ye ma r)[o]? := Ya (K5.out.get 2 rfl)
 have fd := Yc (K5.out.get 2 rfl)
 have rt := Yah ma r t.toNat (by omega)
 go_upto_region 10 with fail
 have hk := K5.out.cell 2 rfl (35 + t.toNat) (.int .u32 V)
 dsimp only [List.set] at hk
 rw [Ybl ma r t.toNat V (by omega)] at hk
 refine Yy (B := fun w1 => Hz [d] w [(M1, .cells (Fl.cells F) 25 (0, 0)), (M0, .cells #[.int .i64 k, .int .i64 t, .int .i64 a', .int .i64 b', .int .i64 c, .int .u32 n, .bool true] 35 (0, 0)), (d, .cells (Ye ma (r.setT t.toNat V)) 54 (0, 0))] w1) hk ?_
 intro w8 hk1
 have K6 := Yh_ hk1
 have HO6 := Yh_ (Rn.setT_ok HOK.out t.toNat HA.out.2.2.2.1)
 clear hk hk1 K5 cm cd fd rt
 have cm := Ya (K6.out.get 1 rfl)
 have tkl : True := trivial
 have tks : True := trivial
 go_wp2_with (first
  |(have _t := tkl; clear _t; refine Yaa 25 rfl ?_; refine Yl rfl 25 _ rfl M1 0 rfl F.cells _ (Ybk (K6.out.get 0 rfl)) Tryd.underlying25 rfl Yao ?_; clear tkl)
  |(have _t := tks; clear _t; refine Yag 25 rfl ?_; refine Ybn F d ma (r.setT t.toNat V) rfl _ _ rfl rfl rfl ⟨K6.out.get 2 rfl, HO6.out⟩ ?_; intro w9 hu9 hr9; have K9 := Yh_ (And.intro hr9 (And.intro K6.out.u hu9)); clear hu9 hr9 tks))
 go_end0
 exact ⟨rfl, by rw [HR.out]; exact K9.out.1, K9.out.2.1.also K9.out.2.2 (fun x hx => .inl hx)⟩
theorem Yku (d ma : Nat) (r : Rn) (k t a' b' c n a b : Int) (w : World) (h : Ys w d ma r) (ht : 0 ≤ t ∧ t < 64) (hn : 0 ≤ n ∧ n < 4294967296) (ha : 0 ≤ a ∧ a < 4294967296) (hb : 0 ≤ b ∧ b < 4294967296) (hf : btw n 16 18 = true) (h2 : ¬(n = 16 ∨ n = 17)) :
  Calls Tryd.prog 21 #[.pointer (some ⟨d, 0, none⟩), .agg #[.int .i64 k, .int .i64 t, .int .i64 a', .int .i64 b', .int .i64 c, .int .u32 n, .bool false], .int .u32 a, .int .u32 b] w fun e w' => e = .returned (.tuple #[]) ∧ Ys w' d ma (r.alu n t a b false) ∧ Upd [d] w w' := by
 obtain ⟨V, hV⟩ : ∃ V, Yc3 n a b = V := ⟨_, rfl⟩
 obtain ⟨F, hF⟩ : ∃ F, Ycq n a b r.s.fl = F := ⟨_, rfl⟩
 obtain ⟨Z, hZ⟩ : ∃ Z, Yct n a b = Z := ⟨_, rfl⟩
 have hnn : 16 ≤ n ∧ n ≤ 18 := by simpa [btw] using hf
 have HB := Yh_ (show Ydo n = true by simp [Ydo]; omega)
 have HT1 := Yh_ (And.intro (show btw n 21 25 = false by simp [btw]; omega) hf)
 have hgo : maV n a b r.s.fl = V ∧ maF n a b r.s.fl = F := by
  unfold maV maF
  rw [if_neg (by rw [HT1.out.1]; decide), if_pos hf, if_neg (by rw [HT1.out.1]; decide), if_pos hf]
  exact ⟨hV, hF⟩
 have HR := Yh_ (show r.alu n t a b false = r.setT t.toNat V by
  unfold Rn.alu
  rw [hgo.1, hgo.2]
  dsimp only
  rw [if_neg h2]
  rfl)
 have hVr : 0 ≤ V ∧ V < 4294967296 := by rw [← hV]; exact Yc6 n a b
 have hZr : 0 ≤ Z ∧ Z < 4294967296 := by rw [← hZ]; exact Yc1 n a b
 have HA := Yh_ (And.intro ha (And.intro hb (And.intro hn (And.intro hVr hZr))))
 have HVF := Yh_ (And.intro hV (And.intro hF hZ))
 have HOK := Yh_ h.ok
 have K0 := Yh_ (show Hz [d] w [(d, .cells (Ye ma r) 54 (0, 0))] w from ⟨Upd.refl _ _, fun p hp => by rw [List.mem_singleton.1 hp]; exact h.h, List.pairwise_singleton _ _, fun p hp => by rw [List.mem_singleton.1 hp]; exact .inl (by simp)⟩)
 have ew : wrap64 n = n := by unfold wrap64; omega
 have g16 : (n == 16) = false := by simp; omega
 have g17 : (n == 17) = false := by simp; omega
 clear ha hb hf hgo hV hF hZ hZr hVr hnn h h2
 have bt : 0 ≤ t ∧ t < 64 := ht
 go_enter Tryd.func21, Tryd.ntmps21
 go_upto_region 1 with fail
 have hk := K0.out.lay #[.int .i64 k, .int .i64 t, .int .i64 a', .int .i64 b', .int .i64 c, .int .u32 n, .bool false] 35
 generalize w.heap.size = M0 at hk ⊢
 refine Yy (B := fun w1 => Hz [d] w [(M0, .cells #[.int .i64 k, .int .i64 t, .int .i64 a', .int .i64 b', .int .i64 c, .int .u32 n, .bool false] 35 (0, 0)), (d, .cells (Ye ma (r)) 54 (0, 0))] w1) hk ?_
 intro w1 hk1
 have K1 := Yh_ hk1
 clear hk hk1 K0
 have cm := Ya (K1.out.get 0 rfl)
 go_upto_region 5 with fail
 have hk := K1.out.lay Fl.zero.cells 25
 generalize w1.heap.size = M1 at hk ⊢
 refine Yy (B := fun w1 => Hz [d] w [(M1, .cells (Fl.cells Fl.zero) 25 (0, 0)), (M0, .cells #[.int .i64 k, .int .i64 t, .int .i64 a', .int .i64 b', .int .i64 c, .int .u32 n, .bool false] 35 (0, 0)), (d, .cells (Ye ma (r)) 54 (0, 0))] w1) hk ?_
 intro w2 hk1
 have K2 := Yh_ hk1
 clear hk hk1 K1 cm
 have cm := Ya (K2.out.get 1 rfl)
 have tok : True := trivial
 have tka : True := trivial
 go_upto_region 9 with (first
  |(have _t := tka; clear _t; refine Yaa 25 rfl ?_; refine Yl rfl 25 _ rfl d 10 rfl r.s.fl.cells _ (Ys.rf (r := r) (ma := ma) ⟨K2.out.get 2 rfl, HOK.out⟩) Tryd.underlying25 rfl Yao ?_; clear tka)
  |(have _t := tok; clear _t; go_at_call 18; refine (Yv n 21 25 _ HA.out.2.2.1).mono ?_; rintro e w' ⟨rfl, rfl⟩; rw [HT1.out.1]; clear tok)
  |(go_at_call 18; refine (Yv n 16 18 _ HA.out.2.2.1).mono ?_; rintro e w' ⟨rfl, rfl⟩; rw [HT1.out.2])
  |(have _t := K2; clear _t; go_at_call 32; refine (Yf6 n a b r.s.fl _ HB.out HA.out.1 HA.out.2.1).mono ?_; rintro e w5 ⟨rfl, hu5⟩; rw [HVF.out.1, HVF.out.2.1, HVF.out.2.2]; have K3 := Yh_ (K2.out.quiet hu5); clear hu5 K2 cm)
  |(have _t := K3; clear _t; refine Yag 25 rfl ?_; refine Ya1 F M1 rfl _ _ rfl rfl rfl (K3.out.get 0 rfl) ?_; intro w6 hu6 hf6; have K4 := Yh_ (show Hz [d] w [(M1, .cells (Fl.cells F) 25 (0, 0)), (M0, .cells #[.int .i64 k, .int .i64 t, .int .i64 a', .int .i64 b', .int .i64 c, .int .u32 n, .bool false] 35 (0, 0)), (d, .cells (Ye ma (r)) 54 (0, 0))] w6 from K3.out.put 0 rfl hu6 hf6); clear hu6 hf6 K3))
 have cm := Ya (K4.out.get 1 rfl)
 go_still_tail 7, (by kernel_rfl)
 change wpList _ _ _ _ _ w6.drew
 have K5 := Yh_ (K4.out.quiet (Upd.refl [] w6).drew)
 clear K4 cm
 generalize w6.drew = w7 at *
 have cm := Ya (K5.out.get 1 rfl)
 have cd : ∀ o, w7.cell? ⟨d, o, none⟩ = (Ye ma r)[o]? := Ya (K5.out.get 2 rfl)
 have fd := Yc (K5.out.get 2 rfl)
 have rt := Yah ma r t.toNat (by omega)
 go_upto_region 10 with fail
 have hk := K5.out.cell 2 rfl (35 + t.toNat) (.int .u32 V)
 dsimp only [List.set] at hk
 rw [Ybl ma r t.toNat V (by omega)] at hk
 refine Yy (B := fun w1 => Hz [d] w [(M1, .cells (Fl.cells F) 25 (0, 0)), (M0, .cells #[.int .i64 k, .int .i64 t, .int .i64 a', .int .i64 b', .int .i64 c, .int .u32 n, .bool false] 35 (0, 0)), (d, .cells (Ye ma (r.setT t.toNat V)) 54 (0, 0))] w1) hk ?_
 intro w8 hk1
 have K6 := Yh_ hk1
 have HO6 := Yh_ (Rn.setT_ok HOK.out t.toNat HA.out.2.2.2.1)
 clear hk hk1 K5 cm cd fd rt
 have cm := Ya (K6.out.get 1 rfl)
 have tkl : True := trivial
 have tks : True := trivial
 go_wp2_with fail
 go_end0
 exact ⟨rfl, by rw [HR.out]; exact ⟨K6.out.get 2 rfl, HO6.out⟩, K6.out.u⟩
theorem Ykj (d ma : Nat) (r : Rn) (k t a' b' c n a b : Int) (w : World) (h : Ys w d ma r) (ht : 0 ≤ t ∧ t < 64) (hn : 0 ≤ n ∧ n < 4294967296) (ha : 0 ≤ a ∧ a < 4294967296) (hb : 0 ≤ b ∧ b < 4294967296) (hf : btw n 16 18 = true) (h2 : ¬(n = 16 ∨ n = 17)) :
  Calls Tryd.prog 21 #[.pointer (some ⟨d, 0, none⟩), .agg #[.int .i64 k, .int .i64 t, .int .i64 a', .int .i64 b', .int .i64 c, .int .u32 n, .bool true], .int .u32 a, .int .u32 b] w fun e w' => e = .returned (.tuple #[]) ∧ Ys w' d ma (r.alu n t a b true) ∧ Upd [d] w w' := by
 obtain ⟨V, hV⟩ : ∃ V, Yc3 n a b = V := ⟨_, rfl⟩
 obtain ⟨F, hF⟩ : ∃ F, Ycq n a b r.s.fl = F := ⟨_, rfl⟩
 obtain ⟨Z, hZ⟩ : ∃ Z, Yct n a b = Z := ⟨_, rfl⟩
 have hnn : 16 ≤ n ∧ n ≤ 18 := by simpa [btw] using hf
 have HB := Yh_ (show Ydo n = true by simp [Ydo]; omega)
 have HT1 := Yh_ (And.intro (show btw n 21 25 = false by simp [btw]; omega) hf)
 have hgo : maV n a b r.s.fl = V ∧ maF n a b r.s.fl = F := by
  unfold maV maF
  rw [if_neg (by rw [HT1.out.1]; decide), if_pos hf, if_neg (by rw [HT1.out.1]; decide), if_pos hf]
  exact ⟨hV, hF⟩
 have HR := Yh_ (show r.alu n t a b true = { (r.setT t.toNat V) with s := (r.setT t.toNat V).s.setFl F } by
  unfold Rn.alu
  rw [hgo.1, hgo.2]
  dsimp only
  rw [if_neg h2]
  rfl)
 have hVr : 0 ≤ V ∧ V < 4294967296 := by rw [← hV]; exact Yc6 n a b
 have hZr : 0 ≤ Z ∧ Z < 4294967296 := by rw [← hZ]; exact Yc1 n a b
 have HA := Yh_ (And.intro ha (And.intro hb (And.intro hn (And.intro hVr hZr))))
 have HVF := Yh_ (And.intro hV (And.intro hF hZ))
 have HOK := Yh_ h.ok
 have K0 := Yh_ (show Hz [d] w [(d, .cells (Ye ma r) 54 (0, 0))] w from ⟨Upd.refl _ _, fun p hp => by rw [List.mem_singleton.1 hp]; exact h.h, List.pairwise_singleton _ _, fun p hp => by rw [List.mem_singleton.1 hp]; exact .inl (by simp)⟩)
 have ew : wrap64 n = n := by unfold wrap64; omega
 have g16 : (n == 16) = false := by simp; omega
 have g17 : (n == 17) = false := by simp; omega
 clear ha hb hf hgo hV hF hZ hZr hVr hnn h h2
 have bt : 0 ≤ t ∧ t < 64 := ht
 go_enter Tryd.func21, Tryd.ntmps21
 go_upto_region 1 with fail
 have hk := K0.out.lay #[.int .i64 k, .int .i64 t, .int .i64 a', .int .i64 b', .int .i64 c, .int .u32 n, .bool true] 35
 generalize w.heap.size = M0 at hk ⊢
 refine Yy (B := fun w1 => Hz [d] w [(M0, .cells #[.int .i64 k, .int .i64 t, .int .i64 a', .int .i64 b', .int .i64 c, .int .u32 n, .bool true] 35 (0, 0)), (d, .cells (Ye ma (r)) 54 (0, 0))] w1) hk ?_
 intro w1 hk1
 have K1 := Yh_ hk1
 clear hk hk1 K0
 have cm := Ya (K1.out.get 0 rfl)
 go_upto_region 5 with fail
 have hk := K1.out.lay Fl.zero.cells 25
 generalize w1.heap.size = M1 at hk ⊢
 refine Yy (B := fun w1 => Hz [d] w [(M1, .cells (Fl.cells Fl.zero) 25 (0, 0)), (M0, .cells #[.int .i64 k, .int .i64 t, .int .i64 a', .int .i64 b', .int .i64 c, .int .u32 n, .bool true] 35 (0, 0)), (d, .cells (Ye ma (r)) 54 (0, 0))] w1) hk ?_
 intro w2 hk1
 have K2 := Yh_ hk1
 clear hk hk1 K1 cm
 have cm := Ya (K2.out.get 1 rfl)
 have tok : True := trivial
 have tka : True := trivial
 go_upto_region 9 with (first
  |(have _t := tka; clear _t; refine Yaa 25 rfl ?_; refine Yl rfl 25 _ rfl d 10 rfl r.s.fl.cells _ (Ys.rf (r := r) (ma := ma) ⟨K2.out.get 2 rfl, HOK.out⟩) Tryd.underlying25 rfl Yao ?_; clear tka)
  |(have _t := tok; clear _t; go_at_call 18; refine (Yv n 21 25 _ HA.out.2.2.1).mono ?_; rintro e w' ⟨rfl, rfl⟩; rw [HT1.out.1]; clear tok)
  |(go_at_call 18; refine (Yv n 16 18 _ HA.out.2.2.1).mono ?_; rintro e w' ⟨rfl, rfl⟩; rw [HT1.out.2])
  |(have _t := K2; clear _t; go_at_call 32; refine (Yf6 n a b r.s.fl _ HB.out HA.out.1 HA.out.2.1).mono ?_; rintro e w5 ⟨rfl, hu5⟩; rw [HVF.out.1, HVF.out.2.1, HVF.out.2.2]; have K3 := Yh_ (K2.out.quiet hu5); clear hu5 K2 cm)
  |(have _t := K3; clear _t; refine Yag 25 rfl ?_; refine Ya1 F M1 rfl _ _ rfl rfl rfl (K3.out.get 0 rfl) ?_; intro w6 hu6 hf6; have K4 := Yh_ (show Hz [d] w [(M1, .cells (Fl.cells F) 25 (0, 0)), (M0, .cells #[.int .i64 k, .int .i64 t, .int .i64 a', .int .i64 b', .int .i64 c, .int .u32 n, .bool true] 35 (0, 0)), (d, .cells (Ye ma (r)) 54 (0, 0))] w6 from K3.out.put 0 rfl hu6 hf6); clear hu6 hf6 K3))
 have cm := Ya (K4.out.get 1 rfl)
 go_still_tail 7, (by kernel_rfl)
 change wpList _ _ _ _ _ w6.drew
 have K5 := Yh_ (K4.out.quiet (Upd.refl [] w6).drew)
 clear K4 cm
 generalize w6.drew = w7 at *
 have cm := Ya (K5.out.get 1 rfl)
 have cd : ∀ o, w7.cell? ⟨d, o, none⟩ = (Ye ma r)[o]? := Ya (K5.out.get 2 rfl)
 have fd := Yc (K5.out.get 2 rfl)
 have rt := Yah ma r t.toNat (by omega)
 go_upto_region 10 with fail
 have hk := K5.out.cell 2 rfl (35 + t.toNat) (.int .u32 V)
 dsimp only [List.set] at hk
 rw [Ybl ma r t.toNat V (by omega)] at hk
 refine Yy (B := fun w1 => Hz [d] w [(M1, .cells (Fl.cells F) 25 (0, 0)), (M0, .cells #[.int .i64 k, .int .i64 t, .int .i64 a', .int .i64 b', .int .i64 c, .int .u32 n, .bool true] 35 (0, 0)), (d, .cells (Ye ma (r.setT t.toNat V)) 54 (0, 0))] w1) hk ?_
 intro w8 hk1
 have K6 := Yh_ hk1
 have HO6 := Yh_ (Rn.setT_ok HOK.out t.toNat HA.out.2.2.2.1)
 clear hk hk1 K5 cm cd fd rt
 have cm := Ya (K6.out.get 1 rfl)
 have tkl : True := trivial
 have tks : True := trivial
 go_wp2_with (first
  |(have _t := tkl; clear _t; refine Yaa 25 rfl ?_; refine Yl rfl 25 _ rfl M1 0 rfl F.cells _ (Ybk (K6.out.get 0 rfl)) Tryd.underlying25 rfl Yao ?_; clear tkl)
  |(have _t := tks; clear _t; refine Yag 25 rfl ?_; refine Ybn F d ma (r.setT t.toNat V) rfl _ _ rfl rfl rfl ⟨K6.out.get 2 rfl, HO6.out⟩ ?_; intro w9 hu9 hr9; have K9 := Yh_ (And.intro hr9 (And.intro K6.out.u hu9)); clear hu9 hr9 tks))
 go_end0
 exact ⟨rfl, by rw [HR.out]; exact K9.out.1, K9.out.2.1.also K9.out.2.2 (fun x hx => .inl hx)⟩
theorem Yjw (d ma : Nat) (r : Rn) (k t a' b' c n a b : Int) (w : World) (h : Ys w d ma r) (ht : 0 ≤ t ∧ t < 64) (hn : 0 ≤ n ∧ n < 4294967296) (ha : 0 ≤ a ∧ a < 4294967296) (hb : 0 ≤ b ∧ b < 4294967296) (hf : btw n 16 18 = true) (h2 : n = 16 ∨ n = 17) :
  Calls Tryd.prog 21 #[.pointer (some ⟨d, 0, none⟩), .agg #[.int .i64 k, .int .i64 t, .int .i64 a', .int .i64 b', .int .i64 c, .int .u32 n, .bool false], .int .u32 a, .int .u32 b] w fun e w' => e = .returned (.tuple #[]) ∧ Ys w' d ma (r.alu n t a b false) ∧ Upd [d] w w' := by
 obtain ⟨V, hV⟩ : ∃ V, Yc3 n a b = V := ⟨_, rfl⟩
 obtain ⟨F, hF⟩ : ∃ F, Ycq n a b r.s.fl = F := ⟨_, rfl⟩
 obtain ⟨Z, hZ⟩ : ∃ Z, Yct n a b = Z := ⟨_, rfl⟩
 have hnn : 16 ≤ n ∧ n ≤ 18 := by simpa [btw] using hf
 have HB := Yh_ (show Ydo n = true by simp [Ydo]; omega)
 have HT1 := Yh_ (And.intro (show btw n 21 25 = false by simp [btw]; omega) hf)
 have hgo : maV n a b r.s.fl = V ∧ maF n a b r.s.fl = F := by
  unfold maV maF
  rw [if_neg (by rw [HT1.out.1]; decide), if_pos hf, if_neg (by rw [HT1.out.1]; decide), if_pos hf]
  exact ⟨hV, hF⟩
 have HR := Yh_ (show r.alu n t a b false = (r.setT t.toNat V).setT ((t + 1) % 64).toNat Z by
  unfold Rn.alu
  rw [hgo.1, hgo.2]
  dsimp only
  rw [if_pos h2, hZ]
  rfl)
 have hVr : 0 ≤ V ∧ V < 4294967296 := by rw [← hV]; exact Yc6 n a b
 have hZr : 0 ≤ Z ∧ Z < 4294967296 := by rw [← hZ]; exact Yc1 n a b
 have HA := Yh_ (And.intro ha (And.intro hb (And.intro hn (And.intro hVr hZr))))
 have HVF := Yh_ (And.intro hV (And.intro hF hZ))
 have HOK := Yh_ h.ok
 have K0 := Yh_ (show Hz [d] w [(d, .cells (Ye ma r) 54 (0, 0))] w from ⟨Upd.refl _ _, fun p hp => by rw [List.mem_singleton.1 hp]; exact h.h, List.pairwise_singleton _ _, fun p hp => by rw [List.mem_singleton.1 hp]; exact .inl (by simp)⟩)
 have ew : wrap64 n = n := by unfold wrap64; omega
 have gq : n = 16 ∨ n = 17 := h2
 have ewt : wrap64 (t + 1) = t + 1 := by unfold wrap64; omega
 have ewt2 : IntKind.i64.wrap (t + 1) = t + 1 := by unfold IntKind.wrap; simp [IntKind.signed, IntKind.bits]; omega
 have emt : (t + 1).tmod 64 = (t + 1) % 64 := Int.tmod_eq_emod_of_nonneg (by omega)
 obtain ⟨t1, ht1⟩ : ∃ t1, (t + 1) % 64 = t1 := ⟨_, rfl⟩
 rw [ht1] at emt
 have HR := Yh_ (by have h := HR.out; rw [ht1] at h; exact h)
 have bt1 : 0 ≤ t1 ∧ t1 < 64 := by omega
 clear ha hb hf hgo hV hF hZ hZr hVr hnn h h2 ht1
 have bt : 0 ≤ t ∧ t < 64 := ht
 go_enter Tryd.func21, Tryd.ntmps21
 go_upto_region 1 with fail
 have hk := K0.out.lay #[.int .i64 k, .int .i64 t, .int .i64 a', .int .i64 b', .int .i64 c, .int .u32 n, .bool false] 35
 generalize w.heap.size = M0 at hk ⊢
 refine Yy (B := fun w1 => Hz [d] w [(M0, .cells #[.int .i64 k, .int .i64 t, .int .i64 a', .int .i64 b', .int .i64 c, .int .u32 n, .bool false] 35 (0, 0)), (d, .cells (Ye ma (r)) 54 (0, 0))] w1) hk ?_
 intro w1 hk1
 have K1 := Yh_ hk1
 clear hk hk1 K0
 have cm := Ya (K1.out.get 0 rfl)
 go_upto_region 5 with fail
 have hk := K1.out.lay Fl.zero.cells 25
 generalize w1.heap.size = M1 at hk ⊢
 refine Yy (B := fun w1 => Hz [d] w [(M1, .cells (Fl.cells Fl.zero) 25 (0, 0)), (M0, .cells #[.int .i64 k, .int .i64 t, .int .i64 a', .int .i64 b', .int .i64 c, .int .u32 n, .bool false] 35 (0, 0)), (d, .cells (Ye ma (r)) 54 (0, 0))] w1) hk ?_
 intro w2 hk1
 have K2 := Yh_ hk1
 clear hk hk1 K1 cm
 have cm := Ya (K2.out.get 1 rfl)
 have tok : True := trivial
 have tka : True := trivial
 go_upto_region 9 with (first
  |(have _t := tka; clear _t; refine Yaa 25 rfl ?_; refine Yl rfl 25 _ rfl d 10 rfl r.s.fl.cells _ (Ys.rf (r := r) (ma := ma) ⟨K2.out.get 2 rfl, HOK.out⟩) Tryd.underlying25 rfl Yao ?_; clear tka)
  |(have _t := tok; clear _t; go_at_call 18; refine (Yv n 21 25 _ HA.out.2.2.1).mono ?_; rintro e w' ⟨rfl, rfl⟩; rw [HT1.out.1]; clear tok)
  |(go_at_call 18; refine (Yv n 16 18 _ HA.out.2.2.1).mono ?_; rintro e w' ⟨rfl, rfl⟩; rw [HT1.out.2])
  |(have _t := K2; clear _t; go_at_call 32; refine (Yf6 n a b r.s.fl _ HB.out HA.out.1 HA.out.2.1).mono ?_; rintro e w5 ⟨rfl, hu5⟩; rw [HVF.out.1, HVF.out.2.1, HVF.out.2.2]; have K3 := Yh_ (K2.out.quiet hu5); clear hu5 K2 cm)
  |(have _t := K3; clear _t; refine Yag 25 rfl ?_; refine Ya1 F M1 rfl _ _ rfl rfl rfl (K3.out.get 0 rfl) ?_; intro w6 hu6 hf6; have K4 := Yh_ (show Hz [d] w [(M1, .cells (Fl.cells F) 25 (0, 0)), (M0, .cells #[.int .i64 k, .int .i64 t, .int .i64 a', .int .i64 b', .int .i64 c, .int .u32 n, .bool false] 35 (0, 0)), (d, .cells (Ye ma (r)) 54 (0, 0))] w6 from K3.out.put 0 rfl hu6 hf6); clear hu6 hf6 K3))
 have cm := Ya (K4.out.get 1 rfl)
 go_still_tail 7, (by kernel_rfl)
 change wpList _ _ _ _ _ w6.drew
 have K5 := Yh_ (K4.out.quiet (Upd.refl [] w6).drew)
 clear K4 cm
 generalize w6.drew = w7 at *
 have cm := Ya (K5.out.get 1 rfl)
 have cd : ∀ o, w7.cell? ⟨d, o, none⟩ = (Ye ma r)[o]? := Ya (K5.out.get 2 rfl)
 have fd := Yc (K5.out.get 2 rfl)
 have rt := Yah ma r t.toNat (by omega)
 go_upto_region 10 with fail
 have hk := K5.out.cell 2 rfl (35 + t.toNat) (.int .u32 V)
 dsimp only [List.set] at hk
 rw [Ybl ma r t.toNat V (by omega)] at hk
 refine Yy (B := fun w1 => Hz [d] w [(M1, .cells (Fl.cells F) 25 (0, 0)), (M0, .cells #[.int .i64 k, .int .i64 t, .int .i64 a', .int .i64 b', .int .i64 c, .int .u32 n, .bool false] 35 (0, 0)), (d, .cells (Ye ma (r.setT t.toNat V)) 54 (0, 0))] w1) hk ?_
 intro w8 hk1
 have K6 := Yh_ hk1
 have HO6 := Yh_ (Rn.setT_ok HOK.out t.toNat HA.out.2.2.2.1)
 clear hk hk1 K5 cm cd fd rt
 have cm := Ya (K6.out.get 1 rfl)
 rcases gq with gq | gq
 ·have g16 : (n == 16) = true := by simp; omega
  clear gq
  go_upto_region 11 with fail
  go_still_tail 9, (by kernel_rfl)
  change wpList _ _ _ _ _ w8.drew
  have K7 := Yh_ (K6.out.quiet (Upd.refl [] w8).drew)
  clear K6 cm
  generalize w8.drew = w9 at *
  have cm := Ya (K7.out.get 1 rfl)
  have cd : ∀ o, w9.cell? ⟨d, o, none⟩ = (Ye ma (r.setT t.toNat V))[o]? := Ya (K7.out.get 2 rfl)
  have fd := Yc (K7.out.get 2 rfl)
  have rt := Yah ma (r.setT t.toNat V) t1.toNat (by omega)
  go_upto_region 12 with fail
  have hk := K7.out.cell 2 rfl (35 + t1.toNat) (.int .u32 Z)
  dsimp only [List.set] at hk
  rw [Ybl ma (r.setT t.toNat V) t1.toNat Z (by omega)] at hk
  refine Yy (B := fun w1 => Hz [d] w [(M1, .cells (Fl.cells F) 25 (0, 0)), (M0, .cells #[.int .i64 k, .int .i64 t, .int .i64 a', .int .i64 b', .int .i64 c, .int .u32 n, .bool false] 35 (0, 0)), (d, .cells (Ye ma ((r.setT t.toNat V).setT t1.toNat Z)) 54 (0, 0))] w1) hk ?_
  intro wA hk1
  have K8 := Yh_ hk1
  have HO8 := Yh_ (Rn.setT_ok HO6.out t1.toNat HA.out.2.2.2.2)
  clear hk hk1 K7 cm cd fd rt
  have cm := Ya (K8.out.get 1 rfl)
  have tkl : True := trivial
  have tks : True := trivial
  go_wp2_with fail
  go_end0
  exact ⟨rfl, by rw [HR.out]; exact ⟨K8.out.get 2 rfl, HO8.out⟩, K8.out.u⟩
 ·have g16 : (n == 16) = false := by simp; omega
  have g17 : (n == 17) = true := by simp; omega
  clear gq
  go_upto_region 11 with fail
  go_still_tail 9, (by kernel_rfl)
  change wpList _ _ _ _ _ w8.drew
  have K7 := Yh_ (K6.out.quiet (Upd.refl [] w8).drew)
  clear K6 cm
  generalize w8.drew = w9 at *
  have cm := Ya (K7.out.get 1 rfl)
  have cd : ∀ o, w9.cell? ⟨d, o, none⟩ = (Ye ma (r.setT t.toNat V))[o]? := Ya (K7.out.get 2 rfl)
  have fd := Yc (K7.out.get 2 rfl)
  have rt := Yah ma (r.setT t.toNat V) t1.toNat (by omega)
  go_upto_region 12 with fail
  have hk := K7.out.cell 2 rfl (35 + t1.toNat) (.int .u32 Z)
  dsimp only [List.set] at hk
  rw [Ybl ma (r.setT t.toNat V) t1.toNat Z (by omega)] at hk
  refine Yy (B := fun w1 => Hz [d] w [(M1, .cells (Fl.cells F) 25 (0, 0)), (M0, .cells #[.int .i64 k, .int .i64 t, .int .i64 a', .int .i64 b', .int .i64 c, .int .u32 n, .bool false] 35 (0, 0)), (d, .cells (Ye ma ((r.setT t.toNat V).setT t1.toNat Z)) 54 (0, 0))] w1) hk ?_
  intro wA hk1
  have K8 := Yh_ hk1
  have HO8 := Yh_ (Rn.setT_ok HO6.out t1.toNat HA.out.2.2.2.2)
  clear hk hk1 K7 cm cd fd rt
  have cm := Ya (K8.out.get 1 rfl)
  have tkl : True := trivial
  have tks : True := trivial
  go_wp2_with fail
  go_end0
  exact ⟨rfl, by rw [HR.out]; exact ⟨K8.out.get 2 rfl, HO8.out⟩, K8.out.u⟩
theorem Yj3 (d ma : Nat) (r : Rn) (k t a' b' c n a b : Int) (w : World) (h : Ys w d ma r) (ht : 0 ≤ t ∧ t < 64) (hn : 0 ≤ n ∧ n < 4294967296) (ha : 0 ≤ a ∧ a < 4294967296) (hb : 0 ≤ b ∧ b < 4294967296) (hf : btw n 16 18 = true) (h2 : n = 16 ∨ n = 17) :
  Calls Tryd.prog 21 #[.pointer (some ⟨d, 0, none⟩), .agg #[.int .i64 k, .int .i64 t, .int .i64 a', .int .i64 b', .int .i64 c, .int .u32 n, .bool true], .int .u32 a, .int .u32 b] w fun e w' => e = .returned (.tuple #[]) ∧ Ys w' d ma (r.alu n t a b true) ∧ Upd [d] w w' := by
 obtain ⟨V, hV⟩ : ∃ V, Yc3 n a b = V := ⟨_, rfl⟩
 obtain ⟨F, hF⟩ : ∃ F, Ycq n a b r.s.fl = F := ⟨_, rfl⟩
 obtain ⟨Z, hZ⟩ : ∃ Z, Yct n a b = Z := ⟨_, rfl⟩
 have hnn : 16 ≤ n ∧ n ≤ 18 := by simpa [btw] using hf
 have HB := Yh_ (show Ydo n = true by simp [Ydo]; omega)
 have HT1 := Yh_ (And.intro (show btw n 21 25 = false by simp [btw]; omega) hf)
 have hgo : maV n a b r.s.fl = V ∧ maF n a b r.s.fl = F := by
  unfold maV maF
  rw [if_neg (by rw [HT1.out.1]; decide), if_pos hf, if_neg (by rw [HT1.out.1]; decide), if_pos hf]
  exact ⟨hV, hF⟩
 have HR := Yh_ (show r.alu n t a b true = { ((r.setT t.toNat V).setT ((t + 1) % 64).toNat Z) with s := ((r.setT t.toNat V).setT ((t + 1) % 64).toNat Z).s.setFl F } by
  unfold Rn.alu
  rw [hgo.1, hgo.2]
  dsimp only
  rw [if_pos h2, hZ]
  rfl)
 have hVr : 0 ≤ V ∧ V < 4294967296 := by rw [← hV]; exact Yc6 n a b
 have hZr : 0 ≤ Z ∧ Z < 4294967296 := by rw [← hZ]; exact Yc1 n a b
 have HA := Yh_ (And.intro ha (And.intro hb (And.intro hn (And.intro hVr hZr))))
 have HVF := Yh_ (And.intro hV (And.intro hF hZ))
 have HOK := Yh_ h.ok
 have K0 := Yh_ (show Hz [d] w [(d, .cells (Ye ma r) 54 (0, 0))] w from ⟨Upd.refl _ _, fun p hp => by rw [List.mem_singleton.1 hp]; exact h.h, List.pairwise_singleton _ _, fun p hp => by rw [List.mem_singleton.1 hp]; exact .inl (by simp)⟩)
 have ew : wrap64 n = n := by unfold wrap64; omega
 have gq : n = 16 ∨ n = 17 := h2
 have ewt : wrap64 (t + 1) = t + 1 := by unfold wrap64; omega
 have ewt2 : IntKind.i64.wrap (t + 1) = t + 1 := by unfold IntKind.wrap; simp [IntKind.signed, IntKind.bits]; omega
 have emt : (t + 1).tmod 64 = (t + 1) % 64 := Int.tmod_eq_emod_of_nonneg (by omega)
 obtain ⟨t1, ht1⟩ : ∃ t1, (t + 1) % 64 = t1 := ⟨_, rfl⟩
 rw [ht1] at emt
 have HR := Yh_ (by have h := HR.out; rw [ht1] at h; exact h)
 have bt1 : 0 ≤ t1 ∧ t1 < 64 := by omega
 clear ha hb hf hgo hV hF hZ hZr hVr hnn h h2 ht1
 have bt : 0 ≤ t ∧ t < 64 := ht
 go_enter Tryd.func21, Tryd.ntmps21
 go_upto_region 1 with fail
 have hk := K0.out.lay #[.int .i64 k, .int .i64 t, .int .i64 a', .int .i64 b', .int .i64 c, .int .u32 n, .bool true] 35
 generalize w.heap.size = M0 at hk ⊢
 refine Yy (B := fun w1 => Hz [d] w [(M0, .cells #[.int .i64 k, .int .i64 t, .int .i64 a', .int .i64 b', .int .i64 c, .int .u32 n, .bool true] 35 (0, 0)), (d, .cells (Ye ma (r)) 54 (0, 0))] w1) hk ?_
 intro w1 hk1
 have K1 := Yh_ hk1
 clear hk hk1 K0
 have cm := Ya (K1.out.get 0 rfl)
 go_upto_region 5 with fail
 have hk := K1.out.lay Fl.zero.cells 25
 generalize w1.heap.size = M1 at hk ⊢
 refine Yy (B := fun w1 => Hz [d] w [(M1, .cells (Fl.cells Fl.zero) 25 (0, 0)), (M0, .cells #[.int .i64 k, .int .i64 t, .int .i64 a', .int .i64 b', .int .i64 c, .int .u32 n, .bool true] 35 (0, 0)), (d, .cells (Ye ma (r)) 54 (0, 0))] w1) hk ?_
 intro w2 hk1
 have K2 := Yh_ hk1
 clear hk hk1 K1 cm
 have cm := Ya (K2.out.get 1 rfl)
 have tok : True := trivial
 have tka : True := trivial
 go_upto_region 9 with (first
  |(have _t := tka; clear _t; refine Yaa 25 rfl ?_; refine Yl rfl 25 _ rfl d 10 rfl r.s.fl.cells _ (Ys.rf (r := r) (ma := ma) ⟨K2.out.get 2 rfl, HOK.out⟩) Tryd.underlying25 rfl Yao ?_; clear tka)
  |(have _t := tok; clear _t; go_at_call 18; refine (Yv n 21 25 _ HA.out.2.2.1).mono ?_; rintro e w' ⟨rfl, rfl⟩; rw [HT1.out.1]; clear tok)
  |(go_at_call 18; refine (Yv n 16 18 _ HA.out.2.2.1).mono ?_; rintro e w' ⟨rfl, rfl⟩; rw [HT1.out.2])
  |(have _t := K2; clear _t; go_at_call 32; refine (Yf6 n a b r.s.fl _ HB.out HA.out.1 HA.out.2.1).mono ?_; rintro e w5 ⟨rfl, hu5⟩; rw [HVF.out.1, HVF.out.2.1, HVF.out.2.2]; have K3 := Yh_ (K2.out.quiet hu5); clear hu5 K2 cm)
  |(have _t := K3; clear _t; refine Yag 25 rfl ?_; refine Ya1 F M1 rfl _ _ rfl rfl rfl (K3.out.get 0 rfl) ?_; intro w6 hu6 hf6; have K4 := Yh_ (show Hz [d] w [(M1, .cells (Fl.cells F) 25 (0, 0)), (M0, .cells #[.int .i64 k, .int .i64 t, .int .i64 a', .int .i64 b', .int .i64 c, .int .u32 n, .bool true] 35 (0, 0)), (d, .cells (Ye ma (r)) 54 (0, 0))] w6 from K3.out.put 0 rfl hu6 hf6); clear hu6 hf6 K3))
 have cm := Ya (K4.out.get 1 rfl)
 go_still_tail 7, (by kernel_rfl)
 change wpList _ _ _ _ _ w6.drew
 have K5 := Yh_ (K4.out.quiet (Upd.refl [] w6).drew)
 clear K4 cm
 generalize w6.drew = w7 at *
 have cm := Ya (K5.out.get 1 rfl)
 have cd : ∀ o, w7.cell? ⟨d, o, none⟩ = (Ye ma r)[o]? := Ya (K5.out.get 2 rfl)
 have fd := Yc (K5.out.get 2 rfl)
 have rt := Yah ma r t.toNat (by omega)
 go_upto_region 10 with fail
 have hk := K5.out.cell 2 rfl (35 + t.toNat) (.int .u32 V)
 dsimp only [List.set] at hk
 rw [Ybl ma r t.toNat V (by omega)] at hk
 refine Yy (B := fun w1 => Hz [d] w [(M1, .cells (Fl.cells F) 25 (0, 0)), (M0, .cells #[.int .i64 k, .int .i64 t, .int .i64 a', .int .i64 b', .int .i64 c, .int .u32 n, .bool true] 35 (0, 0)), (d, .cells (Ye ma (r.setT t.toNat V)) 54 (0, 0))] w1) hk ?_
 intro w8 hk1
 have K6 := Yh_ hk1
 have HO6 := Yh_ (Rn.setT_ok HOK.out t.toNat HA.out.2.2.2.1)
 clear hk hk1 K5 cm cd fd rt
 have cm := Ya (K6.out.get 1 rfl)
 rcases gq with gq | gq
 ·have g16 : (n == 16) = true := by simp; omega
  clear gq
  go_upto_region 11 with fail
  go_still_tail 9, (by kernel_rfl)
  change wpList _ _ _ _ _ w8.drew
  have K7 := Yh_ (K6.out.quiet (Upd.refl [] w8).drew)
  clear K6 cm
  generalize w8.drew = w9 at *
  have cm := Ya (K7.out.get 1 rfl)
  have cd : ∀ o, w9.cell? ⟨d, o, none⟩ = (Ye ma (r.setT t.toNat V))[o]? := Ya (K7.out.get 2 rfl)
  have fd := Yc (K7.out.get 2 rfl)
  have rt := Yah ma (r.setT t.toNat V) t1.toNat (by omega)
  go_upto_region 12 with fail
  have hk := K7.out.cell 2 rfl (35 + t1.toNat) (.int .u32 Z)
  dsimp only [List.set] at hk
  rw [Ybl ma (r.setT t.toNat V) t1.toNat Z (by omega)] at hk
  refine Yy (B := fun w1 => Hz [d] w [(M1, .cells (Fl.cells F) 25 (0, 0)), (M0, .cells #[.int .i64 k, .int .i64 t, .int .i64 a', .int .i64 b', .int .i64 c, .int .u32 n, .bool true] 35 (0, 0)), (d, .cells (Ye ma ((r.setT t.toNat V).setT t1.toNat Z)) 54 (0, 0))] w1) hk ?_
  intro wA hk1
  have K8 := Yh_ hk1
  have HO8 := Yh_ (Rn.setT_ok HO6.out t1.toNat HA.out.2.2.2.2)
  clear hk hk1 K7 cm cd fd rt
  have cm := Ya (K8.out.get 1 rfl)
  have tkl : True := trivial
  have tks : True := trivial
  go_wp2_with (first
   |(have _t := tkl; clear _t; refine Yaa 25 rfl ?_; refine Yl rfl 25 _ rfl M1 0 rfl F.cells _ (Ybk (K8.out.get 0 rfl)) Tryd.underlying25 rfl Yao ?_; clear tkl)
   |(have _t := tks; clear _t; refine Yag 25 rfl ?_; refine Ybn F d ma ((r.setT t.toNat V).setT t1.toNat Z) rfl _ _ rfl rfl rfl ⟨K8.out.get 2 rfl, HO8.out⟩ ?_; intro w9 hu9 hr9; have K9 := Yh_ (And.intro hr9 (And.intro K8.out.u hu9)); clear hu9 hr9 tks))
  go_end0
  exact ⟨rfl, by rw [HR.out]; exact K9.out.1, K9.out.2.1.also K9.out.2.2 (fun x hx => .inl hx)⟩
 ·have g16 : (n == 16) = false := by simp; omega
  have g17 : (n == 17) = true := by simp; omega
  clear gq
  go_upto_region 11 with fail
  go_still_tail 9, (by kernel_rfl)
  change wpList _ _ _ _ _ w8.drew
  have K7 := Yh_ (K6.out.quiet (Upd.refl [] w8).drew)
  clear K6 cm
  generalize w8.drew = w9 at *
  have cm := Ya (K7.out.get 1 rfl)
  have cd : ∀ o, w9.cell? ⟨d, o, none⟩ = (Ye ma (r.setT t.toNat V))[o]? := Ya (K7.out.get 2 rfl)
  have fd := Yc (K7.out.get 2 rfl)
  have rt := Yah ma (r.setT t.toNat V) t1.toNat (by omega)
  go_upto_region 12 with fail
  have hk := K7.out.cell 2 rfl (35 + t1.toNat) (.int .u32 Z)
  dsimp only [List.set] at hk
  rw [Ybl ma (r.setT t.toNat V) t1.toNat Z (by omega)] at hk
  refine Yy (B := fun w1 => Hz [d] w [(M1, .cells (Fl.cells F) 25 (0, 0)), (M0, .cells #[.int .i64 k, .int .i64 t, .int .i64 a', .int .i64 b', .int .i64 c, .int .u32 n, .bool true] 35 (0, 0)), (d, .cells (Ye ma ((r.setT t.toNat V).setT t1.toNat Z)) 54 (0, 0))] w1) hk ?_
  intro wA hk1
  have K8 := Yh_ hk1
  have HO8 := Yh_ (Rn.setT_ok HO6.out t1.toNat HA.out.2.2.2.2)
  clear hk hk1 K7 cm cd fd rt
  have cm := Ya (K8.out.get 1 rfl)
  have tkl : True := trivial
  have tks : True := trivial
  go_wp2_with (first
   |(have _t := tkl; clear _t; refine Yaa 25 rfl ?_; refine Yl rfl 25 _ rfl M1 0 rfl F.cells _ (Ybk (K8.out.get 0 rfl)) Tryd.underlying25 rfl Yao ?_; clear tkl)
   |(have _t := tks; clear _t; refine Yag 25 rfl ?_; refine Ybn F d ma ((r.setT t.toNat V).setT t1.toNat Z) rfl _ _ rfl rfl rfl ⟨K8.out.get 2 rfl, HO8.out⟩ ?_; intro w9 hu9 hr9; have K9 := Yh_ (And.intro hr9 (And.intro K8.out.u hu9)); clear hu9 hr9 tks))
  go_end0
  exact ⟨rfl, by rw [HR.out]; exact K9.out.1, K9.out.2.1.also K9.out.2.2 (fun x hx => .inl hx)⟩
end Go.Proofs.YtjkolegknpflfaaDoor
