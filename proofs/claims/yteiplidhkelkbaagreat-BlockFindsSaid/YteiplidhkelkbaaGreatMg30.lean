/-
  Parts of the proof (their names shortened by a program). No condition.
-/
import Derived.Test.YteiplidhkelkbaaGreatMg01
import Derived.Test.YteiplidhkelkbaaGreatMg28
import Derived.Test.YteiplidhkelkbaaGreatMg29
import Derived.Test.YteiplidhkelkbaaGreatMg15
import Derived.Test.YteiplidhkelkbaaGreatMg06
import Derived.Test.YteiplidhkelkbaaGreatMg03
import Derived.ChangeKeysEq
import Derived.Lib.SliceRun
import Derived.Laws.IdiomStrings
import Derived.Outline
import Derived.Laws.BytesArg
namespace Go.Proofs.YteiplidhkelkbaaGreat
open Go Go.RowKit
set_option linter.unusedVariables false
set_option linter.unusedSimpArgs false
set_option maxRecDepth 100000
set_option maxHeartbeats 16000000
section
theorem Yge {ops : Array Oper} {rest : List Oper} {o : Oper} {a : Act} {w : World} {Q : Exit → Act → World → Prop} (hgd : o.guard = none) (i : Ins) (x : Operand) (ho : o.op = .buildSlice 30 1 #[(0, x)]) (hx : a.eval x = .agg i.cells)
  (h : wpList Tryz.prog ops Q rest (a.put o.dst (.slice (some ⟨w.heap.size, 0, none⟩) 1 1)) (w.alloc (.cells i.cells 42))) : wpList Tryz.prog ops Q (o :: rest) a w :=
 wpList_plain hgd fun _ hK => Yil i x ho hx (hK _ _ h)
structure RnS (w : World) (v : Value) (row : List Ins) (w1 : World) : Prop where
 o : w1.ownsRow (w.heap.size + 1) 42 16 v row.length (Ybm row)
 z : w1.heap[w.heap.size]? = some (.cells #[.int .i64 0, .int .u32 0, .int .u32 0, .int .i64 0] 32 (0, 0))
 u : Upd [] w w1
theorem RnS.step {w w1 w2 : World} {v : Value} {row : List Ins} (h : RnS w v row w1) (u : Upd [] w1 w2) : RnS w v row w2 := by
 refine ⟨h.o.kept (row := none) ⟨u.os, u.tape, u.output, u.size, fun k hk _ => u.block k hk (by simp)⟩ ?_, u.get h.z (by simp), h.u.also u (by simp)⟩
 cases v.ownBlock <;> simp
theorem RnS.form {w w1 : World} {v : Value} {row : List Ins} (h : RnS w v row w1) : ∃ b c, v = .slice b row.length c := by
 rcases h.o.2 with ⟨h1, h2⟩ | ⟨g, cap, cur, h1, _⟩
 ·exact ⟨none, 0, by rw [h1, h2]⟩
 ·exact ⟨_, _, h1⟩
theorem RnS.isl {w w1 : World} {v : Value} {row : List Ins} (h : RnS w v row w1) : ∃ g, w.heap.size < g ∧ ISl w1 v row g := by
 rcases h.o.2 with ⟨h1, h2⟩ | _
 ·exact ⟨w.heap.size + 1, by omega, .inl ⟨h1, List.eq_nil_of_length_eq_zero h2⟩⟩
 ·cases row with
  |nil =>
   rcases h.o.2 with ⟨h1, h2⟩ | ⟨g, cap, cur, h1, hg, hb, _⟩
   ·exact ⟨w.heap.size + 1, by omega, .inl ⟨h1, rfl⟩⟩
   ·exact ⟨g, by omega, .inr ⟨0, cap, cur, (0, 0), h1, hb, fun k u hk => by simp [Ybm] at hk⟩⟩
  |cons i l =>
   obtain ⟨g, h1, h2⟩ := Ylz rfl (by simp) h.o
   exact ⟨g, by omega, h2⟩
structure RnF (w : World) (v : Value) (row : List Ins) (J : Ins) (F : Flt) (ib : Nat) (w1 : World) : Prop where
 s : RnS w v row w1
 i : w1.heap[ib]? = some (.cells J.cells 42 (0, 0))
 f : w1.heap[ib + 1]? = some (.cells #[.int .i64 F.k, .int .u32 F.pc, .int .u32 F.a, .int .i64 F.wt] 32 (0, 0))
 q : ∀ z, v.ownBlock = some z → z ≠ ib
 l : w.heap.size < ib
theorem RnF.of {w w1 w2 : World} {v : Value} {row : List Ins} {J : Ins} (F : Flt) (h : RnS w v row w1) (h2 : w2.heap[w1.heap.size]? = some (.cells J.cells 42 (0, 0)) ∧ w2.heap[w1.heap.size + 1]? = some (.cells #[.int .i64 0, .int .u32 0, .int .u32 0, .int .i64 0] 32 (0, 0)) ∧ Upd [] w1 w2) :
  RnF w v row J F w1.heap.size ((((w2.setCell ⟨w1.heap.size + 1, 0, none⟩ (.int .i64 F.k)).setCell ⟨w1.heap.size + 1, 1, none⟩ (.int .u32 F.pc)).setCell ⟨w1.heap.size + 1, 2, none⟩ (.int .u32 F.a)).setCell ⟨w1.heap.size + 1, 3, none⟩ (.int .i64 F.wt)) := by
 have u4 := Ya0 (S := [w1.heap.size + 1]) (b := w1.heap.size + 1) (Upd.refl _ w2) (.inl (by simp)) (.int .i64 F.k) (.int .u32 F.pc) (.int .u32 F.a) (.int .i64 F.wt)
 have u5 := Ya0 (S := []) (b := w1.heap.size + 1) h2.2.2 (.inr (by omega)) (.int .i64 F.k) (.int .u32 F.pc) (.int .u32 F.a) (.int .i64 F.wt)
 exact ⟨h.step u5, u4.get h2.1 (by simp), Ycf h2.2.1 _ _ _ _, fun z hz e => by have := (h.o.lt z hz).2; omega, Yt h.z⟩
theorem RnF.grow {w w3 w4 : World} {v v' : Value} {row : List Ins} {J : Ins} {F : Flt} {ib m : Nat} {xs : List Value} (h : RnF w v row J F ib w3) (hm : m = (row ++ [J]).length) (hx : xs = Ybm (row ++ [J])) (ho : w4.ownsRow (w.heap.size + 1) 42 16 v' m xs) (hg : (w3.alloc (.cells J.cells 42)).grownBy w4 v.ownBlock) :
  RnS w v' (row ++ [J]) w4 ∧ w4.heap[ib]? = some (.cells J.cells 42 (0, 0)) := by
 subst hm hx
 have ua := (Upd.refl [] w3).alloc (.cells J.cells 42)
 have uu : Upd v.ownBlock.toList w3 w4 := ua.trans (Upd.of_grown hg) (by simp) (fun z hz => .inl hz)
 have hne : ∀ z, z ∈ v.ownBlock.toList → w.heap.size + 1 ≤ z := fun z hz => (h.s.o.lt z (by simpa using hz)).1
 exact ⟨⟨ho, uu.get h.s.z (fun hb => by have := hne _ hb; omega), h.s.u.new uu (fun z hz => by have := hne z hz; omega)⟩, uu.get h.i (fun hb => h.q ib (by simpa using hb) rfl)⟩
theorem RnF.base {w w3 : World} {v : Value} {row : List Ins} {J : Ins} {F : Flt} {ib : Nat} (h : RnF w v row J F ib w3) (O : Obj) : w.heap.size + 1 ≤ (w3.alloc O).heap.size := by
 have := h.l
 have := Yt h.i
 simp
 omega
theorem Yld {w w1 : World} {row : List Ins} {v : Value} {a b c d : Value} (h : RnS w v row w1) :
  ∃ v' g, v = v' ∧ ISl ((((w1.setCell ⟨w.heap.size, 0, none⟩ a).setCell ⟨w.heap.size, 1, none⟩ b).setCell ⟨w.heap.size, 2, none⟩ c).setCell ⟨w.heap.size, 3, none⟩ d) v' row g ∧ w.heap.size ≤ g ∧ Upd [] w ((((w1.setCell ⟨w.heap.size, 0, none⟩ a).setCell ⟨w.heap.size, 1, none⟩ b).setCell ⟨w.heap.size, 2, none⟩ c).setCell ⟨w.heap.size, 3, none⟩ d) := by
 obtain ⟨g, hg, hI⟩ := h.isl
 exact ⟨v, g, rfl, hI.keep (Ya0 (S := [w.heap.size]) (Upd.refl _ w1) (.inl (by simp)) _ _ _ _) (by simp; omega), by omega, Ya0 h.u (.inr (Nat.le_refl _)) _ _ _ _⟩
section
variable {M : Mem} {pc x : Int} {n : Nat} {row : List Ins} {J : Ins} {F : Flt}
theorem rf_no (hk : (Yai M x).k = false) (hF : (Yai M x).f = F) : Ydn M pc (n + 1) row x = ⟨row, F, decide (0 < row.length)⟩ := by
 rw [Ydn, if_neg (by rw [hk]; simp), hF]
theorem rf_away (hk : (Yai M x).k = true) (hJ : (Yai M x).i = J) (h0 : 0 < row.length) (hp : (x + J.len - 1) % 4294967296 / 256 ≠ pc / 256) : Ydn M pc (n + 1) row x = ⟨row, Flt.zero, true⟩ := by
 rw [Ydn, if_pos hk, hJ, if_pos ⟨h0, hp⟩]
theorem Yr4 (hk : (Yai M x).k = true) (hJ : (Yai M x).i = J) (h0 : ¬ (0 < row.length ∧ (x + J.len - 1) % 4294967296 / 256 ≠ pc / 256)) (hq : Yen J = true ∨ (x + J.len - 1) % 4294967296 / 256 ≠ pc / 256) : Ydn M pc (n + 1) row x = ⟨row ++ [J], Flt.zero, true⟩ := by
 rw [Ydn, if_pos hk, hJ, if_neg h0, if_pos hq]
theorem rf_on (hk : (Yai M x).k = true) (hJ : (Yai M x).i = J) (hp : (x + J.len - 1) % 4294967296 / 256 = pc / 256) (he : Yen J = false) : Ydn M pc (n + 1) row x = Ydn M pc n (row ++ [J]) ((x + J.len) % 4294967296) := by
 rw [Ydn, if_pos hk, hJ, if_neg (by intro h; exact h.2 hp), if_neg (by rw [he]; intro h; exact h.elim (by simp) (fun h => h hp))]
end
theorem Ymb (m : Nat) : (0 < m ∧ decide (0 < m) = true) ∨ (¬ 0 < m ∧ decide (0 < m) = false) := by
 by_cases h : 0 < m
 ·exact .inl ⟨h, by simpa using h⟩
 ·exact .inr ⟨h, by simpa using h⟩
structure RnD (w : World) (v : Value) (row : List Ins) (F : Flt) (ib : Nat) (d : Nat → Bool) (w1 : World) : Prop where
 i : ∃ g, w.heap.size < g ∧ ISl w1 v row g
 f : w1.heap[ib + 1]? = some (.cells #[.int .i64 F.k, .int .u32 F.pc, .int .u32 F.a, .int .i64 F.wt] 32 (0, 0))
 z : ∃ G : Flt, w1.heap[w.heap.size]? = some (.cells #[.int .i64 G.k, .int .u32 G.pc, .int .u32 G.a, .int .i64 G.wt] 32 (0, 0)) ∧ (d 6 = true → G = F)
 u : Upd [] w w1
 l : w.heap.size < ib
theorem RnD.start {w w1 : World} {v : Value} {row : List Ins} {J : Ins} {F : Flt} {ib : Nat} (h : RnF w v row J F ib w1) : RnD w v row F ib (fun _ => false) w1.drew := by
 have u := (Upd.refl [] w1).drew
 obtain ⟨g, h1, h2⟩ := h.s.isl
 exact ⟨⟨g, h1, h2.keep u (by simp)⟩, u.get h.f (by simp), ⟨Flt.zero, u.get h.s.z (by simp), by simp⟩, h.s.u.drew, h.l⟩
theorem RnD.same {w w1 : World} {v : Value} {row : List Ins} {F : Flt} {ib : Nat} {d : Nat → Bool} (h : RnD w v row F ib d w1) (i : Nat) (hi : i ≠ 6) : RnD w v row F ib (Ybq d i) w1 := by
 obtain ⟨G, h1, h2⟩ := h.z
 refine ⟨h.i, h.f, ⟨G, h1, fun hd => h2 ?_⟩, h.u, h.l⟩
 rw [Ybq, if_neg (by omega)] at hd
 exact hd
theorem RnD.put {w w1 : World} {v : Value} {row : List Ins} {F : Flt} {ib : Nat} {d e : Nat → Bool} (h : RnD w v row F ib d w1) :
  RnD w v row F ib e ((((w1.setCell ⟨w.heap.size, 0, none⟩ (.int .i64 F.k)).setCell ⟨w.heap.size, 1, none⟩ (.int .u32 F.pc)).setCell ⟨w.heap.size, 2, none⟩ (.int .u32 F.a)).setCell ⟨w.heap.size, 3, none⟩ (.int .i64 F.wt)) := by
 have u4 := Ya0 (S := [w.heap.size]) (b := w.heap.size) (Upd.refl _ w1) (.inl (by simp)) (.int .i64 F.k) (.int .u32 F.pc) (.int .u32 F.a) (.int .i64 F.wt)
 obtain ⟨G, h1, _⟩ := h.z
 obtain ⟨g, hg, hI⟩ := h.i
 exact ⟨⟨g, hg, hI.keep u4 (by simp; omega)⟩, u4.get h.f (by have := h.l; simp; omega), ⟨F, Ycf h1 _ _ _ _, fun _ => rfl⟩, h.u.also u4 (by simp), h.l⟩
theorem Ymw (M : Mem) (a : Nat) (pc : Int) (w : World) (hM : Ybg w a M) (h0 : 0 ≤ pc ∧ pc < 4294967296) :
  Calls Tryz.prog 9 #[.pointer (some ⟨a, 0, none⟩), .int .u32 pc] w fun e w' => ∃ v g, e = .returned (.tuple #[v, (Ydt M pc).f.val, .bool (Ydt M pc).k]) ∧ ISl w' v (Ydt M pc).l g ∧ w.heap.size ≤ g ∧ Upd [] w w' := by
 have HM := Yh_ (And.intro hM h0)
 obtain ⟨i0, B0, hi0⟩ := Yoh
 have HI0 := Yh_ hi0
 clear hi0
 have HS := Yh_ (show RnS w (.slice none 0 0) [] (w.alloc Yfj) from ⟨World.ownsRow_nil _ _ _ _, heap_alloc_new _ _, (Upd.refl [] w).alloc _⟩)
 have epc : pc.tdiv 256 % 4294967296 = pc / 256 := by rw [Int.tdiv_eq_ediv_of_nonneg h0.1]; omega
 clear hM h0
 go_enter Tryz.func9, Tryz.ntmps9
 go_wp2_with fail
 go_loopw [7, 8] (fun v t wr => ∃ (row : List Ins) (x : Int), t = .int .u32 x ∧ (0 ≤ x ∧ x < 4294967296) ∧ row.length ≤ 8 ∧ RnS w v row wr ∧ Ydt M pc = Ydn M pc (8 - row.length) row x) (fun v _ _ => 8 - (match v with | .slice _ n _ => n | _ => 0))
 case atStart => exact ⟨[], pc, rfl, HM.out.2, by simp, HS.out, rfl⟩
 case round =>
  obtain ⟨row, x, rfl, hx, hr8, hS, hfin⟩ := hrel
  obtain ⟨b, c, rfl⟩ := hS.form
  obtain ⟨m, hm⟩ : ∃ m, row.length = m := ⟨_, rfl⟩
  rw [hm] at hr8 hfin hS
  have HS := Yh_ (And.intro hS (And.intro hx hm))
  have HX := Yh_ hfin
  rw [hm]
  clear hS hx hm hfin
  have tF : True := trivial
  by_cases h8 : m < 8
  ·have d8 : decide ((m : Int) < 8) = true := by simp; omega
   have h9 : 8 - m = (7 - m) + 1 := by omega
   rw [h9] at HX
   obtain ⟨J, hJ⟩ : ∃ J, (Yai M x).i = J := ⟨_, rfl⟩
   obtain ⟨jk, jp, ja, jw, hJF⟩ := Yhx M x
   have KB := Yh_ (show (m + 1) * B0 ≤ 140737488355328 by have := HI0.out.2.2.2.2; have : (m + 1) * B0 ≤ 8 * 1000 := Nat.mul_le_mul (by omega) this; omega)
   have KM := Yh_ (show m + 1 ≤ maxLen by unfold maxLen; omega)
   cases hk : (Yai M x).k
   ·have HJ := Yh_ (And.intro hJ (And.intro hJF hk))
    have HV := Yh_ (show Ydt M pc = ⟨row, ⟨jk, jp, ja, jw⟩, decide (0 < m)⟩ by rw [HX.out, rf_no hk hJF, HS.out.2.2])
    clear hJ hJF hk h9
    go_wp2_with (first | (have _t := tF; clear _t; go_at_call 16; refine (Yhf M a x _ (HM.out.1.keep HS.out.1.u (by simp)) HS.out.2.1).mono ?_; rintro e wF ⟨rfl, hu⟩; rw [HJ.out.1, HJ.out.2.1, HJ.out.2.2]; unfold Flt.val; have HS2 := Yh_ (And.intro (HS.out.1.step hu) HS.out.2); clear hu tF HS; have HS := HS2; clear HS2; have tC : True := trivial) | (have _t := tC; clear _t; refine Ye 42 rfl ?_; refine Yb J wF.heap.size rfl _ _ rfl rfl rfl (heap_alloc2_old wF (.cells Ins.zero.cells 42) Yfj) rfl ?_; intro wG hw; have h2 := Yfe hw; have hG := RnF.of ⟨jk, jp, ja, jw⟩ HS.out.1 h2; dsimp only at hG; have c2 := Ya h2.2.1; have f2 := Yh h2.2.1; have c15 := Ya hG.i 15; rw [show (J.cells)[15]? = some (.int .i64 J.len) from rfl] at c15; have cz := Ya hG.s.z; have fz := Yh hG.s.z; have HG := Yh_ hG; clear h2 hw tC hG))
    have h3 := HG.out
    clear HG c2 f2 c15 cz fz
    generalize ((((wG.setCell ⟨wF.heap.size + 1, 0, none⟩ (.int .i64 jk)).setCell ⟨wF.heap.size + 1, 1, none⟩ (.int .u32 jp)).setCell ⟨wF.heap.size + 1, 2, none⟩ (.int .u32 ja)).setCell ⟨wF.heap.size + 1, 3, none⟩ (.int .i64 jw)) = w3 at h3 ⊢
    have H3 := Yh_ h3
    clear h3
    refine Yar 8 (RnD w (.slice b m c) row ⟨jk, jp, ja, jw⟩ wF.heap.size) (fun _ _ => False) (by kernel_rfl) (by decide +kernel) (RnD.start H3.out) (fun _ _ _ h => h.elim) ?_
    simp only [List.take_succ_cons, List.take_zero, List.drop_succ_cons, List.drop_zero]
    apply Yf rfl rfl
    ·intro d K hd hK w1 hB1
     have HB := Yh_ hB1
     clear hB1
     go_wp2_with fail
     first
     |exact hK _ (HB.out.same _ (by decide))
     |exact HB.out.same _ (by decide)
    ·exact ⟨_, rfl⟩
    apply Yf rfl rfl
    ·intro d K hd hK w1 hB1
     have cf := Ya hB1.f
     have HB := Yh_ hB1
     clear hB1
     go_wp2_with fail
     first
     |exact hK _ (HB.out.same _ (by decide))
     |exact HB.out.same _ (by decide)
    ·exact ⟨_, rfl⟩
    apply Yf rfl rfl
    ·intro d K hd hK w1 hB1
     have HB := Yh_ hB1
     clear hB1
     go_wp2_with fail
     first
     |exact hK _ (HB.out.same _ (by decide))
     |exact HB.out.same _ (by decide)
    ·exact ⟨_, rfl⟩
    apply Yf rfl rfl
    ·intro d K hd hK w1 hB1
     have HB := Yh_ hB1
     clear hB1
     go_wp2_with fail
     first
     |exact hK _ (HB.out.same _ (by decide))
     |exact HB.out.same _ (by decide)
    ·exact ⟨_, rfl⟩
    apply Yf rfl rfl
    ·intro d K hd hK w1 hB1
     have HB := Yh_ hB1
     clear hB1
     go_wp2_with fail
     first
     |exact hK _ (HB.out.same _ (by decide))
     |exact HB.out.same _ (by decide)
    ·exact ⟨_, rfl⟩
    apply Yf rfl rfl
    ·intro d K hd hK w1 hB1
     have HB := Yh_ hB1
     clear hB1
     go_wp2_with fail
     first
     |exact hK _ (HB.out.same _ (by decide))
     |exact HB.out.same _ (by decide)
    ·exact ⟨_, rfl⟩
    apply Yf rfl rfl
    ·intro d K hd hK w1 hB1
     obtain ⟨G, hG, _⟩ := hB1.z
     have cz := Ya hG
     have fz := Yh hG
     have HB := Yh_ hB1
     clear hB1 hG
     go_wp2_with fail
     first
     |exact hK _ HB.out.put
     |exact HB.out.put
    ·exact ⟨undef, rfl⟩
    apply Yf rfl rfl
    ·intro d K hd hK w1 hB1
     have HB := Yh_ hB1
     clear hB1
     go_wp2_with fail
     first
     |exact hK _ (HB.out.same _ (by decide))
     |exact HB.out.same _ (by decide)
    ·exact ⟨_, rfl⟩
    refine Yam (fun _ w5 d hall hB1 => ?_)
    obtain ⟨G, hz, hG⟩ := hB1.z
    obtain rfl := hG (hall 6 (by decide))
    have HB := Yh_ (And.intro hB1 hz)
    clear hB1 hz hG
    go_wp2_with fail
    obtain ⟨g, hg, hI⟩ := HB.out.1.i
    exact bodyPost_ret (Yas rfl (Yj 4 rfl) (Yb3 5 w.heap.size ⟨jk, jp, ja, jw⟩ rfl HB.out.2) (Yj 6 rfl)) rfl (by rw [HV.out]; first | exact ⟨.slice b m c, rfl, g, hI, by omega, HB.out.1.u⟩ | exact ⟨.slice b m c, g, rfl, hI, by omega, HB.out.1.u⟩)
   ·have hjl := Yj2 hk
    rw [hJ] at hjl
    have q1 : J.len % 4294967296 = J.len := by omega
    have HJ := Yh_ (And.intro hJ (And.intro hJF hk))
    obtain ⟨y, hy⟩ : ∃ y, (x + J.len - 1) % 4294967296 = y := ⟨_, rfl⟩
    have hyr : 0 ≤ y ∧ y < 4294967296 := by omega
    have ey : y.tdiv 256 % 4294967296 = y / 256 := by rw [Int.tdiv_eq_ediv_of_nonneg hyr.1]; omega
    have HY := Yh_ hy
    have HH8 := Yh_ h8
    clear hJ hJF hk h9 hyr hjl h8 hr8
    by_cases hp : y / 256 = pc / 256
    ·have HP := Yh_ hp
     cases he : Yen J
     ·have HV := Yh_ (show Ydt M pc = Ydn M pc (7 - m) (row ++ [J]) ((x + J.len) % 4294967296) by rw [HX.out, rf_on HJ.out.2.2 HJ.out.1 (by rw [HY.out]; exact HP.out) he])
      rcases Ymb m with ⟨h0, d0⟩ | ⟨h0, d0⟩
      all_goals
       have H0 := Yh_ h0
       clear h0
       go_wp2_with (first | (have _t := tF; clear _t; go_at_call 16; refine (Yhf M a x _ (HM.out.1.keep HS.out.1.u (by simp)) HS.out.2.1).mono ?_; rintro e wF ⟨rfl, hu⟩; rw [HJ.out.1, HJ.out.2.1, HJ.out.2.2]; unfold Flt.val; have HS2 := Yh_ (And.intro (HS.out.1.step hu) HS.out.2); clear hu tF HS; have HS := HS2; clear HS2; have tC : True := trivial) | (have _t := tC; clear _t; refine Ye 42 rfl ?_; refine Yb J wF.heap.size rfl _ _ rfl rfl rfl (heap_alloc2_old wF (.cells Ins.zero.cells 42) Yfj) rfl ?_; intro wG hw; have h2 := Yfe hw; have hG := RnF.of ⟨jk, jp, ja, jw⟩ HS.out.1 h2; dsimp only at hG; have c2 := Ya h2.2.1; have f2 := Yh h2.2.1; have c15 := Ya hG.i 15; rw [show (J.cells)[15]? = some (.int .i64 J.len) from rfl] at c15; have cz := Ya hG.s.z; have fz := Yh hG.s.z; have HG := Yh_ hG; clear h2 hw tC hG) | (have _t := HG; clear _t; refine Ybr 42 rfl ?_; refine Yaq J wF.heap.size rfl _ rfl rfl HG.out.i ?_) | (have _t := HG; clear _t; refine Yge rfl J _ rfl rfl ?_) | (have _t := HG; clear _t; at_builtin; refine wpList_append_own _ rfl _ _ 30 rfl (w.heap.size + 1) 42 i0 (.agg Ins.zero.cells) 16 B0 Tryz.underlying30 HI0.out.1 HI0.out.2.1 HI0.out.2.2.1 HI0.out.2.2.2.1 rfl (by decide) (.slice b m c) m (Ybm row) rfl (by have h := (HG.out.s.step ((Upd.refl [] _).alloc (.cells J.cells 42))).o; rw [HS.out.2.2] at h; exact h) ⟨_, 0, none⟩ 1 1 J.cells.toList rfl rfl (Yis (heap_alloc_new _ _)) (fun v hv => Ydm (l := [J]) v (by simpa [Ybm] using hv)) KM.out KB.out (HG.out.base _) ?_; intro v' w6 ho hg _; have h6 := HG.out.grow (by rw [List.length_append, HS.out.2.2]; rfl) (by rw [Yhw]; simp [Ybm]) ho hg; have c15b := Ya h6.2 15; rw [show (J.cells)[15]? = some (.int .i64 J.len) from rfl] at c15b; have H6 := Yh_ h6; clear ho hg h6 HG c2 f2 c15 cz fz) | (have _t := H6; clear _t; refine Ybr 42 rfl ?_; refine Yaq J wF.heap.size rfl _ rfl rfl H6.out.2 ?_) | (have _t := H6; clear _t; go_at_call 15; refine (Ykx J _).mono ?_; rintro e wE ⟨rfl, hu⟩; rw [he]; have H7 := Yh_ (And.intro (H6.out.1.step hu) (hu.get H6.out.2 (by simp))); clear hu H6 c15b; have c15 := Ya H7.out.2 15; rw [show (J.cells)[15]? = some (.int .i64 J.len) from rfl] at c15; have cz := Ya H7.out.1.z; have fz := Yh H7.out.1.z))
       have hl : (row ++ [J]).length = m + 1 := by rw [List.length_append, HS.out.2.2]; rfl
       obtain ⟨b2, c2, rfl⟩ := H7.out.1.form
       have h8 := HH8.out
       exact ⟨⟨row ++ [J], (x + J.len) % 4294967296, rfl, by omega, by omega, H7.out.1, by rw [HV.out, hl, show 8 - (m + 1) = 7 - m from by omega]⟩, by show 8 - (row ++ [J]).length < 8 - m; omega⟩
     ·have HV := Yh_ (show Ydt M pc = ⟨row ++ [J], Flt.zero, true⟩ by rw [HX.out, Yr4 HJ.out.2.2 HJ.out.1 (by rw [HY.out]; intro h; exact h.2 HP.out) (.inl he)])
      rcases Ymb m with ⟨h0, d0⟩ | ⟨h0, d0⟩
      all_goals
       have H0 := Yh_ h0
       clear h0
       go_wp2_with (first | (have _t := tF; clear _t; go_at_call 16; refine (Yhf M a x _ (HM.out.1.keep HS.out.1.u (by simp)) HS.out.2.1).mono ?_; rintro e wF ⟨rfl, hu⟩; rw [HJ.out.1, HJ.out.2.1, HJ.out.2.2]; unfold Flt.val; have HS2 := Yh_ (And.intro (HS.out.1.step hu) HS.out.2); clear hu tF HS; have HS := HS2; clear HS2; have tC : True := trivial) | (have _t := tC; clear _t; refine Ye 42 rfl ?_; refine Yb J wF.heap.size rfl _ _ rfl rfl rfl (heap_alloc2_old wF (.cells Ins.zero.cells 42) Yfj) rfl ?_; intro wG hw; have h2 := Yfe hw; have hG := RnF.of ⟨jk, jp, ja, jw⟩ HS.out.1 h2; dsimp only at hG; have c2 := Ya h2.2.1; have f2 := Yh h2.2.1; have c15 := Ya hG.i 15; rw [show (J.cells)[15]? = some (.int .i64 J.len) from rfl] at c15; have cz := Ya hG.s.z; have fz := Yh hG.s.z; have HG := Yh_ hG; clear h2 hw tC hG) | (have _t := HG; clear _t; refine Ybr 42 rfl ?_; refine Yaq J wF.heap.size rfl _ rfl rfl HG.out.i ?_) | (have _t := HG; clear _t; refine Yge rfl J _ rfl rfl ?_) | (have _t := HG; clear _t; at_builtin; refine wpList_append_own _ rfl _ _ 30 rfl (w.heap.size + 1) 42 i0 (.agg Ins.zero.cells) 16 B0 Tryz.underlying30 HI0.out.1 HI0.out.2.1 HI0.out.2.2.1 HI0.out.2.2.2.1 rfl (by decide) (.slice b m c) m (Ybm row) rfl (by have h := (HG.out.s.step ((Upd.refl [] _).alloc (.cells J.cells 42))).o; rw [HS.out.2.2] at h; exact h) ⟨_, 0, none⟩ 1 1 J.cells.toList rfl rfl (Yis (heap_alloc_new _ _)) (fun v hv => Ydm (l := [J]) v (by simpa [Ybm] using hv)) KM.out KB.out (HG.out.base _) ?_; intro v' w6 ho hg _; have h6 := HG.out.grow (by rw [List.length_append, HS.out.2.2]; rfl) (by rw [Yhw]; simp [Ybm]) ho hg; have c15b := Ya h6.2 15; rw [show (J.cells)[15]? = some (.int .i64 J.len) from rfl] at c15b; have H6 := Yh_ h6; clear ho hg h6 HG c2 f2 c15 cz fz) | (have _t := H6; clear _t; refine Ybr 42 rfl ?_; refine Yaq J wF.heap.size rfl _ rfl rfl H6.out.2 ?_) | (have _t := H6; clear _t; go_at_call 15; refine (Ykx J _).mono ?_; rintro e wE ⟨rfl, hu⟩; rw [he]; have H7 := Yh_ (And.intro (H6.out.1.step hu) (hu.get H6.out.2 (by simp))); clear hu H6 c15b; have c15 := Ya H7.out.2 15; rw [show (J.cells)[15]? = some (.int .i64 J.len) from rfl] at c15; have cz := Ya H7.out.1.z; have fz := Yh H7.out.1.z))
       exact bodyPost_ret (Yas rfl (Yj 4 rfl) (Yb3 5 w.heap.size Flt.zero rfl (Ycf H7.out.1.z _ _ _ _)) (Yj 6 rfl)) rfl (by rw [HV.out]; obtain ⟨v, g, rfl, hh⟩ := Yld (a := .int .i64 0) (b := .int .u32 0) (c := .int .u32 0) (d := .int .i64 0) H7.out.1; exact ⟨_, g, rfl, hh⟩)
    ·have HP := Yh_ hp
     rcases Ymb m with ⟨h0, d0⟩ | ⟨h0, d0⟩
     ·have HV := Yh_ (show Ydt M pc = ⟨row, Flt.zero, true⟩ by rw [HX.out, rf_away HJ.out.2.2 HJ.out.1 (by rw [HS.out.2.2]; exact h0) (by rw [HY.out]; exact HP.out)])
      clear h0
      go_wp2_with (first | (have _t := tF; clear _t; go_at_call 16; refine (Yhf M a x _ (HM.out.1.keep HS.out.1.u (by simp)) HS.out.2.1).mono ?_; rintro e wF ⟨rfl, hu⟩; rw [HJ.out.1, HJ.out.2.1, HJ.out.2.2]; unfold Flt.val; have HS2 := Yh_ (And.intro (HS.out.1.step hu) HS.out.2); clear hu tF HS; have HS := HS2; clear HS2; have tC : True := trivial) | (have _t := tC; clear _t; refine Ye 42 rfl ?_; refine Yb J wF.heap.size rfl _ _ rfl rfl rfl (heap_alloc2_old wF (.cells Ins.zero.cells 42) Yfj) rfl ?_; intro wG hw; have h2 := Yfe hw; have hG := RnF.of ⟨jk, jp, ja, jw⟩ HS.out.1 h2; dsimp only at hG; have c2 := Ya h2.2.1; have f2 := Yh h2.2.1; have c15 := Ya hG.i 15; rw [show (J.cells)[15]? = some (.int .i64 J.len) from rfl] at c15; have cz := Ya hG.s.z; have fz := Yh hG.s.z; have HG := Yh_ hG; clear h2 hw tC hG))
      exact bodyPost_ret (Yas rfl (Yj 4 rfl) (Yb3 5 w.heap.size Flt.zero rfl (Ycf HG.out.s.z _ _ _ _)) (Yj 6 rfl)) rfl (by rw [HV.out]; obtain ⟨v, g, rfl, hh⟩ := Yld (a := .int .i64 0) (b := .int .u32 0) (c := .int .u32 0) (d := .int .i64 0) HG.out.s; exact ⟨_, g, rfl, hh⟩)
     ·have HV := Yh_ (show Ydt M pc = ⟨row ++ [J], Flt.zero, true⟩ by rw [HX.out, Yr4 HJ.out.2.2 HJ.out.1 (by rw [HS.out.2.2]; intro h; exact h0 h.1) (.inr (by rw [HY.out]; exact HP.out))])
      clear h0
      cases he : Yen J
      all_goals
       go_wp2_with (first | (have _t := tF; clear _t; go_at_call 16; refine (Yhf M a x _ (HM.out.1.keep HS.out.1.u (by simp)) HS.out.2.1).mono ?_; rintro e wF ⟨rfl, hu⟩; rw [HJ.out.1, HJ.out.2.1, HJ.out.2.2]; unfold Flt.val; have HS2 := Yh_ (And.intro (HS.out.1.step hu) HS.out.2); clear hu tF HS; have HS := HS2; clear HS2; have tC : True := trivial) | (have _t := tC; clear _t; refine Ye 42 rfl ?_; refine Yb J wF.heap.size rfl _ _ rfl rfl rfl (heap_alloc2_old wF (.cells Ins.zero.cells 42) Yfj) rfl ?_; intro wG hw; have h2 := Yfe hw; have hG := RnF.of ⟨jk, jp, ja, jw⟩ HS.out.1 h2; dsimp only at hG; have c2 := Ya h2.2.1; have f2 := Yh h2.2.1; have c15 := Ya hG.i 15; rw [show (J.cells)[15]? = some (.int .i64 J.len) from rfl] at c15; have cz := Ya hG.s.z; have fz := Yh hG.s.z; have HG := Yh_ hG; clear h2 hw tC hG) | (have _t := HG; clear _t; refine Ybr 42 rfl ?_; refine Yaq J wF.heap.size rfl _ rfl rfl HG.out.i ?_) | (have _t := HG; clear _t; refine Yge rfl J _ rfl rfl ?_) | (have _t := HG; clear _t; at_builtin; refine wpList_append_own _ rfl _ _ 30 rfl (w.heap.size + 1) 42 i0 (.agg Ins.zero.cells) 16 B0 Tryz.underlying30 HI0.out.1 HI0.out.2.1 HI0.out.2.2.1 HI0.out.2.2.2.1 rfl (by decide) (.slice b m c) m (Ybm row) rfl (by have h := (HG.out.s.step ((Upd.refl [] _).alloc (.cells J.cells 42))).o; rw [HS.out.2.2] at h; exact h) ⟨_, 0, none⟩ 1 1 J.cells.toList rfl rfl (Yis (heap_alloc_new _ _)) (fun v hv => Ydm (l := [J]) v (by simpa [Ybm] using hv)) KM.out KB.out (HG.out.base _) ?_; intro v' w6 ho hg _; have h6 := HG.out.grow (by rw [List.length_append, HS.out.2.2]; rfl) (by rw [Yhw]; simp [Ybm]) ho hg; have c15b := Ya h6.2 15; rw [show (J.cells)[15]? = some (.int .i64 J.len) from rfl] at c15b; have H6 := Yh_ h6; clear ho hg h6 HG c2 f2 c15 cz fz) | (have _t := H6; clear _t; refine Ybr 42 rfl ?_; refine Yaq J wF.heap.size rfl _ rfl rfl H6.out.2 ?_) | (have _t := H6; clear _t; go_at_call 15; refine (Ykx J _).mono ?_; rintro e wE ⟨rfl, hu⟩; rw [he]; have H7 := Yh_ (And.intro (H6.out.1.step hu) (hu.get H6.out.2 (by simp))); clear hu H6 c15b; have c15 := Ya H7.out.2 15; rw [show (J.cells)[15]? = some (.int .i64 J.len) from rfl] at c15; have cz := Ya H7.out.1.z; have fz := Yh H7.out.1.z))
       exact bodyPost_ret (Yas rfl (Yj 4 rfl) (Yb3 5 w.heap.size Flt.zero rfl (Ycf H7.out.1.z _ _ _ _)) (Yj 6 rfl)) rfl (by rw [HV.out]; obtain ⟨v, g, rfl, hh⟩ := Yld (a := .int .i64 0) (b := .int .u32 0) (c := .int .u32 0) (d := .int .i64 0) H7.out.1; exact ⟨_, g, rfl, hh⟩)
  ·have HV := Yh_ (show Ydt M pc = ⟨row, Flt.zero, true⟩ by rw [HX.out, show 8 - m = 0 from by omega]; rfl)
   have d8 : decide ((m : Int) < 8) = false := by simp; omega
   have cz := Ya HS.out.1.z
   have fz := Yh HS.out.1.z
   clear h8 hr8
   go_wp2_with fail
   exact bodyPost_ret (Yas rfl (Yj 4 rfl) (Yb3 5 w.heap.size Flt.zero rfl (Ycf HS.out.1.z _ _ _ _)) (Yj 6 rfl)) rfl (by rw [HV.out]; obtain ⟨v, g, rfl, hh⟩ := Yld (a := .int .i64 0) (b := .int .u32 0) (c := .int .u32 0) (d := .int .i64 0) HS.out.1; exact ⟨_, g, rfl, hh⟩)
end
theorem ISl.some {w : World} {l : List Ins} {b : Option Addr} {n c g : Nat} (h : ISl w (.slice b n c) l g) (hl : 0 < l.length) : ∃ o, b = some ⟨g, o, none⟩ := by
 rcases h with ⟨h1, h2⟩ | ⟨o, _, _, _, h1, _⟩
 ·rw [h2] at hl; simp at hl
 ·injection h1 with h1; exact ⟨o, h1⟩
theorem Ylb (v1 v2 : Value) (l : List Ins) (g1 g2 : Nat) (w : World) (h1 : ISl w v1 l g1) (h2 : ISl w v2 l g2) (hlen : l.length ≤ 100) :
  Calls Tryz.prog 10 #[v1, v2] w fun e w' => e = .returned (.bool true) ∧ Upd [] w w' := by
 obtain ⟨b1, c1, rfl⟩ := h1.form
 obtain ⟨b2, c2, rfl⟩ := h2.form
 have HV := Yh_ (And.intro h1 h2)
 obtain ⟨n, hn⟩ : ∃ n, l.length = n := ⟨_, rfl⟩
 rw [hn] at HV
 rw [hn]
 rw [hn] at hlen
 have HN := Yh_ hn
 clear h1 h2 hn
 go_enter Tryz.func10, Tryz.ntmps10
 go_wp2_with fail
 go_loopw [5] (fun i wr => ∃ k : Nat, k ≤ n ∧ i = .int .i64 k ∧ Upd [] w wr) (fun i _ => n - (intOf i).toNat)
 case atStart => exact ⟨0, Nat.zero_le _, rfl, Upd.refl _ _⟩
 case round =>
  obtain ⟨k, hk, rfl, hu⟩ := hrel
  have HU := Yh_ hu
  clear hu
  by_cases hlt : k < n
  ·have d1 : decide ((k : Int) < n) = true := by simp; omega
   have e1 : wrap64 ((k : Int) + 1) = ((k + 1 : Nat) : Int) := by unfold wrap64; omega
   obtain ⟨x, hx⟩ : ∃ x, l[k]? = some x := ⟨l[k]'(by rw [HN.out]; exact hlt), List.getElem?_eq_getElem (by rw [HN.out]; exact hlt)⟩
   obtain ⟨o1, rfl⟩ := HV.out.1.some (by rw [HN.out]; omega)
   obtain ⟨o2, rfl⟩ := HV.out.2.some (by rw [HN.out]; omega)
   have HR := Yh_ (And.intro (fun {w1 : World} (u : Upd [] w w1) => (HV.out.1.keep u (by simp)).at hx) (fun {w1 : World} (u : Upd [] w w1) => (HV.out.2.keep u (by simp)).at hx))
   have hq := fun w : World => show (binOp .neq 42 (.agg x.cells) (.agg x.cells)).run Tryz.prog w = .ok (.bool false) w from by have := Yqx x x w; rw [Ins.eqB_self] at this; exact this
   clear hx
   go_wp2_with fail
   refine Ybc 9 (fun w1 => Upd [] w w1) (fun _ _ => False) (by kernel_rfl) (by decide +kernel) HU.out.drew (fun _ _ _ h => h.elim) ?_
   simp only [List.take_succ_cons, List.take_zero, List.drop_succ_cons, List.drop_zero]
   apply Yae rfl rfl
   ·intro K hK w1 hB1
    have HB := Yh_ hB1
    clear hB1
    go_wp2_with fail
    first
    |exact hK _ HB.out
    |exact HB.out
   ·exact ⟨_, rfl⟩
   apply Yae rfl rfl
   ·intro K hK w1 hB1
    have HB := Yh_ hB1
    clear hB1
    go_wp2_with fail
    first
    |exact hK _ HB.out
    |exact HB.out
   ·exact ⟨_, rfl⟩
   apply Yae rfl rfl
   ·intro K hK w1 hB1
    have HB := Yh_ hB1
    clear hB1
    go_wp2_with fail
    first
    |exact hK _ HB.out
    |exact HB.out
   ·exact ⟨_, rfl⟩
   apply Yae rfl rfl
   ·intro K hK w1 hB1
    refine wp_load_mid 42 _ rfl g1 (o1 + k * 16) rfl x.cells.toList _ (HR.out.1 hB1) Tryz.underlying42 rfl (by rw [Array.length_toList, Ins.size]; exact Yd2) ?_
    rw [Array.toArray_toList]
    exact hK _ hB1
   ·exact ⟨_, rfl⟩
   apply Yae rfl rfl
   ·intro K hK w1 hB1
    have HB := Yh_ hB1
    clear hB1
    go_wp2_with fail
    first
    |exact hK _ HB.out
    |exact HB.out
   ·exact ⟨_, rfl⟩
   apply Yae rfl rfl
   ·intro K hK w1 hB1
    have HB := Yh_ hB1
    clear hB1
    go_wp2_with fail
    first
    |exact hK _ HB.out
    |exact HB.out
   ·exact ⟨_, rfl⟩
   apply Yae rfl rfl
   ·intro K hK w1 hB1
    have HB := Yh_ hB1
    clear hB1
    go_wp2_with fail
    first
    |exact hK _ HB.out
    |exact HB.out
   ·exact ⟨_, rfl⟩
   apply Yae rfl rfl
   ·intro K hK w1 hB1
    refine wp_load_mid 42 _ rfl g2 (o2 + k * 16) rfl x.cells.toList _ (HR.out.2 hB1) Tryz.underlying42 rfl (by rw [Array.length_toList, Ins.size]; exact Yd2) ?_
    rw [Array.toArray_toList]
    exact hK _ hB1
   ·exact ⟨_, rfl⟩
   apply Yae rfl rfl
   ·intro K hK w1 hB1
    have HB := Yh_ hB1
    clear hB1
    go_wp2_with fail
    first
    |exact hK _ HB.out
    |exact HB.out
   ·exact ⟨_, rfl⟩
   refine Yav (fun _ w5 hB1 => ?_)
   have HB := Yh_ hB1
   clear hB1
   go_wp2_with fail
   go_roundw
   case rel => exact ⟨k + 1, by omega, rfl, HB.out⟩
   case measure => simp [intOf]; omega
  ·obtain rfl : k = n := by omega
   have d1 : decide ((k : Int) < k) = false := by simp
   go_wp2_with fail
   go_ret
   exact ⟨rfl, HU.out⟩
theorem Yjj (M : Mem) (a pb : Nat) (pc : Int) (w : World) (hM : Yap w a pb M) (h0 : 0 ≤ pc ∧ pc < 4294967296) :
  Calls Tryz.prog 8 #[.pointer (some ⟨a, 0, none⟩), .int .u32 pc] w fun e w' => ∃ v g, e = .returned (.tuple #[v, (Yf4 M pc).val, .bool (Ygs M pc)]) ∧ ISl w' v (Ybi M pc) g ∧ w.heap.size ≤ g ∧ Upd [] w w' := by
 cases hk : (Yai M pc).k
 ·refine (Find_no M a pb pc w hM h0 hk).mono ?_
  rintro e w' ⟨rfl, hu⟩
  exact ⟨_, w.heap.size, by rw [Yf4, Ygs, hk]; rfl, .inl ⟨rfl, by rw [Ybi, hk]; rfl⟩, Nat.le_refl _, hu⟩
 ·refine (Find_yes M a pb pc w hM h0 hk).mono ?_
  rintro e w' ⟨v, g, rfl, h⟩
  exact ⟨v, g, by rw [Yf4, Ygs, hk]; rfl, h⟩
def Mem.samePage (M N : Mem) (p : Nat) : Bool := (M.R p == N.R p) && (List.range 256).all fun j => M.B (p * 256 + j) == N.B (p * 256 + j)
def Mem.same (M N : Mem) : Bool := (List.range 64).all fun p => M.samePage N p
structure Ych where
 pg : Int
 ct : Int
 rt : Int
 by_ : ByteArray
 deriving Inhabited
def Ych.ok (s : Ych) : Prop := -9223372036854775808 ≤ s.ct ∧ s.ct ≤ 9223372036854775807
def Yhz (w : World) (v : Value) (l : List Ych) (g : Nat) : Prop :=
 (∃ a c, v = .slice a 0 c ∧ l = []) ∨
 ∃ o c, v = .slice (some ⟨g, o, none⟩) l.length c ∧ g < w.heap.size ∧ l.length ≤ 9223372036854775807 ∧ ∀ i s, l[i]? = some s → w.cell? ⟨g, o + i * 4, none⟩ = some (.int .i64 s.pg) ∧ w.cell? ⟨g, o + i * 4 + 1, none⟩ = some (.int .i64 s.ct) ∧ w.cell? ⟨g, o + i * 4 + 2, none⟩ = some (.int .i64 s.rt) ∧ w.cell? ⟨g, o + i * 4 + 3, none⟩ = some (.string s.by_)
theorem Yhz.keep {w w' : World} {v : Value} {l : List Ych} {g : Nat} {S : List Nat} (h : Yhz w v l g) (u : Upd S w w') (hg : g ∉ S) : Yhz w' v l g := by
 rcases h with h | ⟨o, c, h1, h2, h4, h3⟩
 ·exact .inl h
 ·refine .inr ⟨o, c, h1, Nat.lt_of_lt_of_le h2 u.size, h4, fun i s hs => ?_⟩
  have e : ∀ k, w'.cell? ⟨g, k, none⟩ = w.cell? ⟨g, k, none⟩ := fun k => by
   simp only [World.cell?]; rw [u.block g h2 hg]
  rw [e, e, e, e]
  exact h3 i s hs
def Yc7 (s : ByteArray) : List Int := s.data.toList.map fun b => (b.toNat : Int)
theorem Yep (s : ByteArray) : (Yc7 s).length = s.size := by rw [Yc7, List.length_map, Array.length_toList]; rfl
theorem Yi7 (s : ByteArray) (i : Nat) : 0 ≤ (Yc7 s).getD i 0 ∧ (Yc7 s).getD i 0 ≤ 255 := by
 rw [List.getD_eq_getElem?_getD, Yc7, List.getElem?_map]
 cases s.data.toList[i]? with
 |none => simp
 |some b =>
  have h := b.toNat_lt
  simp only [Option.map_some, Option.getD_some]
  exact ⟨by omega, by omega⟩
def Mem.spanB (M : Mem) (s : Ych) : Bool := M.mapB s.pg s.ct s.rt && decide ((s.by_.size : Int) ≤ s.ct * 256)
def Mem.span1 (M : Mem) (s : Ych) : Mem := (M.mapN s.pg.toNat s.ct.toNat s.rt).poke (s.pg * 256) (Yc7 s.by_)
def Yc4 (l : List Ych) : Nat → Mem
 |0 => Mem.zero
 |j + 1 => (Yc4 l j).span1 (l.getD j default)
def Ydr (l : List Ych) : Bool := (List.range l.length).all fun i => (Yc4 l i).spanB (l.getD i default)
def loadM (l : List Ych) : Mem := Yc4 l l.length
def Yfl (l : List Ych) (M : Mem) : Mem := if Ydr l then loadM l else M
theorem Yj1 {l : List Ych} {M : Mem} (h : Ydr l = true) : Yfl l M = loadM l := by rw [Yfl, if_pos h]
theorem Yib {l : List Ych} {M : Mem} (h : Ydr l = false) : Yfl l M = M := by rw [Yfl, if_neg (by rw [h]; simp)]
theorem Yk8 {M : Mem} {p n r : Int} (h : M.mapB p n r = true) : 0 ≤ p ∧ 1 ≤ n ∧ n ≤ 64 ∧ p ≤ 64 - n := by
 simp only [Mem.mapB, Mem.all, Bool.and_eq_true] at h
 exact (Yd6 p n).1 h.2.1
theorem Yjo {l : List Ych} {j : Nat} (hj : j < l.length) (h : (Yc4 l j).spanB (l.getD j default) = false) : Ydr l = false := by
 rw [Ydr, List.all_eq_false]; exact ⟨j, List.mem_range.2 hj, by rw [h]; simp⟩
theorem Ym4 {l : List Ych} (h : ∀ j, j < l.length → (Yc4 l j).spanB (l.getD j default) = true) : Ydr l = true := by
 rw [Ydr, List.all_eq_true]; exact fun j hj => h j (List.mem_range.1 hj)
theorem bytes_sl (w : World) (s : ByteArray) (cap : Nat) (f : Nat × Nat) (h : s.size ≤ cap) :
  Yb0 ((w.drew.alloc (.cells (bytesRow s cap) 5 f))) (.slice (some ⟨w.heap.size, 0, none⟩) s.size cap) (Yc7 s) w.heap.size := by
 refine .inr ⟨0, cap, _, _, _, by rw [Yep], heap_alloc_new _ _, fun i hi => ?_⟩
 rw [Yep] at hi
 have hi' : i < s.data.size := hi
 have e : (Yc7 s).getD i 0 = ((s.data[i]'hi').toNat : Int) := by
  rw [List.getD_eq_getElem?_getD, Yc7, List.getElem?_map, Array.getElem?_toList, Array.getElem?_eq_getElem hi']
  rfl
 rw [e, Nat.zero_add, bytesRow, Array.getElem?_append_left (by rw [Array.size_map]; exact hi'), Array.getElem?_map, Array.getElem?_eq_getElem hi']
 rfl
structure Ygu (w w' : World) (a pb : Nat) (M : Mem) : Prop where
 ex : ∃ qb, (qb = pb ∨ w.heap.size ≤ qb) ∧ Yap w' a qb M
theorem Ygu.mk' {w w' : World} {a pb : Nat} {M : Mem} (qb : Nat) (h : qb = pb ∨ w.heap.size ≤ qb) (k : Yap w' a qb M) : Ygu w w' a pb M := ⟨⟨qb, h, k⟩⟩
theorem Yo5 {w w1 : World} {a pb na nb d : Nat} {M N : Mem} (hN : Yap w1 na nb N) (hM : Yap w a pb M) (hU : Upd [] w w1) (hna : w.heap.size ≤ na) (hnb : w.heap.size ≤ nb) (hd : 64 ≤ d)
  (h1 : w1.heap[na]? = some (.cells #[.slice (some ⟨nb, 0, none⟩) 64 d] 73 (0, 0))) : Yap (w1.setCell ⟨a, 0, none⟩ (.slice (some ⟨nb, 0, none⟩) 64 d)) a nb N := by
 obtain ⟨c, _, h2⟩ := hM.hd
 have h3 := hU.get h2 (by simp)
 obtain ⟨C, h4, h5⟩ := hN.pg
 have ha := hM.al
 exact ⟨⟨d, hd, Ys h3 0 _⟩, ⟨C, h4, Yq _ (by simp; omega) h5⟩, hN.ok⟩
theorem Ynj (M : Mem) (a pb g : Nat) (v : Value) (l : List Ych) (w : World) (hM : Yap w a pb M) (hl : Yhz w v l g) (hok : ∀ s, s ∈ l → s.ok) :
  Calls Tryz.prog 20 #[.pointer (some ⟨a, 0, none⟩), v] w fun e w' => e = .returned (.int .i64 (errI (Ydr l) 60)) ∧ Ygu w w' a pb (Yfl l M) ∧ Upd [a] w w' := by
 have hmo : Tryz.prog.follows .mixedOrders = true := by kernel_rfl
 have HM := Yh_ hM
 have HL := Yh_ hl
 clear hM
 have hl2 := hl
 clear hl
 rcases hl2 with ⟨x, c, rfl, rfl⟩ | ⟨o, c, rfl, hg, hlen, hc⟩
 ·go_enter Tryz.func20, Tryz.ntmps20
  go_wp2_with (go_at_call 17; refine (Yiv _).mono ?_; rintro e w1 ⟨na, nb, rfl, hna, hnb, hN, hU⟩; have HN := Yh_ hN; have HU := Yh_ hU; clear hN hU)
  go_loopw [11] (fun i wr => i = .int .i64 0 ∧ Yap wr na nb Mem.zero ∧ Upd [] w wr) (fun _ _ => 0)
  case atStart => exact ⟨rfl, HN.out, HU.out⟩
  case round =>
   obtain ⟨rfl, hN, hU⟩ := hrel
   have HN := Yh_ hN
   have HU := Yh_ hU
   clear hN hU
   obtain ⟨d, hd, h1⟩ := HN.out.hd
   have H1 := Yh_ h1
   have ca : wr.cell? ⟨na, 0, none⟩ = some (.slice (some ⟨nb, 0, none⟩) 64 d) := by rw [Ya h1]; rfl
   obtain ⟨d2, hd2, h2⟩ := HM.out.hd
   have h2' := HU.out.get h2 (by simp)
   have H2 := Yh_ h2'
   have hfr : wr.frozen? ⟨a, 0, none⟩ = false := Yh h2' 0
   have hcb : wr.cell? ⟨a, 0, none⟩ = some (.slice (some ⟨pb, 0, none⟩) 64 d2) := by rw [Ya h2']; rfl
   clear h1 h2 h2'
   go_wp2
   go_ret
   exact ⟨rfl, Ygu.mk' (M := Yfl [] M) nb (.inr hnb) (Yo5 HN.out HM.out HU.out hna hnb hd H1.out), (HU.out.mono (by simp)).setCell (by simp) _⟩
 ·have hcv := fun (w : World) (s : ByteArray) => run_bytes_of_string (P := Tryz.prog) w 9 45 5 s (by kernel_rfl) (by kernel_rfl) (by kernel_rfl)
  have HC := Yh_ hc
  clear hc
  have HO := Yh_ hok
  clear hok
  go_enter Tryz.func20, Tryz.ntmps20
  go_wp2_with (go_at_call 17; refine (Yiv _).mono ?_; rintro e w1 ⟨na, nb, rfl, hna, hnb, hN, hU⟩; have HN := Yh_ hN; have HU := Yh_ hU; clear hN hU)
  go_loopw [11] (fun i wr => ∃ j : Nat, j ≤ l.length ∧ i = .int .i64 j ∧ (∀ k, k < j → (Yc4 l k).spanB (l.getD k default) = true) ∧ Yap wr na nb (Yc4 l j) ∧ Upd [] w wr) (fun i _ => l.length - (intOf i).toNat)
  case atStart => exact ⟨0, Nat.zero_le _, rfl, by omega, HN.out, HU.out⟩
  case round =>
   obtain ⟨j, hj, rfl, hall, hN, hU⟩ := hrel
   clear HN HU
   have HN := Yh_ hN
   have HU := Yh_ hU
   have HA := Yh_ hall
   clear hN hU hall
   by_cases hlt : j < l.length
   ·obtain ⟨s, hs⟩ : ∃ s, l[j]? = some s := ⟨l[j], List.getElem?_eq_getElem hlt⟩
    have hsd : l.getD j default = s := by rw [List.getD_eq_getElem?_getD, hs]; rfl
    have hcs := HL.out.keep HU.out (by simp)
    obtain ⟨c0, c1, c2, c3⟩ : wr.cell? ⟨g, o + j * 4, none⟩ = some (.int .i64 s.pg) ∧ wr.cell? ⟨g, o + j * 4 + 1, none⟩ = some (.int .i64 s.ct) ∧ wr.cell? ⟨g, o + j * 4 + 2, none⟩ = some (.int .i64 s.rt) ∧ wr.cell? ⟨g, o + j * 4 + 3, none⟩ = some (.string s.by_) := by
     rcases hcs with ⟨_, _, hv, _⟩ | ⟨o', c', hv, _, _, h⟩
     ·injection hv with _ e _; omega
     ·injection hv with e _ _
      injection e with e
      injection e with _ e _
      subst e
      exact h j s hs
    have hsm : s.ok := HO.out s (List.mem_of_getElem? hs)
    have HS := Yh_ hsm
    have HSD := Yh_ hsd
    clear hcs hs hsm hsd
    have hmb : (Yc4 l j).mapB s.pg s.ct s.rt = true ∨ (Yc4 l j).mapB s.pg s.ct s.rt = false := by cases (Yc4 l j).mapB s.pg s.ct s.rt <;> simp
    rcases hmb with hmb | hmb
    ·have hrow := Yk8 hmb
     have HB := Yh_ hmb
     clear hmb
     by_cases hsz : (s.by_.size : Int) ≤ s.ct * 256
     ·obtain ⟨p1, p2, p3, p4⟩ := hrow
      have q1 : s.pg * 256 % 4294967296 = s.pg * 256 := by omega
      have q2 : 0 ≤ s.pg * 256 := by omega
      have q3 : s.pg * 256 < 4294967296 := by omega
      go_wp2_with (first | (go_at_call 18; refine (Yl5 (Yc4 l j) na nb s.pg s.ct s.rt _ (HN.out.keep ((Upd.refl [] _).alloc _) (by simp) (by simp)) HS.out.1 HB.out).mono ?_; rintro e w2 ⟨rfl, hM2, hU2⟩; have HM2 := Yh_ hM2; have HU2 := Yh_ hU2; have cs2 : ∀ o, w2.cell? ⟨wr.heap.size, o, none⟩ = #[Value.int .i64 s.pg, .int .i64 s.ct, .int .i64 s.rt, .string s.by_][o]? := Ya (hU2.get (heap_alloc_new _ _) (by have := HN.out.pl; simp; omega)); clear hM2 hU2) | (go_at_call 19; refine (Yo2 _ na nb (s.pg * 256) _ (Yc7 s.by_) w2.heap.size _ (HM2.out.keep (((Upd.refl [] _).drew).alloc _) (by simp) (by simp)) q2 q3 (bytes_sl _ _ _ _ (grownCap_ge _ _ _ _)) (by have := HM2.out.pl; omega) (Yi7 _) (by rw [Yep]; unfold maxLen; omega)).mono ?_; rintro e w3 ⟨rfl, hM3, hU3⟩; have HM3 := Yh_ hM3; have HU3 := Yh_ hU3; clear hM3 hU3))
      go_roundw
      case rel =>
       refine ⟨j + 1, by omega, by go_num, fun k hk => ?_, ?_, ?_⟩
       ·by_cases e : k = j
        ·subst e
         rw [HSD.out, Mem.spanB, HB.out]
         simpa using hsz
        ·exact HA.out k (by omega)
       ·have h := HM3.out
        rw [Yc4, HSD.out]
        exact h
       ·have hn : ∀ x, x ∈ [nb] → x ∈ ([] : List Nat) ∨ w.heap.size ≤ x := by simpa using hnb
        exact ((((HU.out.alloc _).also HU2.out hn).drew).alloc _).also HU3.out hn
      case measure => simp [intOf]; omega
     ·obtain ⟨p1, p2, p3, p4⟩ := hrow
      have hsz' : s.ct * 256 < s.by_.size := by omega
      go_wp2_with (go_at_call 18; refine (Yl5 (Yc4 l j) na nb s.pg s.ct s.rt _ (HN.out.keep ((Upd.refl [] _).alloc _) (by simp) (by simp)) HS.out.1 HB.out).mono ?_; rintro e w2 ⟨rfl, hM2, hU2⟩; have HM2 := Yh_ hM2; have HU2 := Yh_ hU2; have cs2 : ∀ o, w2.cell? ⟨wr.heap.size, o, none⟩ = #[Value.int .i64 s.pg, .int .i64 s.ct, .int .i64 s.rt, .string s.by_][o]? := Ya (hU2.get (heap_alloc_new _ _) (by have := HN.out.pl; simp; omega)); clear hM2 hU2)
      go_ret
      have hn : ∀ x, x ∈ [nb] → x ∈ ([] : List Nat) ∨ w.heap.size ≤ x := by simpa using hnb
      have hno : Ydr l = false := Yjo hlt (by rw [HSD.out, Mem.spanB]; simp; omega)
      have hU' := (HU.out.alloc _).also HU2.out hn
      exact ⟨by rw [hno]; rfl, by rw [Yib hno]; exact Ygu.mk' pb (.inl rfl) (HM.out.keep hU' (by simp) (by simp)), hU'.mono (by simp)⟩
    ·have HB := Yh_ hmb
     clear hmb
     go_wp2_with (go_at_call 18; refine (Map_no (Yc4 l j) na nb s.pg s.ct s.rt _ (HN.out.keep ((Upd.refl [] _).alloc _) (by simp) (by simp)) HS.out.1 HB.out).mono ?_; rintro e w2 ⟨rfl, hU2⟩; have HU2 := Yh_ hU2; clear hU2)
     go_ret
     have hno : Ydr l = false := Yjo hlt (by rw [HSD.out, Mem.spanB, HB.out]; rfl)
     have hU' := (HU.out.alloc _).also HU2.out (by simp)
     exact ⟨by rw [hno]; rfl, by rw [Yib hno]; exact Ygu.mk' pb (.inl rfl) (HM.out.keep hU' (by simp) (by simp)), hU'.mono (by simp)⟩
   ·obtain ⟨d, hd, h1⟩ := HN.out.hd
    have H1 := Yh_ h1
    have ca : wr.cell? ⟨na, 0, none⟩ = some (.slice (some ⟨nb, 0, none⟩) 64 d) := by rw [Ya h1]; rfl
    obtain ⟨d2, hd2, h2⟩ := HM.out.hd
    have h2' := HU.out.get h2 (by simp)
    have H2 := Yh_ h2'
    have hfr : wr.frozen? ⟨a, 0, none⟩ = false := Yh h2' 0
    have hcb : wr.cell? ⟨a, 0, none⟩ = some (.slice (some ⟨pb, 0, none⟩) 64 d2) := by rw [Ya h2']; rfl
    clear h1 h2 h2'
    go_wp2
    go_ret
    have e : j = l.length := by omega
    subst e
    have hyes := Ym4 HA.out
    exact ⟨by rw [hyes]; rfl, by rw [Yj1 hyes]; exact Ygu.mk' nb (.inr hnb) (Yo5 HN.out HM.out HU.out hna hnb hd H1.out), (HU.out.mono (by simp)).setCell (by simp) _⟩
theorem Yjg {w : World} {base : Nat} {l : List Int} {v : Value} (h : w.ownsRow base 5 1 v l.length (l.map (Value.int .u8))) :
  (convert 45 9 v).run Tryz.prog w = .ok (.string (strOfNums l)) w := by
 have hk := h
 obtain ⟨_, ⟨h1, h2⟩ | ⟨g, cap, cur, h1, _⟩⟩ := h
 ·have : l = [] := List.length_eq_zero_iff.1 h2
  subst this
  rw [h1]
  exact run_convert_bytes_nil w 45 5 (by kernel_rfl) (by kernel_rfl) _ _ _ (by kernel_rfl)
 ·rw [h1]
  refine run_convert_bytes_arg w 45 5 (by kernel_rfl) (by kernel_rfl) g 0 _ cap l rfl (fun i hi => ?_) _ (by kernel_rfl)
  have := hk.cells (g := g) (by rw [h1]; rfl) i (.int .u8 (l.getD i 0)) (by rw [List.getElem?_map, List.getD_eq_getElem?_getD, List.getElem?_eq_getElem hi]; rfl)
  rw [Nat.zero_add]
  rcases i with _ | i <;> simpa [Addr.add] using this
theorem Yjz (l : List Ins) (n : Nat) : 0 ≤ Ydo l n ∧ Ydo l n < 4294967296 := by
 cases n with
 |zero => simp [Ydo]
 |succ n => unfold Ydo; omega
theorem Ykc (M : Mem) (a pb : Nat) (pc : Int) (v : Value) (l : List Ins) (g : Nat) (w : World) (hM : Yap w a pb M) (h0 : 0 ≤ pc ∧ pc < 4294967296) (hv : ISl w v l g) (hn : l.length ≤ 100) :
  Calls Tryz.prog 13 #[.pointer (some ⟨a, 0, none⟩), .int .u32 pc, v] w fun e w' => e = .returned (.string (strOfNums (M.peek pc (Ydo l l.length)))) ∧ Upd [] w w' := by
 have hb := Yjz l l.length
 obtain ⟨z, hz⟩ : ∃ z, Ydo l l.length = z := ⟨_, rfl⟩
 rw [hz] at hb
 have HM := Yh_ (And.intro hM (And.intro h0 (And.intro hv (And.intro hn hz))))
 rw [hz]
 have tok : True := trivial
 obtain ⟨b, c, rfl⟩ := hv.form
 clear hM h0 hv hn hz
 go_enter Tryz.func13, Tryz.ntmps13
 go_wp2_with (first | (have _t := tok; clear _t; go_at_call 12; refine (Yiy _ l g _ HM.out.2.2.1 HM.out.2.2.2.1).mono ?_; rintro e w1 ⟨rfl, hu⟩; rw [HM.out.2.2.2.2]; have U1 := Yh_ hu; clear hu tok) | (have _t := U1; clear _t; go_at_call 25; refine (Peek_any M a pb pc z _ (HM.out.1.keep U1.out (by simp) (by simp)) HM.out.2.1.1 HM.out.2.1.2 (by omega) (by omega)).mono ?_; rintro e w2 ⟨v2, rfl, hown, hu⟩; have hcv := Yjg hown; have U2 := Yh_ (U1.out.also hu (by simp)); clear hu U1 hown))
 go_ret
 exact ⟨rfl, U2.out⟩
def Ye7 (pc : Int) (l : List Ins) : Nat → Int
 |0 => pc
 |k + 1 => (Ye7 pc l k + (l.getD k Ins.zero).len % 4294967296) % 4294967296
def Yes (pc : Int) (l : List Ins) (k : Nat) : List Value := (List.range k).map fun j => .int .u32 (Ye7 pc l j)
theorem Yn1 (pc : Int) (l : List Ins) (k : Nat) : Yes pc l (k + 1) = Yes pc l k ++ [.int .u32 (Ye7 pc l k)] := by simp [Yes, List.range_succ]
theorem info_u32 : (Tryz.prog.info? 23).map (fun i => (i.zero, i.size, i.bytes)) = some (some (.int .u32 0), 1, 4) := by kernel_rfl
structure PcS (w : World) (r : Value) (n : Nat) (xs : List Value) (x : Ins) (b : Nat) (w1 : World) : Prop where
 o : w1.ownsRow w.heap.size 23 1 r n xs
 h : w1.heap[b]? = some (.cells x.cells 42 (0, 0))
 u : Upd [] w w1
 l : w.heap.size ≤ b
 q : ∀ z, r.ownBlock = some z → z ≠ b
theorem pcStart {w wr w3 : World} {r : Value} {n : Nat} {xs : List Value} {x : Ins} (hu : Upd [] w wr) (ho : wr.ownsRow w.heap.size 23 1 r n xs) (h : w3.heap[wr.heap.size]? = some (.cells x.cells 42 (0, 0))) (u : Upd [] wr w3) : PcS w r n xs x wr.heap.size w3 := by
 refine ⟨ho.kept (row := none) ⟨u.os, u.tape, u.output, u.size, fun k hk _ => u.block k hk (by simp)⟩ ?_, h, hu.also u (by simp), hu.size, fun z hz e => ?_⟩
 ·cases r.ownBlock <;> simp
 ·have := (ho.lt z hz).2
  omega
theorem PcS.grow {w w3 w4 : World} {r v : Value} {n m b : Nat} {xs ys : List Value} {x : Ins} {t : TypeId} {y : Value} (h : PcS w r n xs x b w3) (ho : w4.ownsRow w.heap.size 23 1 v m ys) (hg : (w3.alloc (.cells #[y] t)).grownBy w4 r.ownBlock) : w4.ownsRow w.heap.size 23 1 v m ys ∧ w4.heap[b]? = some (.cells x.cells 42 (0, 0)) ∧ Upd [] w w4 := by
 have ua := (Upd.refl [] w3).alloc (.cells #[y] t)
 have uu : Upd r.ownBlock.toList w3 w4 := ua.trans (Upd.of_grown hg) (by simp) (fun z hz => .inl hz)
 have hne : ∀ z, z ∈ r.ownBlock.toList → w.heap.size ≤ z := fun z hz => (h.o.lt z (by simpa using hz)).1
 exact ⟨ho, uu.get h.h (fun hb => h.q b (by simpa using hb) rfl), h.u.new uu hne⟩
theorem Yi1 (pc : Int) (v : Value) (l : List Ins) (g : Nat) (w : World) (hv : ISl w v l g) (hn : l.length ≤ 100) :
  Calls Tryz.prog 11 #[.int .u32 pc, v] w fun e w' => ∃ v', e = .returned v' ∧ w'.ownsRow w.heap.size 23 1 v' l.length (Yes pc l l.length) ∧ Upd [] w w' := by
 obtain ⟨b, c, rfl⟩ := hv.form
 obtain ⟨i0, hi, hz0, hz1, hz2⟩ := info_parts info_u32
 have HI := Yh_ (And.intro hi (And.intro hz0 (And.intro hz1 hz2)))
 have HV := Yh_ hv
 clear hv hi hz0 hz1 hz2
 go_enter Tryz.func11, Tryz.ntmps11
 go_wp2_with fail
 go_loopw [0, 5, 10] (fun t r i wr => ∃ k : Nat, k ≤ l.length ∧ t = .int .u32 (Ye7 pc l k) ∧ i = .int .i64 k ∧ wr.ownsRow w.heap.size 23 1 r k (Yes pc l k) ∧ Upd [] w wr) (fun _ _ i _ => l.length - (intOf i).toNat)
 case atStart => exact ⟨0, Nat.zero_le _, rfl, rfl, World.ownsRow_nil _ _ _ _, Upd.refl _ _⟩
 case round =>
  obtain ⟨k, hk, rfl, rfl, ho, hu⟩ := hrel
  have HU := Yh_ hu
  have HO := Yh_ ho
  clear hu ho
  by_cases hlt : k < l.length
  ·have d1 : decide ((k : Int) < l.length) = true := by simp; omega
   obtain ⟨x, hx⟩ : ∃ x, l[k]? = some x := ⟨l[k], List.getElem?_eq_getElem hlt⟩
   obtain ⟨o, rfl⟩ : ∃ o, b = some ⟨g, o, none⟩ := by
    rcases HV.out with ⟨h1, h2⟩ | ⟨o, _, _, _, h1, _⟩
    ·rw [h2] at hlt; simp at hlt
    ·injection h1 with h1; exact ⟨o, h1⟩
   have HR := Yh_ ((HV.out.keep HU.out (by simp)).at hx)
   have HX := Yh_ hx
   clear hx
   have tok : True := trivial
   go_wp2_with (first | (refine Ybr 42 rfl ?_; refine Ydq rfl 42 _ rfl g (o + k * 16) rfl x.cells _ HR.out Tryz.underlying42 rfl (by rw [Ins.size]; exact Yd2) ?_) | (have _t := tok; clear _t; refine Ye 42 rfl ?_; refine Yb x wr.heap.size rfl _ _ rfl rfl rfl (heap_alloc_new wr (.cells Ins.zero.cells 42)) rfl ?_; intro w3 hw; have h3 := Yaw (S := []) (w0 := wr) hw (heap_alloc_new wr (.cells Ins.zero.cells 42)) rfl ((Upd.refl [] wr).alloc _) (.inr (Nat.le_refl _)); have P3 := Yh_ (pcStart HU.out HO.out h3.1 h3.2); have c3 := Ya h3.1 15; rw [show (x.cells)[15]? = some (.int .i64 x.len) from rfl] at c3; clear hw h3 tok) | (have _t := P3; clear _t; at_builtin; refine wpList_append_own _ rfl _ _ 37 rfl w.heap.size 23 i0 (.int .u32 0) 1 4 Tryz.underlying37 HI.out.1 HI.out.2.1 HI.out.2.2.1 HI.out.2.2.2 rfl (by decide) _ k _ rfl (P3.out.o.alloc _) ⟨w3.heap.size, 0, none⟩ 1 1 [.int .u32 (Ye7 pc l k)] rfl rfl (Ykk _ _ _) (Yhe _ _) (by unfold maxLen; omega) (by omega) (by have := P3.out.u.size; simp; omega) ?_; intro v' w4 hv' hg _; have P4 := Yh_ (P3.out.grow hv' hg); have c4 := Ya P4.out.2.1 15; rw [show (x.cells)[15]? = some (.int .i64 x.len) from rfl] at c4; clear hv' hg P3 c3))
   go_roundw
   case rel => exact ⟨k + 1, by omega, by rw [Ye7, List.getD_eq_getElem?_getD, HX.out]; first | rfl | go_num, by go_num, by rw [Yn1]; exact P4.out.1, P4.out.2.2⟩
   case measure => simp [intOf]; omega
  ·obtain rfl : k = l.length := by omega
   have d1 : decide ((l.length : Int) < l.length) = false := by simp
   go_wp2_with fail
   go_ret
   exact ⟨_, rfl, HO.out, HU.out⟩
section
open Go.WideShapes Go.ChangeShapes
def Yo3 : Option Value → Int
 |some (.int _ z) => z
 |_ => 0
def strOfV : Option Value → ByteArray
 |some (.string s) => s
 |_ => ByteArray.empty
def Yeg (w : World) (g o : Nat) : Ych := ⟨Yo3 (w.cell? ⟨g, o, none⟩), Yo3 (w.cell? ⟨g, o + 1, none⟩), Yo3 (w.cell? ⟨g, o + 2, none⟩), strOfV (w.cell? ⟨g, o + 3, none⟩)⟩
structure Ych.Ok (s : Ych) : Prop where
 pg : -9223372036854775808 ≤ s.pg ∧ s.pg ≤ 9223372036854775807
 ct : -9223372036854775808 ≤ s.ct ∧ s.ct ≤ 9223372036854775807
 rt : -9223372036854775808 ≤ s.rt ∧ s.rt ≤ 9223372036854775807
 by_ : s.by_.size ≤ maxLen
theorem Yo0 {z : Int} (h : (Lit.int .i64 z).wf = true) : -9223372036854775808 ≤ z ∧ z ≤ 9223372036854775807 := by
 simp only [Lit.wf, Bool.and_eq_true, decide_eq_true_eq] at h
 have h1 : IntKind.i64.min = -9223372036854775808 := by decide
 have h2 : IntKind.i64.max = 9223372036854775807 := by decide
 omega
theorem Ysu {H : Type} {enc : TypeId × Value → H} {w : World} {base : Nat} {spare : Nat → Bool} {held : Bool} {n : Nat} {g o : Nat} {y : DataW H × List MemPlace}
  (h : (w.cells? base ⟨g, o, none⟩ (Tryz.prog.cellsOf 62)).bind (DataW.trod enc Tryz.prog w base spare held n 62) = some y) :
  w.cell? ⟨g, o, none⟩ = some (.int .i64 (Yeg w g o).pg) ∧ w.cell? ⟨g, o + 1, none⟩ = some (.int .i64 (Yeg w g o).ct) ∧ w.cell? ⟨g, o + 2, none⟩ = some (.int .i64 (Yeg w g o).rt) ∧ w.cell? ⟨g, o + 3, none⟩ = some (.string (Yeg w g o).by_) ∧ (Yeg w g o).Ok ∧ g < w.heap.size := by
 rw [show Tryz.prog.cellsOf 62 = 4 by kernel_rfl, Option.bind_eq_some_iff] at h
 obtain ⟨cs, hcs, hy⟩ := h
 have hb := World.cells?_block hcs (by decide)
 obtain ⟨_, hl, hc⟩ := World.cells?_some hcs
 have c : ∀ j, j < 4 → ∀ lf, Yjy Tryz.prog 8 62 j = some lf → ∃ x, w.cell? ⟨g, o + j, none⟩ = some x ∧ LeafOk lf x := by
  intro j hj lf hlf
  obtain ⟨x, hx, hok⟩ := Yj8 8 _ _ _ _ j lf hy hlf
  refine ⟨x, ?_, hok⟩
  have := hc j hj
  rw [Addr.add_lit] at this
  rw [this, hx]
 obtain ⟨x0, h0, z0, rfl, w0⟩ := c 0 (by decide) (.int .i64) (by kernel_rfl)
 obtain ⟨x1, h1, z1, rfl, w1⟩ := c 1 (by decide) (.int .i64) (by kernel_rfl)
 obtain ⟨x2, h2, z2, rfl, w2⟩ := c 2 (by decide) (.int .i64) (by kernel_rfl)
 obtain ⟨x3, h3, s, rfl, w3⟩ := c 3 (by decide) .string (by kernel_rfl)
 have e : Yeg w g o = ⟨z0, z1, z2, s⟩ := by
  have h0' : w.cell? ⟨g, o, none⟩ = _ := h0
  simp only [Yeg, h0', h1, h2, h3]
  rfl
 rw [e]
 exact ⟨h0, h1, h2, h3, ⟨Yo0 w0, Yo0 w1, Yo0 w2, w3⟩, hb⟩
structure Ygx (w : World) (v : Value) (L : List Ych) (g : Nat) : Prop where
 sp : Yhz w v L g
 ok : ∀ s ∈ L, s.Ok
 len : L.length ≤ maxLen
 lt : g ≤ w.heap.size
 form : ∀ b n c, v = .slice b n c → n = L.length
theorem Ygx.keep {w w' : World} {v : Value} {L : List Ych} {g : Nat} (h : Ygx w v L g) (u : Upd [] w w') : Ygx w' v L g :=
 ⟨h.sp.keep u (by simp), h.ok, h.len, Nat.le_trans h.lt u.size, h.form⟩
theorem Ynk {H : Type} {enc : TypeId × Value → H} {w : World} {t : TypeId} (ht : Tryz.prog.underlying t = some (.slice 62)) {base b0 fuel : Nat} {spare : Nat → Bool} {held : Bool} {r : Reach} {v : Value} {x : DataW H × List MemPlace}
  (hval : Value.okWide Tryz.prog w r b0 t v) (hf : DataW.trod enc Tryz.prog w base spare held fuel t v.cells.toList = some x) : ∃ L g, Ygx w v L g := by
 obtain ⟨a1, len, cap, rfl⟩ := okWide_slice ht hval
 rcases DataW.trod_slice ht hf with ⟨hcs, hx⟩ | ⟨a, len', cap', elems, rest, n, _, hcs, _, _, hl, hm, hel, he, _, _⟩
 ·simp [Value.cells] at hcs
  obtain ⟨rfl, rfl, rfl⟩ := hcs
  exact ⟨[], 0, .inl ⟨_, _, rfl, rfl⟩, by simp, by simp, Nat.zero_le _, fun b n c e => by injection e with _ e _; exact e.symm⟩
 ·simp [Value.cells] at hcs
  obtain ⟨rfl, rfl, rfl⟩ := hcs
  simp only [Value.okWide, ht, Cell.okWide, Cell.ok, World.has] at hval
  obtain ⟨_, _, _, hsp, row, cells, hsh, _⟩ := hval
  obtain ⟨ab, ao, spot⟩ := a
  simp only at hsp
  subst hsp
  have hlt : ab < w.heap.size := by
   unfold World.shape? at hsh
   split at hsh
   ·rename_i c e f hh
    exact Yt hh
   ·cases hsh
  have hc4 : Tryz.prog.cellsOf 62 = 4 := by kernel_rfl
  have each : ∀ i, i < len → w.cell? ⟨ab, ao + i * 4, none⟩ = some (.int .i64 (Yeg w ab (ao + i * 4)).pg) ∧ w.cell? ⟨ab, ao + i * 4 + 1, none⟩ = some (.int .i64 (Yeg w ab (ao + i * 4)).ct) ∧ w.cell? ⟨ab, ao + i * 4 + 2, none⟩ = some (.int .i64 (Yeg w ab (ao + i * 4)).rt) ∧ w.cell? ⟨ab, ao + i * 4 + 3, none⟩ = some (.string (Yeg w ab (ao + i * 4)).by_) ∧ (Yeg w ab (ao + i * 4)).Ok ∧ ab < w.heap.size := fun i hi => by
   have h := he i hi
   obtain ⟨y, hy⟩ : ∃ y, elems[i]? = some y := ⟨_, List.getElem?_eq_getElem (by omega)⟩
   rw [hy, Addr.add_lit] at h
   have h2 := Ysu h
   rw [hc4] at h2
   exact h2
  have hl2 : ((List.range len).map fun i => Yeg w ab (ao + i * 4)).length = len := by simp
  refine ⟨(List.range len).map fun i => Yeg w ab (ao + i * 4), ab, .inr ⟨ao, cap, by rw [hl2], hlt, by rw [hl2]; unfold maxLen at hm; omega, fun i s hs => ?_⟩, fun s hs => ?_, by rw [hl2]; omega, Nat.le_of_lt hlt, fun b n c e => by injection e with _ e _; rw [hl2]; exact e.symm⟩
  ·have hi : i < len := by
    have := (List.getElem?_eq_some_iff.1 hs).1
    rwa [hl2] at this
   rw [List.getElem?_map, List.getElem?_range hi] at hs
   simp only [Option.map_some, Option.some.injEq] at hs
   subst hs
   have h := each i hi
   exact ⟨h.1, h.2.1, h.2.2.1, h.2.2.2.1⟩
  ·obtain ⟨i, hi, rfl⟩ := List.mem_map.1 hs
   have h := each i (List.mem_range.1 hi)
   exact h.2.2.2.2.1
theorem Ysr {H : Type} {enc : TypeId × Value → H} {w : World} {t : TypeId} (ht : Tryz.prog.underlying t = some (.slice 62)) {b0 : Nat} {v : Value} {d : DataW H} {p : List MemPlace}
  (hval : Value.okWide Tryz.prog w .any b0 t v) (h : DataW.Trod enc Tryz.prog w 0 (fun _ => true) true t v d p) : ∃ L g, Ygx w v L g := by
 obtain ⟨fuel, hf⟩ := h
 exact Ynk ht hval hf
end
end Go.Proofs.YteiplidhkelkbaaGreat
