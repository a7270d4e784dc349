/-
  Parts of the proof (their names shortened by a program). No condition.
-/
import Derived.Test.YteiplidhkelkbaaGreatMg01
import Derived.Test.YteiplidhkelkbaaGreatMg04
import Derived.Outline
import Derived.Deep.Cut
namespace Go.Proofs.YteiplidhkelkbaaGreat
open Go Go.RowKit
set_option linter.unusedVariables false
set_option linter.unusedSimpArgs false
set_option maxRecDepth 100000
set_option maxHeartbeats 16000000
def Opd.cells (o : Opd) : Array Value := #[.int .i64 o.k, .int .i64 o.r, .int .u32 o.imm, .int .i64 o.b, .int .i64 o.x, .int .u32 o.sc]
theorem Opd.size (o : Opd) : o.cells.size = 6 := rfl
theorem Opd.one (o : Opd) : o.cells.all (·.oneCell') = true := by simp [Opd.cells, Value.oneCell']
def Ins.val (i : Ins) : Value := .agg i.cells
theorem Yn5 : (Tryz.prog.info? 40).map (·.size) = some 6 := by kernel_rfl
theorem Yer : (Tryz.prog.info? 42).map (·.size) = some 16 := by kernel_rfl
theorem Ybm {tmps : Array Value} {w : World} (a : Tmp) (b : Nat) (o : Opd) (ha : tmps.getD a undef = .pointer (some ⟨b, 0, none⟩)) (hb : w.heap[b]? = some (.cells o.cells 40 (0, 0))) :
  (Yc3 tmps (.cell a 40)).run Tryz.prog w = .ok o.val w :=
 Ygv a 40 b _ _ ha hb Tryz.underlying40 rfl Yn5
theorem Yi {tmps : Array Value} {w : World} (a : Tmp) (b : Nat) (i : Ins) (ha : tmps.getD a undef = .pointer (some ⟨b, 0, none⟩)) (hb : w.heap[b]? = some (.cells i.cells 42 (0, 0))) :
  (Yc3 tmps (.cell a 42)).run Tryz.prog w = .ok i.val w :=
 Ygv a 42 b _ _ ha hb Tryz.underlying42 rfl Yer
theorem Yb {ops : Array Oper} {rest : List Oper} {op : Oper} {a : Act} {w : World} {Q : Exit → Act → World → Prop} (i : Ins) (b : Nat) (hgd : op.guard = none) (x y : Operand) (ho : op.op = .store 42 x y) (hx : a.eval x = .pointer (some ⟨b, 0, none⟩)) (hy : a.eval y = .agg i.cells)
  {c : Array Value} (hb : w.heap[b]? = some (.cells c 42 (0, 0))) (hc : c.size = 16) (h : ∀ w', w.setCells b 0 i.cells.toList = w' → wpList Tryz.prog ops Q rest (a.put op.dst undef) w') : wpList Tryz.prog ops Q (op :: rest) a w :=
 Ydk hgd 42 x y ho b 0 i.cells hx hy hb (by rw [hc, Ins.size]; exact Nat.le_refl _) (by rw [Ins.size]; exact Yer) i.one (h _ rfl)
theorem wr_ins (c : Array Value) (s : Ins) (hc : c.size = 16) : wr c 0 s.cells.toList = s.cells := by
 apply Array.ext_getElem?
 intro k
 have hl : s.cells.toList.length = 16 := rfl
 rw [Yhj _ _ _ _ (by rw [hl, hc]; exact Nat.le_refl _), hl]
 by_cases h : k < 16
 ·rw [if_pos (by omega), Nat.sub_zero, Array.getElem?_toList]
 ·rw [if_neg (by omega), Array.getElem?_eq_none (by omega), Array.getElem?_eq_none (by rw [Ins.size]; omega)]
theorem Yau {S : List Nat} {w0 w w' : World} {b : Nat} {i : Ins} {c : Array Value} (hw : w.setCells b 0 i.cells.toList = w') (hb : w.heap[b]? = some (.cells c 42 (0, 0))) (hc : c.size = 16) (hu : Upd S w0 w) (hs : b ∈ S ∨ w0.heap.size ≤ b) :
  w'.heap[b]? = some (.cells i.cells 42 (0, 0)) ∧ Upd S w0 w' := by
 subst hw
 exact ⟨by rw [Ybw _ _ _ _ hb, wr_ins c i hc], hu.setCells hs _ _⟩
theorem Ycj (r : Int) (w : World) : Calls Tryz.prog 67 #[.int .i64 r] w fun e w' => e = .returned (Yn r).val ∧ Upd [] w w' := by
 go_enter Tryz.func67, Tryz.ntmps67
 go_wp2
 exact bodyPost_ret (Yj rfl (Ybm 2 w.heap.size (Yn r) rfl (heap_alloc_new _ _))) rfl ⟨rfl, (Upd.refl _ _).alloc _⟩
theorem Yku {b : Int} (h0 : 0 ≤ b) (h1 : b ≤ 255) : Yla b = sx8 b := by
 unfold Yla sx8
 rw [show b % 256 = b by omega]
theorem Yam {L : List Int} {k k1 : Nat} {c : Int} (hL : BOk L) (h : Yz L k = .ok c k1) : 0 ≤ c ∧ c ≤ 255 ∧ k1 = k + 1 := by
 unfold Yz at h
 by_cases hk : k < L.length
 ·rw [if_pos hk] at h
  injection h with h1 h2
  subst h1
  exact ⟨(hL k).1, (hL k).2, h2.symm⟩
 ·rw [if_neg hk] at h
  cases h
theorem Yt {ops : Array Oper} {rest : List Oper} {op : Oper} {a : Act} {w : World} {Q : Exit → Act → World → Prop} (o : Opd) (b off : Nat) (hgd : op.guard = none) (x y : Operand) (ho : op.op = .store 40 x y) (hx : a.eval x = .pointer (some ⟨b, off, none⟩)) (hy : a.eval y = .agg o.cells)
  {c : Array Value} {t : TypeId} (hb : w.heap[b]? = some (.cells c t (0, 0))) (hc : off + 6 ≤ c.size) (h : ∀ w', w.setCells b off o.cells.toList = w' → wpList Tryz.prog ops Q rest (a.put op.dst undef) w') : wpList Tryz.prog ops Q (op :: rest) a w :=
 Ydk hgd 40 x y ho b off o.cells hx hy hb (by rw [Opd.size]; exact hc) (by rw [Opd.size]; exact Yn5) o.one (h _ rfl)
theorem wr_opd (c : Array Value) (o : Opd) (hc : c.size = 6) : wr c 0 o.cells.toList = o.cells := by
 apply Array.ext_getElem?
 intro k
 have hl : o.cells.toList.length = 6 := rfl
 rw [Yhj _ _ _ _ (by rw [hl, hc]; exact Nat.le_refl _), hl]
 by_cases h : k < 6
 ·rw [if_pos (by omega), Nat.sub_zero, Array.getElem?_toList]
 ·rw [if_neg (by omega), Array.getElem?_eq_none (by omega), Array.getElem?_eq_none (by rw [Opd.size]; omega)]
theorem Yc0 {w w' : World} {b : Nat} {o : Opd} {c : Array Value} (hw : w.setCells b 0 o.cells.toList = w') (hb : w.heap[b]? = some (.cells c 40 (0, 0))) (hc : c.size = 6) :
  w'.heap[b]? = some (.cells o.cells 40 (0, 0)) ∧ Upd [b] w w' := by
 subst hw
 exact ⟨by rw [Ybw _ _ _ _ hb, wr_opd c o hc], (Upd.refl [b] w).setCells (.inl (by simp)) _ _⟩
theorem Yfw {d g k k1 : Nat} {v : Value} {L : List Int} {w w2 w3 : World} {S : List Nat} (hD0 : Yd w d v L g k) (hD : Yd w2 d v L g k1) (hu : Upd [d] w w2) (u : Upd S w2 w3) (hS : ∀ x, x ∈ S → w.heap.size ≤ x) :
  Yd w3 d v L g k1 ∧ Upd [d] w w3 := by
 have hd := Yv hD0.h
 have h2 : Upd [d] w w3 := hu.also u (fun x hx => .inr (hS x hx))
 exact ⟨⟨u.get hD.h (fun hh => by have := hS _ hh; omega), hD0.b.keep h2 (by simpa using hD0.gd), hD.k, hD.n, hD.gd, hD.r, hD.c⟩, h2⟩
theorem Yct {w w2 : World} {d : Nat} {o : Obj} (hd : d < w.heap.size) (hu : Upd [d] (w.alloc o) w2) : w2.heap[w.heap.size]? = some o := hu.get (heap_alloc_new w o) (by simp; omega)
theorem Yb5 {w w2 : World} {d : Nat} {o : Obj} (hu : Upd [d] (w.alloc o) w2) : Upd [d] w w2 := ((Upd.refl [d] w).alloc o).also hu (by simp)
theorem Yfo (d g k : Nat) (v : Value) (L : List Int) (w : World) (hD : Yd w d v L g k) :
  Calls Tryz.prog 68 #[.pointer (some ⟨d, 0, none⟩)] w (Yp d v L g w (Yce L k) Opd.val) := by
 have hb := Yah d g k v L (w.alloc (.cells Opd.none.cells 40)) (hD.step ((Upd.refl [] w).alloc _))
 have HD := Yh_ hD
 have HLt := Yh_ (Yv hD.h)
 unfold Yce
 cases h : Yz L k with
 |ok c k1 =>
  obtain ⟨c0, c1, _⟩ := Yam hD.r h
  rw [h] at hb
  rw [DR.bind_ok]
  have HB := Yh_ hb
  have HR := Yh_ (And.intro c0 c1)
  have q1 : c % 4294967296 = c := by omega
  have q2 := Yku c0 c1
  clear hb hD h c0 c1
  go_enter Tryz.func68, Tryz.ntmps68
  go_wp2_with (first | (go_at_call 64; refine HB.out.mono ?_; rintro e w2 ⟨rfl, hD2, hu⟩; have H2 := Yh_ (And.intro hD2 (And.intro (Yb5 hu) (Yct HLt.out hu))); clear hD2 hu) | (go_at_call 89; refine (Yif c _ HR.out.1 (by have := HR.out; omega)).mono ?_; rintro e w3 ⟨rfl, rfl⟩; rw [q2]) | (refine Yt (Yac (sx8 c)) w.heap.size 0 rfl _ _ rfl rfl rfl H2.out.2.2 (by decide) ?_; intro w3 hw3; have H3 := Yh_ (And.intro H2.out.1 (And.intro H2.out.2.1 (Yc0 hw3 H2.out.2.2 rfl))); clear hw3 H2))
  obtain ⟨h1, h2⟩ := Yfw HD.out H3.out.1 H3.out.2.1 H3.out.2.2.2 (by simp)
  exact bodyPost_ret (Yj rfl (Ybm 2 w.heap.size _ rfl H3.out.2.2.1)) rfl ⟨rfl, h1, h2⟩
 |err c =>
  rw [h] at hb
  rw [DR.bind_err]
  have HB := Yh_ hb
  clear hb hD h
  go_enter Tryz.func68, Tryz.ntmps68
  go_wp2_with (go_at_call 64; refine HB.out.mono ?_; rintro e w2 ⟨rfl, hu⟩)
  exact ⟨rfl, rfl, Yb5 hu⟩
theorem Yd9 (d g k : Nat) (v : Value) (L : List Int) (w : World) (hD : Yd w d v L g k) :
  Calls Tryz.prog 69 #[.pointer (some ⟨d, 0, none⟩)] w (Yp d v L g w (Ybu L k) Opd.val) := by
 have hb := Yah d g k v L (w.alloc (.cells Opd.none.cells 40)) (hD.step ((Upd.refl [] w).alloc _))
 have HD := Yh_ hD
 have HLt := Yh_ (Yv hD.h)
 unfold Ybu
 cases h : Yz L k with
 |ok c k1 =>
  obtain ⟨c0, c1, _⟩ := Yam hD.r h
  rw [h] at hb
  rw [DR.bind_ok]
  have HB := Yh_ hb
  have q1 : c % 4294967296 = c := by omega
  clear hb hD h c0 c1
  go_enter Tryz.func69, Tryz.ntmps69
  go_wp2_with (first | (go_at_call 64; refine HB.out.mono ?_; rintro e w2 ⟨rfl, hD2, hu⟩; have H2 := Yh_ (And.intro hD2 (And.intro (Yb5 hu) (Yct HLt.out hu))); clear hD2 hu) | (refine Yt (Yac c) w.heap.size 0 rfl _ _ rfl rfl rfl H2.out.2.2 (by decide) ?_; intro w3 hw3; have H3 := Yh_ (And.intro H2.out.1 (And.intro H2.out.2.1 (Yc0 hw3 H2.out.2.2 rfl))); clear hw3 H2))
  obtain ⟨h1, h2⟩ := Yfw HD.out H3.out.1 H3.out.2.1 H3.out.2.2.2 (by simp)
  exact bodyPost_ret (Yj rfl (Ybm 2 w.heap.size _ rfl H3.out.2.2.1)) rfl ⟨rfl, h1, h2⟩
 |err c =>
  rw [h] at hb
  rw [DR.bind_err]
  have HB := Yh_ hb
  clear hb hD h
  go_enter Tryz.func69, Tryz.ntmps69
  go_wp2_with (go_at_call 64; refine HB.out.mono ?_; rintro e w2 ⟨rfl, hu⟩)
  exact ⟨rfl, rfl, Yb5 hu⟩
theorem Yfi (d g k : Nat) (v : Value) (L : List Int) (w : World) (hD : Yd w d v L g k) (h : k + 4 ≤ L.length) :
  Calls Tryz.prog 83 #[.pointer (some ⟨d, 0, none⟩), .int .i64 4] w fun e w' => ∃ o c, e = .returned (.slice (some ⟨g, o, none⟩) 4 c) ∧ (∀ w3, w3 = w' → Calls Tryz.prog 90 #[.slice (some ⟨g, o, none⟩) 4 c] w3 fun e w4 => e = .returned (.int .u32 (Yb0 L k)) ∧ Yd w4 d v L g (k + 4) ∧ Upd [d] w w4) := by
 refine (Ynj d g k 4 v L w hD (by decide) h).mono ?_
 rintro e w' ⟨u, rfl, ⟨o, c, rfl, hc, hcell⟩, hD2, hu⟩
 refine ⟨o, c, rfl, ?_⟩
 rintro w3 rfl
 have hg : g < w3.heap.size := by
  have h0 := hcell 0 (by decide)
  unfold World.cell? at h0
  simp only at h0
  cases hh : w3.heap[g]? with
  |none => rw [hh] at h0; cases h0
  |some o => exact Yv hh
 refine (Word_any g o c (fun i => L.getD (k + i) 0) w3 hcell (fun i => hD.r (k + i)) hg).mono ?_
 rintro e w4 ⟨rfl, hu4⟩
 exact ⟨rfl, hD2.step hu4, hu.also hu4 (by simp)⟩
theorem Yb4 (d g k : Nat) (v : Value) (L : List Int) (w : World) (hD : Yd w d v L g k) :
  Calls Tryz.prog 70 #[.pointer (some ⟨d, 0, none⟩)] w (Yp d v L g w (Yas L k) Opd.val) := by
 have HD := Yh_ hD
 have HLt := Yh_ (Yv hD.h)
 unfold Yas Ycl
 by_cases h : k + 4 ≤ L.length
 ·have HB := Yh_ (Yfi d g k v L (w.alloc (.cells Opd.none.cells 40)) (hD.step ((Upd.refl [] w).alloc _)) h)
  rw [if_pos h, DR.bind_ok]
  clear hD h
  go_enter Tryz.func70, Tryz.ntmps70
  go_wp2_with (first | (go_at_call 83; refine HB.out.mono ?_; rintro e w2 ⟨o, c, rfl, hw⟩; have HW := Yh_ (hw _ rfl); clear hw) | (go_at_call 90; refine HW.out.mono ?_; rintro e w2 ⟨rfl, hD2, hu⟩; have H2 := Yh_ (And.intro hD2 (And.intro (Yb5 hu) (Yct HLt.out hu))); clear hD2 hu) | (refine Yt (Yac (Yb0 L k)) w.heap.size 0 rfl _ _ rfl rfl rfl H2.out.2.2 (by decide) ?_; intro w3 hw3; have H3 := Yh_ (And.intro H2.out.1 (And.intro H2.out.2.1 (Yc0 hw3 H2.out.2.2 rfl))); clear hw3 H2))
  obtain ⟨h1, h2⟩ := Yfw HD.out H3.out.1 H3.out.2.1 H3.out.2.2.2 (by simp)
  exact bodyPost_ret (Yj rfl (Ybm 2 w.heap.size _ rfl H3.out.2.2.1)) rfl ⟨rfl, h1, h2⟩
 ·have HB := Yh_ (Ygc d g k 4 v L (w.alloc (.cells Opd.none.cells 40)) (hD.step ((Upd.refl [] w).alloc _)) (by decide) (by omega))
  rw [if_neg h, DR.bind_err]
  clear hD h
  go_enter Tryz.func70, Tryz.ntmps70
  go_wp2_with (go_at_call 83; refine HB.out.mono ?_; rintro e w2 ⟨rfl, hu⟩)
  exact ⟨rfl, rfl, Yb5 hu⟩
theorem wr_all (c cs : Array Value) (h : c.size = cs.size) : wr c 0 cs.toList = cs := by
 apply Array.ext_getElem?
 intro k
 have hl : cs.toList.length = cs.size := Array.length_toList
 rw [Yhj _ _ _ _ (by rw [hl, h]; omega), hl]
 by_cases hk : k < cs.size
 ·rw [if_pos (by omega), Nat.sub_zero, Array.getElem?_toList]
 ·rw [if_neg (by omega), Array.getElem?_eq_none (by omega), Array.getElem?_eq_none (by omega)]
theorem Yj1 {P : Program} {ops : Array Oper} {rest : List Oper} {op : Oper} {a : Act} {w : World} {Q : Exit → Act → World → Prop} (hgd : op.guard = none) (ty : TypeId) (x y : Operand) (ho : op.op = .store ty x y)
  (b o : Nat) (cs : Array Value) (hx : a.eval x = .pointer (some ⟨b, o, none⟩)) (hy : a.eval y = .agg cs)
  {c : Array Value} {t : TypeId} (hb : w.heap[b]? = some (.cells c t (0, 0))) (hn : o + cs.size ≤ c.size) (hi : (P.info? ty).map (·.size) = some cs.size) (h1 : cs.all (·.oneCell') = true)
  (h : ∀ w', w.setCells b o cs.toList = w' → wpList P ops Q rest (a.put op.dst undef) w') : wpList P ops Q (op :: rest) a w :=
 Ydk hgd ty x y ho b o cs hx hy hb hn hi h1 (h _ rfl)
theorem arr_new {w w' : World} {b : Nat} {cs c : Array Value} {t : TypeId} (hw : w.setCells b 0 cs.toList = w') (hb : w.heap[b]? = some (.cells c t (0, 0))) (hc : c.size = cs.size) :
  w'.heap[b]? = some (.cells cs t (0, 0)) ∧ Upd [b] w w' := by
 subst hw
 exact ⟨by rw [Ybw _ _ _ _ hb, wr_all c cs hc], (Upd.refl [b] w).setCells (.inl (by simp)) _ _⟩
theorem Mrm.one (m : Mrm) : m.cells.all (·.oneCell') = true := by simp [Mrm.cells, Value.oneCell']
theorem Ynt : (Tryz.prog.info? 133).map (·.size) = some 3 := by kernel_rfl
theorem res_mrm {tmps : Array Value} {w : World} (a : Tmp) (b : Nat) (m : Mrm) (ha : tmps.getD a undef = .pointer (some ⟨b, 0, none⟩)) (hb : w.heap[b]? = some (.cells m.cells 133 (0, 0))) :
  (Yc3 tmps (.cell a 133)).run Tryz.prog w = .ok (.agg m.cells) w :=
 Ygv a 133 b _ _ ha hb Tryz.underlying133 rfl Ynt
theorem Ysn (c a n : Int) (b : Nat) (w : World) (h0 : 0 ≤ c) (h1 : c < 4294967296) (ha : 0 ≤ a ∧ a < 32) (hn : 0 ≤ n ∧ n ≤ 8) (hx : w.cell? ⟨b, 0, none⟩ = some (.int .u32 c)) :
  Calls Tryz.prog 96 #[.int .i64 a, .int .i64 n, .pointer (some ⟨b, 0, none⟩)] w fun e w' => e = .returned (.int .i64 (c / 2 ^ a.toNat % 2 ^ n.toNat)) ∧ w = w' := by
 obtain ⟨a, rfl⟩ := Int.eq_ofNat_of_zero_le ha.1
 obtain ⟨n, rfl⟩ := Int.eq_ofNat_of_zero_le hn.1
 rw [Int.toNat_natCast, Int.toNat_natCast]
 have ha : a < 32 := by omega
 have hn : n ≤ 8 := by omega
 have hp : (0 : Int) < 2 ^ n := Int.pow_pos (by decide)
 have hq : (2 : Int) ^ n ≤ 256 := by
  have : (2 : Nat) ^ n ≤ 2 ^ 8 := Nat.pow_le_pow_right (by decide) hn
  have h2 : ((2 : Int) ^ n) = ((2 ^ n : Nat) : Int) := by push_cast; rfl
  rw [h2]; omega
 obtain ⟨z, hz⟩ : ∃ z : Int, c / 2 ^ a % 2 ^ n = z := ⟨_, rfl⟩
 have hz0 : 0 ≤ z := by rw [← hz]; exact Int.emod_nonneg _ (by omega)
 have hz1 : z < 256 := by rw [← hz]; have := Int.emod_lt_of_pos (c / 2 ^ a) hp; omega
 have HZ := Yh_ hz
 have HC := Yh_ (And.intro h0 (And.intro h1 (And.intro ha hn)))
 have e1 : wrap64 z = z := by unfold wrap64; omega
 clear hp hq h0 h1 ha hn hz
 go_enter Tryz.func96, Tryz.ntmps96
 go_wp2_with (go_at_call 84; refine (Ymb c a n _ HC.out.1 HC.out.2.1 HC.out.2.2.1 (by have := HC.out.2.2.2; omega)).mono ?_; rintro e w' ⟨rfl, rfl⟩; rw [HZ.out])
 go_ret
 exact ⟨Yk4 (congrArg (Value.int .i64) (by first | rfl | exact HZ.out.symm)), rfl⟩
theorem Yad (d g k : Nat) (v : Value) (L : List Int) (w : World) (hD : Yd w d v L g k) :
  Calls Tryz.prog 86 #[.pointer (some ⟨d, 0, none⟩)] w (Yp d v L g w (Yai L k) fun m => .agg m.cells) := by
 have hb := Yah d g k v L (w.alloc (.cells #[.int .i64 0, .int .i64 0, .int .i64 0] 133)) (hD.step ((Upd.refl [] w).alloc _))
 have HD := Yh_ hD
 have HLt := Yh_ (Yv hD.h)
 unfold Yai
 cases h : Yz L k with
 |ok c k1 =>
  obtain ⟨c0, c1, _⟩ := Yam hD.r h
  rw [h] at hb
  rw [DR.bind_ok]
  have HB := Yh_ hb
  have q1 : c % 4294967296 = c := by omega
  have HM := Yh_ (show c / 2 ^ (6 : Int).toNat % 2 ^ (2 : Int).toNat = (Ycm c).mod ∧ c / 2 ^ (3 : Int).toNat % 2 ^ (3 : Int).toNat = (Ycm c).reg ∧ c / 2 ^ (0 : Int).toNat % 2 ^ (3 : Int).toNat = (Ycm c).rm by
   simp only [Ycm]
   refine ⟨?_, ?_, ?_⟩
   ·show c / 64 % 4 = c / 64; omega
   ·show c / 8 % 8 = c / 8 % 8; rfl
   ·show c / 1 % 8 = c % 8; omega)
  have HC := Yh_ (And.intro c0 c1)
  clear hb hD h c0 c1
  go_enter Tryz.func86, Tryz.ntmps86
  go_wp2_with (first | (go_at_call 64; refine HB.out.mono ?_; rintro e w2 ⟨rfl, hD2, hu⟩; have H2 := Yh_ (And.intro hD2 (And.intro (Yb5 hu) (Yct HLt.out hu))); clear hD2 hu; have hx := Ya (heap_alloc_new w2 (.cells #[.int .u32 c] 23)) 0) | (go_at_call 96; refine (Ysn c _ _ w2.heap.size _ HC.out.1 (by have := HC.out; omega) (by decide) (by decide) hx).mono ?_; rintro e w3 ⟨rfl, rfl⟩; first | rw [HM.out.1] | rw [HM.out.2.1] | rw [HM.out.2.2]) | (refine Ye 133 rfl ?_; refine Yj1 rfl 133 _ _ rfl w.heap.size 0 (Ycm c).cells rfl rfl (Yc _ H2.out.2.2) (by simp [Mrm.cells]) Ynt (Mrm.one _) ?_; intro w3 hw3; have H3 := Yh_ (And.intro H2.out.1 (And.intro H2.out.2.1 (arr_new hw3 (Yc _ H2.out.2.2) rfl))); clear hw3 H2))
  obtain ⟨h1, h2⟩ := Yfw HD.out H3.out.1 H3.out.2.1 (((Upd.refl [w.heap.size] w2).alloc _).also H3.out.2.2.2 (by simp)) (by simp)
  exact bodyPost_ret (Yj rfl (res_mrm 2 w.heap.size _ rfl H3.out.2.2.1)) rfl ⟨rfl, h1, h2⟩
 |err c =>
  rw [h] at hb
  rw [DR.bind_err]
  have HB := Yh_ hb
  clear hb hD h
  go_enter Tryz.func86, Tryz.ntmps86
  go_wp2_with (go_at_call 64; refine HB.out.mono ?_; rintro e w2 ⟨rfl, hu⟩)
  exact ⟨rfl, rfl, Yb5 hu⟩
theorem Yhz {n : Int} (h0 : 0 ≤ n) (h1 : n < 8) : n = 0 ∨ n = 1 ∨ n = 2 ∨ n = 3 ∨ n = 4 ∨ n = 5 ∨ n = 6 ∨ n = 7 := by omega
theorem Yig {n : Int} (h0 : 0 ≤ n) (h1 : n < 8) (w : World) : (Instr.index 113 (.agg #[.int .i64 3, .int .i64 4, .int .i64 5, .int .i64 6, .int .i64 7, .int .i64 8, .int .i64 9, .int .i64 10]) (.int .i64 n)).run Tryz.prog w = .ok (.int .i64 (Yag n)) w := by
 rcases Yhz h0 h1 with rfl | rfl | rfl | rfl | rfl | rfl | rfl | rfl <;> kernel_rfl
theorem Yc8 (n : Int) (w : World) (h0 : 0 ≤ n) (h1 : n < 8) : Calls Tryz.prog 88 #[.int .i64 n] w fun e w' => e = .returned (.int .i64 (Yag n)) ∧ w = w' := by
 have hx := Yig h0 h1 w
 clear h0 h1
 go_enter Tryz.func88, Tryz.ntmps88
 go_wp2
 go_ret
 exact ⟨rfl, rfl⟩
theorem Ydf {n : Int} (h0 : 0 ≤ n) (h1 : n < 8) (w : World) : (Instr.index 113 (.agg #[.int .i64 21, .int .i64 22, .int .i64 0, .int .i64 0, .int .i64 23, .int .i64 24, .int .i64 0, .int .i64 25]) (.int .i64 n)).run Tryz.prog w = .ok (.int .i64 (Yaa n)) w := by
 rcases Yhz h0 h1 with rfl | rfl | rfl | rfl | rfl | rfl | rfl | rfl <;> kernel_rfl
theorem Yfx (n : Int) (w : World) (h0 : 0 ≤ n) (h1 : n < 8) : Calls Tryz.prog 104 #[.int .i64 n] w fun e w' => e = .returned (.int .i64 (Yaa n)) ∧ w = w' := by
 have hx := Ydf h0 h1 w
 clear h0 h1
 go_enter Tryz.func104, Tryz.ntmps104
 go_wp2
 go_ret
 exact ⟨rfl, rfl⟩
theorem Yol {n : Int} (h0 : 0 ≤ n) (h1 : n < 8) (w : World) : (Instr.index 113 (.agg #[.int .i64 0, .int .i64 0, .int .i64 14, .int .i64 15, .int .i64 16, .int .i64 17, .int .i64 19, .int .i64 20]) (.int .i64 n)).run Tryz.prog w = .ok (.int .i64 (Ybd n)) w := by
 rcases Yhz h0 h1 with rfl | rfl | rfl | rfl | rfl | rfl | rfl | rfl <;> kernel_rfl
theorem Yfu (n : Int) (w : World) (h0 : 0 ≤ n) (h1 : n < 8) : Calls Tryz.prog 106 #[.int .i64 n] w fun e w' => e = .returned (.int .i64 (Ybd n)) ∧ w = w' := by
 have hx := Yol h0 h1 w
 clear h0 h1
 go_enter Tryz.func106, Tryz.ntmps106
 go_wp2
 go_ret
 exact ⟨rfl, rfl⟩
theorem Ydq {n : Int} (h0 : 0 ≤ n) (h1 : n < 8) (w : World) : (Instr.index 113 (.agg #[.int .i64 47, .int .i64 48, .int .i64 53, .int .i64 0, .int .i64 49, .int .i64 0, .int .i64 50, .int .i64 0]) (.int .i64 n)).run Tryz.prog w = .ok (.int .i64 (Yar n)) w := by
 rcases Yhz h0 h1 with rfl | rfl | rfl | rfl | rfl | rfl | rfl | rfl <;> kernel_rfl
theorem Ydu (n : Int) (w : World) (h0 : 0 ≤ n) (h1 : n < 8) : Calls Tryz.prog 105 #[.int .i64 n] w fun e w' => e = .returned (.int .i64 (Yar n)) ∧ w = w' := by
 have hx := Ydq h0 h1 w
 clear h0 h1
 go_enter Tryz.func105, Tryz.ntmps105
 go_wp2
 go_ret
 exact ⟨rfl, rfl⟩
theorem Yib {n : Int} (h0 : 0 ≤ n) (h1 : n < 8) (w : World) : (Instr.index 113 (.agg #[.int .i64 45, .int .i64 0, .int .i64 0, .int .i64 46, .int .i64 0, .int .i64 0, .int .i64 0, .int .i64 0]) (.int .i64 n)).run Tryz.prog w = .ok (.int .i64 (Yf7 n)) w := by
 rcases Yhz h0 h1 with rfl | rfl | rfl | rfl | rfl | rfl | rfl | rfl <;> kernel_rfl
theorem Yhn {n : Int} (h0 : 0 ≤ n) (h1 : n < 8) (w : World) : (Instr.index 113 (.agg #[.int .i64 12, .int .i64 13, .int .i64 30, .int .i64 0, .int .i64 32, .int .i64 0, .int .i64 28, .int .i64 0]) (.int .i64 n)).run Tryz.prog w = .ok (.int .i64 (Ycn n)) w := by
 rcases Yhz h0 h1 with rfl | rfl | rfl | rfl | rfl | rfl | rfl | rfl <;> kernel_rfl
theorem Yex (n : Int) (w : World) : Calls Tryz.prog 98 #[.int .i64 n] w fun e w' => e = .returned (Yaj n).val ∧ Upd [] w w' := by
 have hz := heap_alloc_new w (.cells Ins.zero.cells 42)
 have HZ := Yh_ hz
 clear hz
 go_enter Tryz.func98, Tryz.ntmps98
 go_wp2_with (refine Ye 42 rfl ?_; refine Yb (Yaj n) w.heap.size rfl _ _ rfl rfl rfl HZ.out rfl ?_; intro w2 hw; obtain ⟨h1, h2⟩ := Yau (w0 := w) (S := []) hw HZ.out rfl ((Upd.refl [] w).alloc _) (.inr (Nat.le_refl _)))
 exact bodyPost_ret (Yj rfl (Yi 2 w.heap.size _ rfl h1)) rfl ⟨rfl, h2⟩
section
theorem Yco (x a n : Int) (w : World) (h0 : 0 ≤ x) (h1 : x < 4294967296) (ha : 0 ≤ a ∧ a < 32) (hn : 0 ≤ n ∧ n ≤ 32) :
  Calls Tryz.prog 84 #[.int .u32 x, .int .i64 a, .int .i64 n] w fun e w' => e = .returned (.int .u32 (x / 2 ^ a.toNat % 2 ^ n.toNat)) ∧ w = w' := by
 obtain ⟨a, rfl⟩ := Int.eq_ofNat_of_zero_le ha.1
 obtain ⟨n, rfl⟩ := Int.eq_ofNat_of_zero_le hn.1
 exact Ymb x a n w h0 h1 (by omega) (by omega)
structure Mrm.Ok (m : Mrm) : Prop where
 mod : 0 ≤ m.mod ∧ m.mod ≤ 3
 reg : 0 ≤ m.reg ∧ m.reg < 8
 rm : 0 ≤ m.rm ∧ m.rm < 8
theorem mrmOf_ok {c : Int} (h0 : 0 ≤ c) (h1 : c ≤ 255) : (Ycm c).Ok := ⟨by simp only [Ycm]; omega, by simp only [Ycm]; omega, by simp only [Ycm]; omega⟩
theorem Yay {L : List Int} {k k1 : Nat} {m : Mrm} (hL : BOk L) (h : Yai L k = .ok m k1) : m.Ok := by
 unfold Yai at h
 cases hb : Yz L k with
 |err c => rw [hb] at h; cases h
 |ok c k2 =>
  rw [hb, DR.bind_ok] at h
  injection h with h1 h2
  subst h1
  obtain ⟨c0, c1, _⟩ := Yam hL hb
  exact mrmOf_ok c0 c1
structure PlS (w : World) (d : Nat) (v : Value) (L : List Int) (g k : Nat) (m : Mrm) (o : Opd) (w2 : World) : Prop where
 dd : Yd w2 d v L g k
 uu : Upd [d] w w2
 mm : w2.heap[w.heap.size]? = some (.cells m.cells 133 (0, 0))
 rr : w2.heap[w.heap.size + 1]? = some (.cells Opd.none.cells 40 (0, 0))
 oo : w2.heap[w.heap.size + 1 + 1]? = some (.cells o.cells 40 (0, 0))
 nn : d < w.heap.size
theorem PlS.start {w : World} {d : Nat} {v : Value} {L : List Int} {g k : Nat} (h : Yd w d v L g k) (m : Mrm) (o : Opd) :
  PlS w d v L g k m o (((w.alloc (.cells m.cells 133)).alloc (.cells Opd.none.cells 40)).alloc (.cells o.cells 40)) := by
 have u : Upd [] w (((w.alloc (.cells m.cells 133)).alloc (.cells Opd.none.cells 40)).alloc (.cells o.cells 40)) := (((Upd.refl [] w).alloc _).alloc _).alloc _
 refine ⟨h.step u, u.mono (by simp), Yc _ (Yc _ (heap_alloc_new _ _)), Yc _ (heap_alloc2_new _ _ _), ?_, Yv h.h⟩
 have := heap_alloc2_new (w.alloc (.cells m.cells 133)) (.cells Opd.none.cells 40) (.cells o.cells 40)
 simpa using this
section
variable {w w2 w3 : World} {d : Nat} {v : Value} {L : List Int} {g k k' : Nat} {m : Mrm} {o o' : Opd}
theorem PlS.step (h : PlS w d v L g k m o w2) (hd : Yd w3 d v L g k') (u : Upd [d] w2 w3) : PlS w d v L g k' m o w3 := by
 have hn := h.nn
 exact ⟨hd, h.uu.also u (by simp), u.get h.mm (by simp; omega), u.get h.rr (by simp; omega), u.get h.oo (by simp; omega), hn⟩
theorem PlS.set (h : PlS w d v L g k m o w2) (hD0 : Yd w d v L g k') (j : Nat) (x : Value) (ho : o.cells.setIfInBounds j x = o'.cells) : PlS w d v L g k m o' (w2.setCell ⟨w.heap.size + 1 + 1, j, none⟩ x) := by
 have hn := h.nn
 have u : Upd [w.heap.size + 1 + 1] w2 (w2.setCell ⟨w.heap.size + 1 + 1, j, none⟩ x) := (Upd.refl _ w2).setCell (by simp) _
 obtain ⟨h1, h2⟩ := Yfw hD0 h.dd h.uu u (by simp; omega)
 have ho' := Ys h.oo j x
 rw [ho] at ho'
 exact ⟨h1, h2, u.get h.mm (by simp; omega), u.get h.rr (by simp), ho', hn⟩
theorem PlS.fin (h : PlS w d v L g k m o w2) (hD0 : Yd w d v L g k') (u : Upd [w.heap.size + 1] w2 w3) : Yd w3 d v L g k ∧ Upd [d] w w3 :=
 Yfw hD0 h.dd h.uu u (by simp)
end
theorem Ytn (d g k : Nat) (v : Value) (L : List Int) (m : Mrm) (w : World) (hD : Yd w d v L g k) (hok : m.Ok) (h3 : m.mod = 3) :
  Calls Tryz.prog 95 #[.pointer (some ⟨d, 0, none⟩), .agg m.cells] w (Yp d v L g w (.ok (Yn m.rm) k) Opd.val) := by
 have e3 : (m.mod == 3) = true := by simpa using h3
 have HD := Yh_ hD
 have HLt := Yh_ (Yv hD.h)
 have HZ := Yh_ (show ((w.alloc (.cells m.cells 133)).alloc (.cells Opd.none.cells 40)).heap[w.heap.size + 1]? = some (.cells Opd.none.cells 40 (0, 0)) from heap_alloc2_new _ _ _)
 clear hD hok h3
 have cm := Ya (Yc (.cells Opd.none.cells 40) (heap_alloc_new w (.cells m.cells 133)))
 unfold Mrm.cells at cm
 unfold Mrm.cells
 go_enter Tryz.func95, Tryz.ntmps95
 go_wp2_with (first | (go_at_call 67; refine (Ycj m.rm _).mono ?_; rintro e w2 ⟨rfl, hu⟩; have H2 := Yh_ (And.intro hu (hu.get HZ.out (by simp))); clear hu) | (refine Ye 40 rfl ?_; refine Yt (Yn m.rm) (w.heap.size + 1) 0 rfl _ _ rfl rfl rfl H2.out.2 (by decide) ?_; intro w3 hw3; have H3 := Yh_ (And.intro H2.out.1 (Yc0 hw3 H2.out.2 rfl)); clear hw3 H2))
 have u : Upd [] w w2 := (((Upd.refl [] w).alloc _).alloc _).also H3.out.1 (by simp)
 obtain ⟨h1, h2⟩ := Yfw HD.out (HD.out.step u) (u.mono (by simp)) H3.out.2.2 (by simp)
 exact bodyPost_ret (Yj rfl (Ybm 4 (w.heap.size + 1) _ rfl H3.out.2.1)) rfl ⟨rfl, h1, h2⟩
theorem place_rm (d g k : Nat) (v : Value) (L : List Int) (m : Mrm) (w : World) (hD : Yd w d v L g k) (hok : m.Ok) (h3 : m.mod ≠ 3) (h4 : m.rm ≠ 4) :
  Calls Tryz.prog 95 #[.pointer (some ⟨d, 0, none⟩), .agg m.cells] w (Yp d v L g w (Yak L m.mod m.rm (-1) 1 k) Opd.val) := by
 have e3 : (m.mod == 3) = false := by simpa using h3
 have e4 : (m.rm == 4) = false := by simpa using h4
 have HD := Yh_ hD
 have S := Yh_ (PlS.start hD m ⟨3, 0, 0, m.rm, -1, 1⟩)
 clear hD hok h3 h4
 unfold Mrm.cells
 go_enter Tryz.func95, Tryz.ntmps95
 go_upto_region 12 with fail
 by_cases hm1 : m.mod = 1
 ·have e1 : (m.mod == 1) = true := by simpa using hm1
  have hb := Yah d g k v L _ S.out.dd
  cases h : Yz L k with
  |err c =>
   have HT := Yh_ (show Yak L m.mod m.rm (-1) 1 k = .err c by rw [Yak, if_pos hm1, h]; rfl)
   rw [h] at hb
   have HB := Yh_ hb
   clear hb h hm1
   have cm := Ya S.out.mm; unfold Mrm.cells at cm; have co := Ya S.out.oo; unfold Opd.cells at co; have fo := Yh S.out.oo
   go_wp2_with (go_at_call 64; refine HB.out.mono ?_; rintro e w8 ⟨rfl, hu⟩)
   refine ⟨rfl, ?_⟩
   show Yp d v L g w (Yak L m.mod m.rm (-1) 1 k) Opd.val _ _; rw [HT.out]
   exact ⟨rfl, S.out.uu.also hu (by simp)⟩
  |ok c k1 =>
   obtain ⟨c0, c1, hk0⟩ := Yam S.out.dd.r h
   clear hk0
   have HT := Yh_ (show Yak L m.mod m.rm (-1) 1 k = .ok ⟨3, 0, sx8 c, m.rm, (-1), 1⟩ k1 by rw [Yak, if_pos hm1, h]; rfl)
   rw [h] at hb
   have HB := Yh_ hb
   have HR := Yh_ (And.intro c0 c1)
   have q1 : c % 4294967296 = c := by omega
   have q2 := Yku c0 c1
   clear hb h c0 c1 hm1
   have cm := Ya S.out.mm; unfold Mrm.cells at cm; have co := Ya S.out.oo; unfold Opd.cells at co; have fo := Yh S.out.oo
   go_upto_region 19 with (first | (go_at_call 64; refine HB.out.mono ?_; rintro e w8 ⟨rfl, hD8, hu⟩; have S8 := Yh_ (S.out.step hD8 hu); clear hD8 hu co fo; have co := Ya S8.out.oo; unfold Opd.cells at co; have fo := Yh S8.out.oo) | (go_at_call 89; refine (Yif c _ HR.out.1 (by have := HR.out; omega)).mono ?_; rintro e w9 ⟨rfl, rfl⟩; rw [q2]))
   have S9 := Yh_ (S8.out.set (o' := ⟨3, 0, sx8 c, m.rm, (-1), 1⟩) HD.out 2 (.int .u32 (sx8 c)) rfl)
   clear S8 co fo
   have co := Ya S9.out.oo
   unfold Opd.cells at co
   go_wp2_with (refine Ye 40 rfl ?_; refine Yt ⟨3, 0, sx8 c, m.rm, (-1), 1⟩ (w.heap.size + 1) 0 rfl _ _ rfl rfl rfl S9.out.rr (by decide) ?_; intro w9 hw9; have H9 := Yh_ (And.intro S9 (Yc0 hw9 S9.out.rr rfl)); clear hw9)
   obtain ⟨q1, q2⟩ := H9.out.1.out.fin HD.out H9.out.2.2
   exact bodyPost_ret (Yj rfl (Ybm 4 (w.heap.size + 1) _ rfl H9.out.2.1)) rfl (by show Yp d v L g w (Yak L m.mod m.rm (-1) 1 k) Opd.val _ _; rw [HT.out]; exact ⟨rfl, q1, q2⟩)
 ·have e1 : (m.mod == 1) = false := by simpa using hm1
  by_cases hm2 : m.mod = 2
  ·have e2 : (m.mod == 2) = true := by simpa using hm2
   have cm := Ya S.out.mm; unfold Mrm.cells at cm; have co := Ya S.out.oo; unfold Opd.cells at co; have fo := Yh S.out.oo
   by_cases h : k + 4 ≤ L.length
   ·have HB := Yh_ (Yfi d g k v L _ S.out.dd h)
    have HT := Yh_ (show Yak L m.mod m.rm (-1) 1 k = .ok ⟨3, 0, Yb0 L k, m.rm, (-1), 1⟩ (k + 4) by rw [Yak, if_neg hm1, if_pos hm2, Ycl, if_pos h]; rfl)
    clear h hm1 hm2
    go_upto_region 19 with (first | (go_at_call 83; refine HB.out.mono ?_; rintro e w7 ⟨o7, c7, rfl, hw⟩; have HW := Yh_ (hw _ rfl); clear hw) | (go_at_call 90; refine HW.out.mono ?_; rintro e w8 ⟨rfl, hD8, hu⟩; have S8 := Yh_ (S.out.step hD8 hu); clear hD8 hu co fo; have co := Ya S8.out.oo; unfold Opd.cells at co; have fo := Yh S8.out.oo))
    have S9 := Yh_ (S8.out.set (o' := ⟨3, 0, Yb0 L k, m.rm, (-1), 1⟩) HD.out 2 (.int .u32 (Yb0 L k)) rfl)
    clear S8 co fo
    have co := Ya S9.out.oo
    unfold Opd.cells at co
    go_wp2_with (refine Ye 40 rfl ?_; refine Yt ⟨3, 0, Yb0 L k, m.rm, (-1), 1⟩ (w.heap.size + 1) 0 rfl _ _ rfl rfl rfl S9.out.rr (by decide) ?_; intro w9 hw9; have H9 := Yh_ (And.intro S9 (Yc0 hw9 S9.out.rr rfl)); clear hw9)
    obtain ⟨q1, q2⟩ := H9.out.1.out.fin HD.out H9.out.2.2
    exact bodyPost_ret (Yj rfl (Ybm 4 (w.heap.size + 1) _ rfl H9.out.2.1)) rfl (by show Yp d v L g w (Yak L m.mod m.rm (-1) 1 k) Opd.val _ _; rw [HT.out]; exact ⟨rfl, q1, q2⟩)
   ·have HB := Yh_ (Ygc d g k 4 v L _ S.out.dd (by decide) (by omega))
    have HT := Yh_ (show Yak L m.mod m.rm (-1) 1 k = .err 10 by rw [Yak, if_neg hm1, if_pos hm2, Ycl, if_neg h]; rfl)
    clear h hm1 hm2
    go_wp2_with (go_at_call 83; refine HB.out.mono ?_; rintro e w8 ⟨rfl, hu⟩)
    refine ⟨rfl, ?_⟩
    show Yp d v L g w (Yak L m.mod m.rm (-1) 1 k) Opd.val _ _; rw [HT.out]
    exact ⟨rfl, S.out.uu.also hu (by simp)⟩
  ·have e2 : (m.mod == 2) = false := by simpa using hm2
   by_cases hm5 : m.rm = 5
   ·have e5 : (m.rm == 5) = true := by simpa using hm5
    have HM := Yh_ (And.intro hm1 (And.intro hm2 hm5))
    clear hm1 hm2 hm5
    have cm := Ya S.out.mm; unfold Mrm.cells at cm; have co := Ya S.out.oo; unfold Opd.cells at co; have fo := Yh S.out.oo
    go_upto_region 18 with fail
    have S6 := Yh_ (PlS.start HD.out m ⟨3, 0, 0, -1, (-1), 1⟩)
    clear co fo
    have co := Ya S6.out.oo
    unfold Opd.cells at co
    have fo := Yh S6.out.oo
    by_cases h : k + 4 ≤ L.length
    ·have HB := Yh_ (Yfi d g k v L _ S6.out.dd h)
     have HT := Yh_ (show Yak L m.mod m.rm (-1) 1 k = .ok ⟨3, 0, Yb0 L k, -1, (-1), 1⟩ (k + 4) by rw [Yak, if_neg HM.out.1, if_neg HM.out.2.1, if_pos HM.out.2.2, Ycl, if_pos h]; rfl)
     clear h 
     go_upto_region 19 with (first | (go_at_call 83; refine HB.out.mono ?_; rintro e w7 ⟨o7, c7, rfl, hw⟩; have HW := Yh_ (hw _ rfl); clear hw) | (go_at_call 90; refine HW.out.mono ?_; rintro e w8 ⟨rfl, hD8, hu⟩; have S8 := Yh_ (S6.out.step hD8 hu); clear hD8 hu co fo; have co := Ya S8.out.oo; unfold Opd.cells at co; have fo := Yh S8.out.oo))
     have S9 := Yh_ (S8.out.set (o' := ⟨3, 0, Yb0 L k, -1, (-1), 1⟩) HD.out 2 (.int .u32 (Yb0 L k)) rfl)
     clear S8 co fo
     have co := Ya S9.out.oo
     unfold Opd.cells at co
     go_wp2_with (refine Ye 40 rfl ?_; refine Yt ⟨3, 0, Yb0 L k, -1, (-1), 1⟩ (w.heap.size + 1) 0 rfl _ _ rfl rfl rfl S9.out.rr (by decide) ?_; intro w9 hw9; have H9 := Yh_ (And.intro S9 (Yc0 hw9 S9.out.rr rfl)); clear hw9)
     obtain ⟨q1, q2⟩ := H9.out.1.out.fin HD.out H9.out.2.2
     exact bodyPost_ret (Yj rfl (Ybm 4 (w.heap.size + 1) _ rfl H9.out.2.1)) rfl (by show Yp d v L g w (Yak L m.mod m.rm (-1) 1 k) Opd.val _ _; rw [HT.out]; exact ⟨rfl, q1, q2⟩)
    ·have HB := Yh_ (Ygc d g k 4 v L _ S6.out.dd (by decide) (by omega))
     have HT := Yh_ (show Yak L m.mod m.rm (-1) 1 k = .err 10 by rw [Yak, if_neg HM.out.1, if_neg HM.out.2.1, if_pos HM.out.2.2, Ycl, if_neg h]; rfl)
     clear h 
     go_wp2_with (go_at_call 83; refine HB.out.mono ?_; rintro e w8 ⟨rfl, hu⟩)
     refine ⟨rfl, ?_⟩
     show Yp d v L g w (Yak L m.mod m.rm (-1) 1 k) Opd.val _ _; rw [HT.out]
     exact ⟨rfl, S6.out.uu.also hu (by simp)⟩
   ·have e5 : (m.rm == 5) = false := by simpa using hm5
    have HT := Yh_ (show Yak L m.mod m.rm (-1) 1 k = .ok ⟨3, 0, 0, m.rm, (-1), 1⟩ k by rw [Yak, if_neg hm1, if_neg hm2, if_neg hm5])
    clear hm1 hm2 hm5
    have cm := Ya S.out.mm; unfold Mrm.cells at cm; have co := Ya S.out.oo; unfold Opd.cells at co; have fo := Yh S.out.oo
    go_wp2_with (refine Ye 40 rfl ?_; refine Yt ⟨3, 0, 0, m.rm, (-1), 1⟩ (w.heap.size + 1) 0 rfl _ _ rfl rfl rfl S.out.rr (by decide) ?_; intro w9 hw9; have H9 := Yh_ (And.intro S (Yc0 hw9 S.out.rr rfl)); clear hw9)
    obtain ⟨q1, q2⟩ := H9.out.1.out.fin HD.out H9.out.2.2
    exact bodyPost_ret (Yj rfl (Ybm 4 (w.heap.size + 1) _ rfl H9.out.2.1)) rfl (by show Yp d v L g w (Yak L m.mod m.rm (-1) 1 k) Opd.val _ _; rw [HT.out]; exact ⟨rfl, q1, q2⟩)
theorem Ytg (d g k : Nat) (v : Value) (L : List Int) (m : Mrm) (w : World) (hD : Yd w d v L g k) (hok : m.Ok) (h3 : m.mod ≠ 3) (h4 : m.rm = 4) (c : Int) (k0 : Nat) (hb : Yz L k = .ok c k0) (hx : c / 8 % 8 ≠ 4) :
  Calls Tryz.prog 95 #[.pointer (some ⟨d, 0, none⟩), .agg m.cells] w (Yp d v L g w (Yak L m.mod (c % 8) (c / 8 % 8) (2 ^ (c / 64).toNat) k0) Opd.val) := by
 have e3 : (m.mod == 3) = false := by simpa using h3
 have e4 : (m.rm == 4) = true := by simpa using h4
 have HD := Yh_ hD
 have S0 := Yh_ (PlS.start hD m ⟨3, 0, 0, m.rm, -1, 1⟩)
 obtain ⟨c0, c1, hk0⟩ := Yam hD.r hb
 clear hk0
 have h := Yah d g k v L _ S0.out.dd
 rw [hb] at h
 have HB := Yh_ h
 obtain ⟨z, hz, hz3⟩ : ∃ z : Nat, c / 64 = z ∧ z < 4 := ⟨(c / 64).toNat, by omega, by omega⟩
 have hsc : (2 : Int) ^ min z 32 % 4294967296 = 2 ^ (c / 64).toNat := by
  rw [hz, Int.toNat_natCast]
  rcases (show z = 0 ∨ z = 1 ∨ z = 2 ∨ z = 3 by omega) with rfl | rfl | rfl | rfl <;> rfl
 obtain ⟨sc, hsc0⟩ : ∃ sc : Int, (2 : Int) ^ (c / 64).toNat = sc := ⟨_, rfl⟩
 rw [hsc0] at hsc
 obtain ⟨bs, hbs⟩ : ∃ bs : Int, c % 8 = bs := ⟨_, rfl⟩
 obtain ⟨ix, hix⟩ : ∃ ix : Int, c / 8 % 8 = ix := ⟨_, rfl⟩
 have HF := Yh_ (show c / 2 ^ (0 : Int).toNat % 2 ^ (3 : Int).toNat = bs ∧ c / 2 ^ (3 : Int).toNat % 2 ^ (3 : Int).toNat = ix ∧ c / 2 ^ (6 : Int).toNat % 2 ^ (2 : Int).toNat = z by
  refine ⟨?_, ?_, ?_⟩
  ·show c / 1 % 8 = bs; omega
  ·show c / 8 % 8 = ix; omega
  ·show c / 64 % 4 = (z : Int); omega)
 have qb : wrap64 bs = bs := by unfold wrap64; omega
 have qi : wrap64 ix = ix := by unfold wrap64; omega
 have qc : c % 4294967296 = c := by omega
 have HC := Yh_ (And.intro c0 c1)
 have e6 : (ix == 4) = false := by rw [← hix]; simpa using hx
 rw [hbs, hix, hsc0]
 clear hD hok h3 h4 h hb c0 c1 hx hz hz3 hsc0 hbs hix
 have e6' : (ix != 4) = true := by rw [bne, e6]; rfl
 unfold Mrm.cells
 go_enter Tryz.func95, Tryz.ntmps95
 go_upto_region 12 with (first | (go_at_call 64; refine HB.out.mono ?_; rintro e w5 ⟨rfl, hD5, hu⟩; have S5 := Yh_ (S0.out.step hD5 hu); clear hD5 hu S0; have co := Ya S5.out.oo; unfold Opd.cells at co; have fo := Yh S5.out.oo) | (go_at_call 84; refine (Yco c _ _ _ HC.out.1 (by have := HC.out; omega) (by decide) (by decide)).mono ?_; rintro e w6 ⟨rfl, rfl⟩; first | rw [HF.out.1] | rw [HF.out.2.1] | rw [HF.out.2.2]))
 have S := Yh_ (((S5.out.set (o' := ⟨3, 0, 0, bs, -1, 1⟩) HD.out 3 (.int .i64 bs) rfl).set (o' := ⟨3, 0, 0, bs, ix, 1⟩) HD.out 4 (.int .i64 ix) rfl).set (o' := ⟨3, 0, 0, bs, ix, sc⟩) HD.out 5 (.int .u32 sc) rfl)
 clear S5 co fo
 by_cases hm1 : m.mod = 1
 ·have e1 : (m.mod == 1) = true := by simpa using hm1
  have hb := Yah d g k0 v L _ S.out.dd
  cases h : Yz L k0 with
  |err c =>
   have HT := Yh_ (show Yak L m.mod bs ix sc k0 = .err c by rw [Yak, if_pos hm1, h]; rfl)
   rw [h] at hb
   have HB := Yh_ hb
   clear hb h hm1
   have cm := Ya S.out.mm; unfold Mrm.cells at cm; have co := Ya S.out.oo; unfold Opd.cells at co; have fo := Yh S.out.oo
   go_wp2_with (go_at_call 64; refine HB.out.mono ?_; rintro e w8 ⟨rfl, hu⟩)
   refine ⟨rfl, ?_⟩
   show Yp d v L g w (Yak L m.mod bs ix sc k0) Opd.val _ _; rw [HT.out]
   exact ⟨rfl, S.out.uu.also hu (by simp)⟩
  |ok c k1 =>
   obtain ⟨c0, c1, hk0⟩ := Yam S.out.dd.r h
   clear hk0
   have HT := Yh_ (show Yak L m.mod bs ix sc k0 = .ok ⟨3, 0, sx8 c, bs, ix, sc⟩ k1 by rw [Yak, if_pos hm1, h]; rfl)
   rw [h] at hb
   have HB := Yh_ hb
   have HR := Yh_ (And.intro c0 c1)
   have q1 : c % 4294967296 = c := by omega
   have q2 := Yku c0 c1
   clear hb h c0 c1 hm1
   have cm := Ya S.out.mm; unfold Mrm.cells at cm; have co := Ya S.out.oo; unfold Opd.cells at co; have fo := Yh S.out.oo
   go_upto_region 19 with (first | (go_at_call 64; refine HB.out.mono ?_; rintro e w8 ⟨rfl, hD8, hu⟩; have S8 := Yh_ (S.out.step hD8 hu); clear hD8 hu co fo; have co := Ya S8.out.oo; unfold Opd.cells at co; have fo := Yh S8.out.oo) | (go_at_call 89; refine (Yif c _ HR.out.1 (by have := HR.out; omega)).mono ?_; rintro e w9 ⟨rfl, rfl⟩; rw [q2]))
   have S9 := Yh_ (S8.out.set (o' := ⟨3, 0, sx8 c, bs, ix, sc⟩) HD.out 2 (.int .u32 (sx8 c)) rfl)
   clear S8 co fo
   have co := Ya S9.out.oo
   unfold Opd.cells at co
   go_wp2_with (refine Ye 40 rfl ?_; refine Yt ⟨3, 0, sx8 c, bs, ix, sc⟩ (w.heap.size + 1) 0 rfl _ _ rfl rfl rfl S9.out.rr (by decide) ?_; intro w9 hw9; have H9 := Yh_ (And.intro S9 (Yc0 hw9 S9.out.rr rfl)); clear hw9)
   obtain ⟨q1, q2⟩ := H9.out.1.out.fin HD.out H9.out.2.2
   exact bodyPost_ret (Yj rfl (Ybm 4 (w.heap.size + 1) _ rfl H9.out.2.1)) rfl (by show Yp d v L g w (Yak L m.mod bs ix sc k0) Opd.val _ _; rw [HT.out]; exact ⟨rfl, q1, q2⟩)
 ·have e1 : (m.mod == 1) = false := by simpa using hm1
  by_cases hm2 : m.mod = 2
  ·have e2 : (m.mod == 2) = true := by simpa using hm2
   have cm := Ya S.out.mm; unfold Mrm.cells at cm; have co := Ya S.out.oo; unfold Opd.cells at co; have fo := Yh S.out.oo
   by_cases h : k0 + 4 ≤ L.length
   ·have HB := Yh_ (Yfi d g k0 v L _ S.out.dd h)
    have HT := Yh_ (show Yak L m.mod bs ix sc k0 = .ok ⟨3, 0, Yb0 L k0, bs, ix, sc⟩ (k0 + 4) by rw [Yak, if_neg hm1, if_pos hm2, Ycl, if_pos h]; rfl)
    clear h hm1 hm2
    go_upto_region 19 with (first | (go_at_call 83; refine HB.out.mono ?_; rintro e w7 ⟨o7, c7, rfl, hw⟩; have HW := Yh_ (hw _ rfl); clear hw) | (go_at_call 90; refine HW.out.mono ?_; rintro e w8 ⟨rfl, hD8, hu⟩; have S8 := Yh_ (S.out.step hD8 hu); clear hD8 hu co fo; have co := Ya S8.out.oo; unfold Opd.cells at co; have fo := Yh S8.out.oo))
    have S9 := Yh_ (S8.out.set (o' := ⟨3, 0, Yb0 L k0, bs, ix, sc⟩) HD.out 2 (.int .u32 (Yb0 L k0)) rfl)
    clear S8 co fo
    have co := Ya S9.out.oo
    unfold Opd.cells at co
    go_wp2_with (refine Ye 40 rfl ?_; refine Yt ⟨3, 0, Yb0 L k0, bs, ix, sc⟩ (w.heap.size + 1) 0 rfl _ _ rfl rfl rfl S9.out.rr (by decide) ?_; intro w9 hw9; have H9 := Yh_ (And.intro S9 (Yc0 hw9 S9.out.rr rfl)); clear hw9)
    obtain ⟨q1, q2⟩ := H9.out.1.out.fin HD.out H9.out.2.2
    exact bodyPost_ret (Yj rfl (Ybm 4 (w.heap.size + 1) _ rfl H9.out.2.1)) rfl (by show Yp d v L g w (Yak L m.mod bs ix sc k0) Opd.val _ _; rw [HT.out]; exact ⟨rfl, q1, q2⟩)
   ·have HB := Yh_ (Ygc d g k0 4 v L _ S.out.dd (by decide) (by omega))
    have HT := Yh_ (show Yak L m.mod bs ix sc k0 = .err 10 by rw [Yak, if_neg hm1, if_pos hm2, Ycl, if_neg h]; rfl)
    clear h hm1 hm2
    go_wp2_with (go_at_call 83; refine HB.out.mono ?_; rintro e w8 ⟨rfl, hu⟩)
    refine ⟨rfl, ?_⟩
    show Yp d v L g w (Yak L m.mod bs ix sc k0) Opd.val _ _; rw [HT.out]
    exact ⟨rfl, S.out.uu.also hu (by simp)⟩
  ·have e2 : (m.mod == 2) = false := by simpa using hm2
   by_cases hm5 : bs = 5
   ·have e5 : (bs == 5) = true := by simpa using hm5
    have HM := Yh_ (And.intro hm1 (And.intro hm2 hm5))
    clear hm1 hm2 hm5
    have cm := Ya S.out.mm; unfold Mrm.cells at cm; have co := Ya S.out.oo; unfold Opd.cells at co; have fo := Yh S.out.oo
    go_upto_region 18 with fail
    have S6 := Yh_ (S.out.set (o' := ⟨3, 0, 0, -1, ix, sc⟩) HD.out 3 (.int .i64 (-1)) rfl)
    clear co fo
    have co := Ya S6.out.oo
    unfold Opd.cells at co
    have fo := Yh S6.out.oo
    by_cases h : k0 + 4 ≤ L.length
    ·have HB := Yh_ (Yfi d g k0 v L _ S6.out.dd h)
     have HT := Yh_ (show Yak L m.mod bs ix sc k0 = .ok ⟨3, 0, Yb0 L k0, -1, ix, sc⟩ (k0 + 4) by rw [Yak, if_neg HM.out.1, if_neg HM.out.2.1, if_pos HM.out.2.2, Ycl, if_pos h]; rfl)
     clear h 
     go_upto_region 19 with (first | (go_at_call 83; refine HB.out.mono ?_; rintro e w7 ⟨o7, c7, rfl, hw⟩; have HW := Yh_ (hw _ rfl); clear hw) | (go_at_call 90; refine HW.out.mono ?_; rintro e w8 ⟨rfl, hD8, hu⟩; have S8 := Yh_ (S6.out.step hD8 hu); clear hD8 hu co fo; have co := Ya S8.out.oo; unfold Opd.cells at co; have fo := Yh S8.out.oo))
     have S9 := Yh_ (S8.out.set (o' := ⟨3, 0, Yb0 L k0, -1, ix, sc⟩) HD.out 2 (.int .u32 (Yb0 L k0)) rfl)
     clear S8 co fo
     have co := Ya S9.out.oo
     unfold Opd.cells at co
     go_wp2_with (refine Ye 40 rfl ?_; refine Yt ⟨3, 0, Yb0 L k0, -1, ix, sc⟩ (w.heap.size + 1) 0 rfl _ _ rfl rfl rfl S9.out.rr (by decide) ?_; intro w9 hw9; have H9 := Yh_ (And.intro S9 (Yc0 hw9 S9.out.rr rfl)); clear hw9)
     obtain ⟨q1, q2⟩ := H9.out.1.out.fin HD.out H9.out.2.2
     exact bodyPost_ret (Yj rfl (Ybm 4 (w.heap.size + 1) _ rfl H9.out.2.1)) rfl (by show Yp d v L g w (Yak L m.mod bs ix sc k0) Opd.val _ _; rw [HT.out]; exact ⟨rfl, q1, q2⟩)
    ·have HB := Yh_ (Ygc d g k0 4 v L _ S6.out.dd (by decide) (by omega))
     have HT := Yh_ (show Yak L m.mod bs ix sc k0 = .err 10 by rw [Yak, if_neg HM.out.1, if_neg HM.out.2.1, if_pos HM.out.2.2, Ycl, if_neg h]; rfl)
     clear h 
     go_wp2_with (go_at_call 83; refine HB.out.mono ?_; rintro e w8 ⟨rfl, hu⟩)
     refine ⟨rfl, ?_⟩
     show Yp d v L g w (Yak L m.mod bs ix sc k0) Opd.val _ _; rw [HT.out]
     exact ⟨rfl, S6.out.uu.also hu (by simp)⟩
   ·have e5 : (bs == 5) = false := by simpa using hm5
    have HT := Yh_ (show Yak L m.mod bs ix sc k0 = .ok ⟨3, 0, 0, bs, ix, sc⟩ k0 by rw [Yak, if_neg hm1, if_neg hm2, if_neg hm5])
    clear hm1 hm2 hm5
    have cm := Ya S.out.mm; unfold Mrm.cells at cm; have co := Ya S.out.oo; unfold Opd.cells at co; have fo := Yh S.out.oo
    go_wp2_with (refine Ye 40 rfl ?_; refine Yt ⟨3, 0, 0, bs, ix, sc⟩ (w.heap.size + 1) 0 rfl _ _ rfl rfl rfl S.out.rr (by decide) ?_; intro w9 hw9; have H9 := Yh_ (And.intro S (Yc0 hw9 S.out.rr rfl)); clear hw9)
    obtain ⟨q1, q2⟩ := H9.out.1.out.fin HD.out H9.out.2.2
    exact bodyPost_ret (Yj rfl (Ybm 4 (w.heap.size + 1) _ rfl H9.out.2.1)) rfl (by show Yp d v L g w (Yak L m.mod bs ix sc k0) Opd.val _ _; rw [HT.out]; exact ⟨rfl, q1, q2⟩)
theorem Yst (d g k : Nat) (v : Value) (L : List Int) (m : Mrm) (w : World) (hD : Yd w d v L g k) (hok : m.Ok) (h3 : m.mod ≠ 3) (h4 : m.rm = 4) (c : Int) (k0 : Nat) (hb : Yz L k = .ok c k0) (hx : c / 8 % 8 = 4) :
  Calls Tryz.prog 95 #[.pointer (some ⟨d, 0, none⟩), .agg m.cells] w (Yp d v L g w (Yak L m.mod (c % 8) (-1) 1 k0) Opd.val) := by
 have e3 : (m.mod == 3) = false := by simpa using h3
 have e4 : (m.rm == 4) = true := by simpa using h4
 have HD := Yh_ hD
 have S0 := Yh_ (PlS.start hD m ⟨3, 0, 0, m.rm, -1, 1⟩)
 obtain ⟨c0, c1, hk0⟩ := Yam hD.r hb
 clear hk0
 have h := Yah d g k v L _ S0.out.dd
 rw [hb] at h
 have HB := Yh_ h
 obtain ⟨z, hz, hz3⟩ : ∃ z : Nat, c / 64 = z ∧ z < 4 := ⟨(c / 64).toNat, by omega, by omega⟩
 have hsc : (2 : Int) ^ min z 32 % 4294967296 = 2 ^ (c / 64).toNat := by
  rw [hz, Int.toNat_natCast]
  rcases (show z = 0 ∨ z = 1 ∨ z = 2 ∨ z = 3 by omega) with rfl | rfl | rfl | rfl <;> rfl
 obtain ⟨sc, hsc0⟩ : ∃ sc : Int, (2 : Int) ^ (c / 64).toNat = sc := ⟨_, rfl⟩
 rw [hsc0] at hsc
 obtain ⟨bs, hbs⟩ : ∃ bs : Int, c % 8 = bs := ⟨_, rfl⟩
 obtain ⟨ix, hix⟩ : ∃ ix : Int, c / 8 % 8 = ix := ⟨_, rfl⟩
 have HF := Yh_ (show c / 2 ^ (0 : Int).toNat % 2 ^ (3 : Int).toNat = bs ∧ c / 2 ^ (3 : Int).toNat % 2 ^ (3 : Int).toNat = ix ∧ c / 2 ^ (6 : Int).toNat % 2 ^ (2 : Int).toNat = z by
  refine ⟨?_, ?_, ?_⟩
  ·show c / 1 % 8 = bs; omega
  ·show c / 8 % 8 = ix; omega
  ·show c / 64 % 4 = (z : Int); omega)
 have qb : wrap64 bs = bs := by unfold wrap64; omega
 have qi : wrap64 ix = ix := by unfold wrap64; omega
 have qc : c % 4294967296 = c := by omega
 have HC := Yh_ (And.intro c0 c1)
 have e6 : (ix == 4) = true := by rw [← hix]; simpa using hx
 rw [hbs]
 clear hD hok h3 h4 h hb c0 c1 hx hz hz3 hsc0 hbs hix
 have e6' : (ix != 4) = false := by rw [bne, e6]; rfl
 unfold Mrm.cells
 go_enter Tryz.func95, Tryz.ntmps95
 go_upto_region 12 with (first | (go_at_call 64; refine HB.out.mono ?_; rintro e w5 ⟨rfl, hD5, hu⟩; have S5 := Yh_ (S0.out.step hD5 hu); clear hD5 hu S0; have co := Ya S5.out.oo; unfold Opd.cells at co; have fo := Yh S5.out.oo) | (go_at_call 84; refine (Yco c _ _ _ HC.out.1 (by have := HC.out; omega) (by decide) (by decide)).mono ?_; rintro e w6 ⟨rfl, rfl⟩; first | rw [HF.out.1] | rw [HF.out.2.1] | rw [HF.out.2.2]))
 have S := Yh_ (S5.out.set (o' := ⟨3, 0, 0, bs, -1, 1⟩) HD.out 3 (.int .i64 bs) rfl)
 clear S5 co fo
 by_cases hm1 : m.mod = 1
 ·have e1 : (m.mod == 1) = true := by simpa using hm1
  have hb := Yah d g k0 v L _ S.out.dd
  cases h : Yz L k0 with
  |err c =>
   have HT := Yh_ (show Yak L m.mod bs (-1) 1 k0 = .err c by rw [Yak, if_pos hm1, h]; rfl)
   rw [h] at hb
   have HB := Yh_ hb
   clear hb h hm1
   have cm := Ya S.out.mm; unfold Mrm.cells at cm; have co := Ya S.out.oo; unfold Opd.cells at co; have fo := Yh S.out.oo
   go_wp2_with (go_at_call 64; refine HB.out.mono ?_; rintro e w8 ⟨rfl, hu⟩)
   refine ⟨rfl, ?_⟩
   show Yp d v L g w (Yak L m.mod bs (-1) 1 k0) Opd.val _ _; rw [HT.out]
   exact ⟨rfl, S.out.uu.also hu (by simp)⟩
  |ok c k1 =>
   obtain ⟨c0, c1, hk0⟩ := Yam S.out.dd.r h
   clear hk0
   have HT := Yh_ (show Yak L m.mod bs (-1) 1 k0 = .ok ⟨3, 0, sx8 c, bs, (-1), 1⟩ k1 by rw [Yak, if_pos hm1, h]; rfl)
   rw [h] at hb
   have HB := Yh_ hb
   have HR := Yh_ (And.intro c0 c1)
   have q1 : c % 4294967296 = c := by omega
   have q2 := Yku c0 c1
   clear hb h c0 c1 hm1
   have cm := Ya S.out.mm; unfold Mrm.cells at cm; have co := Ya S.out.oo; unfold Opd.cells at co; have fo := Yh S.out.oo
   go_upto_region 19 with (first | (go_at_call 64; refine HB.out.mono ?_; rintro e w8 ⟨rfl, hD8, hu⟩; have S8 := Yh_ (S.out.step hD8 hu); clear hD8 hu co fo; have co := Ya S8.out.oo; unfold Opd.cells at co; have fo := Yh S8.out.oo) | (go_at_call 89; refine (Yif c _ HR.out.1 (by have := HR.out; omega)).mono ?_; rintro e w9 ⟨rfl, rfl⟩; rw [q2]))
   have S9 := Yh_ (S8.out.set (o' := ⟨3, 0, sx8 c, bs, (-1), 1⟩) HD.out 2 (.int .u32 (sx8 c)) rfl)
   clear S8 co fo
   have co := Ya S9.out.oo
   unfold Opd.cells at co
   go_wp2_with (refine Ye 40 rfl ?_; refine Yt ⟨3, 0, sx8 c, bs, (-1), 1⟩ (w.heap.size + 1) 0 rfl _ _ rfl rfl rfl S9.out.rr (by decide) ?_; intro w9 hw9; have H9 := Yh_ (And.intro S9 (Yc0 hw9 S9.out.rr rfl)); clear hw9)
   obtain ⟨q1, q2⟩ := H9.out.1.out.fin HD.out H9.out.2.2
   exact bodyPost_ret (Yj rfl (Ybm 4 (w.heap.size + 1) _ rfl H9.out.2.1)) rfl (by show Yp d v L g w (Yak L m.mod bs (-1) 1 k0) Opd.val _ _; rw [HT.out]; exact ⟨rfl, q1, q2⟩)
 ·have e1 : (m.mod == 1) = false := by simpa using hm1
  by_cases hm2 : m.mod = 2
  ·have e2 : (m.mod == 2) = true := by simpa using hm2
   have cm := Ya S.out.mm; unfold Mrm.cells at cm; have co := Ya S.out.oo; unfold Opd.cells at co; have fo := Yh S.out.oo
   by_cases h : k0 + 4 ≤ L.length
   ·have HB := Yh_ (Yfi d g k0 v L _ S.out.dd h)
    have HT := Yh_ (show Yak L m.mod bs (-1) 1 k0 = .ok ⟨3, 0, Yb0 L k0, bs, (-1), 1⟩ (k0 + 4) by rw [Yak, if_neg hm1, if_pos hm2, Ycl, if_pos h]; rfl)
    clear h hm1 hm2
    go_upto_region 19 with (first | (go_at_call 83; refine HB.out.mono ?_; rintro e w7 ⟨o7, c7, rfl, hw⟩; have HW := Yh_ (hw _ rfl); clear hw) | (go_at_call 90; refine HW.out.mono ?_; rintro e w8 ⟨rfl, hD8, hu⟩; have S8 := Yh_ (S.out.step hD8 hu); clear hD8 hu co fo; have co := Ya S8.out.oo; unfold Opd.cells at co; have fo := Yh S8.out.oo))
    have S9 := Yh_ (S8.out.set (o' := ⟨3, 0, Yb0 L k0, bs, (-1), 1⟩) HD.out 2 (.int .u32 (Yb0 L k0)) rfl)
    clear S8 co fo
    have co := Ya S9.out.oo
    unfold Opd.cells at co
    go_wp2_with (refine Ye 40 rfl ?_; refine Yt ⟨3, 0, Yb0 L k0, bs, (-1), 1⟩ (w.heap.size + 1) 0 rfl _ _ rfl rfl rfl S9.out.rr (by decide) ?_; intro w9 hw9; have H9 := Yh_ (And.intro S9 (Yc0 hw9 S9.out.rr rfl)); clear hw9)
    obtain ⟨q1, q2⟩ := H9.out.1.out.fin HD.out H9.out.2.2
    exact bodyPost_ret (Yj rfl (Ybm 4 (w.heap.size + 1) _ rfl H9.out.2.1)) rfl (by show Yp d v L g w (Yak L m.mod bs (-1) 1 k0) Opd.val _ _; rw [HT.out]; exact ⟨rfl, q1, q2⟩)
   ·have HB := Yh_ (Ygc d g k0 4 v L _ S.out.dd (by decide) (by omega))
    have HT := Yh_ (show Yak L m.mod bs (-1) 1 k0 = .err 10 by rw [Yak, if_neg hm1, if_pos hm2, Ycl, if_neg h]; rfl)
    clear h hm1 hm2
    go_wp2_with (go_at_call 83; refine HB.out.mono ?_; rintro e w8 ⟨rfl, hu⟩)
    refine ⟨rfl, ?_⟩
    show Yp d v L g w (Yak L m.mod bs (-1) 1 k0) Opd.val _ _; rw [HT.out]
    exact ⟨rfl, S.out.uu.also hu (by simp)⟩
  ·have e2 : (m.mod == 2) = false := by simpa using hm2
   by_cases hm5 : bs = 5
   ·have e5 : (bs == 5) = true := by simpa using hm5
    have HM := Yh_ (And.intro hm1 (And.intro hm2 hm5))
    clear hm1 hm2 hm5
    have cm := Ya S.out.mm; unfold Mrm.cells at cm; have co := Ya S.out.oo; unfold Opd.cells at co; have fo := Yh S.out.oo
    go_upto_region 18 with fail
    have S6 := Yh_ (S.out.set (o' := ⟨3, 0, 0, -1, (-1), 1⟩) HD.out 3 (.int .i64 (-1)) rfl)
    clear co fo
    have co := Ya S6.out.oo
    unfold Opd.cells at co
    have fo := Yh S6.out.oo
    by_cases h : k0 + 4 ≤ L.length
    ·have HB := Yh_ (Yfi d g k0 v L _ S6.out.dd h)
     have HT := Yh_ (show Yak L m.mod bs (-1) 1 k0 = .ok ⟨3, 0, Yb0 L k0, -1, (-1), 1⟩ (k0 + 4) by rw [Yak, if_neg HM.out.1, if_neg HM.out.2.1, if_pos HM.out.2.2, Ycl, if_pos h]; rfl)
     clear h 
     go_upto_region 19 with (first | (go_at_call 83; refine HB.out.mono ?_; rintro e w7 ⟨o7, c7, rfl, hw⟩; have HW := Yh_ (hw _ rfl); clear hw) | (go_at_call 90; refine HW.out.mono ?_; rintro e w8 ⟨rfl, hD8, hu⟩; have S8 := Yh_ (S6.out.step hD8 hu); clear hD8 hu co fo; have co := Ya S8.out.oo; unfold Opd.cells at co; have fo := Yh S8.out.oo))
     have S9 := Yh_ (S8.out.set (o' := ⟨3, 0, Yb0 L k0, -1, (-1), 1⟩) HD.out 2 (.int .u32 (Yb0 L k0)) rfl)
     clear S8 co fo
     have co := Ya S9.out.oo
     unfold Opd.cells at co
     go_wp2_with (refine Ye 40 rfl ?_; refine Yt ⟨3, 0, Yb0 L k0, -1, (-1), 1⟩ (w.heap.size + 1) 0 rfl _ _ rfl rfl rfl S9.out.rr (by decide) ?_; intro w9 hw9; have H9 := Yh_ (And.intro S9 (Yc0 hw9 S9.out.rr rfl)); clear hw9)
     obtain ⟨q1, q2⟩ := H9.out.1.out.fin HD.out H9.out.2.2
     exact bodyPost_ret (Yj rfl (Ybm 4 (w.heap.size + 1) _ rfl H9.out.2.1)) rfl (by show Yp d v L g w (Yak L m.mod bs (-1) 1 k0) Opd.val _ _; rw [HT.out]; exact ⟨rfl, q1, q2⟩)
    ·have HB := Yh_ (Ygc d g k0 4 v L _ S6.out.dd (by decide) (by omega))
     have HT := Yh_ (show Yak L m.mod bs (-1) 1 k0 = .err 10 by rw [Yak, if_neg HM.out.1, if_neg HM.out.2.1, if_pos HM.out.2.2, Ycl, if_neg h]; rfl)
     clear h 
     go_wp2_with (go_at_call 83; refine HB.out.mono ?_; rintro e w8 ⟨rfl, hu⟩)
     refine ⟨rfl, ?_⟩
     show Yp d v L g w (Yak L m.mod bs (-1) 1 k0) Opd.val _ _; rw [HT.out]
     exact ⟨rfl, S6.out.uu.also hu (by simp)⟩
   ·have e5 : (bs == 5) = false := by simpa using hm5
    have HT := Yh_ (show Yak L m.mod bs (-1) 1 k0 = .ok ⟨3, 0, 0, bs, (-1), 1⟩ k0 by rw [Yak, if_neg hm1, if_neg hm2, if_neg hm5])
    clear hm1 hm2 hm5
    have cm := Ya S.out.mm; unfold Mrm.cells at cm; have co := Ya S.out.oo; unfold Opd.cells at co; have fo := Yh S.out.oo
    go_wp2_with (refine Ye 40 rfl ?_; refine Yt ⟨3, 0, 0, bs, (-1), 1⟩ (w.heap.size + 1) 0 rfl _ _ rfl rfl rfl S.out.rr (by decide) ?_; intro w9 hw9; have H9 := Yh_ (And.intro S (Yc0 hw9 S.out.rr rfl)); clear hw9)
    obtain ⟨q1, q2⟩ := H9.out.1.out.fin HD.out H9.out.2.2
    exact bodyPost_ret (Yj rfl (Ybm 4 (w.heap.size + 1) _ rfl H9.out.2.1)) rfl (by show Yp d v L g w (Yak L m.mod bs (-1) 1 k0) Opd.val _ _; rw [HT.out]; exact ⟨rfl, q1, q2⟩)
theorem Yux (d g k : Nat) (v : Value) (L : List Int) (m : Mrm) (w : World) (hD : Yd w d v L g k) (hok : m.Ok) (h3 : m.mod ≠ 3) (h4 : m.rm = 4) (c : Int) (hb : Yz L k = .err c) :
  Calls Tryz.prog 95 #[.pointer (some ⟨d, 0, none⟩), .agg m.cells] w (Yp d v L g w (.err c) Opd.val) := by
 have e3 : (m.mod == 3) = false := by simpa using h3
 have e4 : (m.rm == 4) = true := by simpa using h4
 have S0 := Yh_ (PlS.start hD m ⟨3, 0, 0, m.rm, -1, 1⟩)
 have h := Yah d g k v L _ S0.out.dd
 rw [hb] at h
 have HB := Yh_ h
 clear hD hok h3 h4 h hb
 unfold Mrm.cells
 go_enter Tryz.func95, Tryz.ntmps95
 go_wp2_with (go_at_call 64; refine HB.out.mono ?_; rintro e w5 ⟨rfl, hu⟩)
 exact ⟨rfl, rfl, S0.out.uu.also hu (by simp)⟩
theorem Yf9 (d g k : Nat) (v : Value) (L : List Int) (m : Mrm) (w : World) (hD : Yd w d v L g k) (hok : m.Ok) :
  Calls Tryz.prog 95 #[.pointer (some ⟨d, 0, none⟩), .agg m.cells] w (Yp d v L g w (Ya6 L m k) Opd.val) := by
 unfold Ya6
 by_cases h3 : m.mod = 3
 ·rw [if_pos h3]; exact Ytn d g k v L m w hD hok h3
 ·rw [if_neg h3]
  by_cases h4 : m.rm = 4
  ·rw [if_pos h4]
   cases hb : Yz L k with
   |err c => exact Yux d g k v L m w hD hok h3 h4 c hb
   |ok c k0 =>
    rw [DR.bind_ok]
    by_cases hx : c / 8 % 8 = 4
    ·rw [if_pos hx, if_pos hx]; exact Yst d g k v L m w hD hok h3 h4 c k0 hb hx
    ·rw [if_neg hx, if_neg hx]; exact Ytg d g k v L m w hD hok h3 h4 c k0 hb hx
  ·rw [if_neg h4]; exact place_rm d g k v L m w hD hok h3 h4
end
end Go.Proofs.YteiplidhkelkbaaGreat
