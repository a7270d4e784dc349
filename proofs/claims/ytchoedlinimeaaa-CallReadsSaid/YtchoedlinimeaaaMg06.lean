/-
  Parts of the proof (their names shortened by a program). No condition.
-/
import Derived.Test.YtchoedlinimeaaaMg01
import Derived.Test.YtchoedlinimeaaaMg05
import Derived.Test.YtchoedlinimeaaaMg03
import Derived.Shelf.SlIterI.Nil
import Derived.Shelf.SortM.Plain
import Derived.Shelf.SortM.SortNone
import Derived.Ground.GgzProg
import Derived.Ground.SlgmProg
import Derived.Test.YtchoedlinimeaaaProg
import Derived.Test.YtchoedlinimeaaaMg04
import Derived.Carry
namespace Go.Proofs.Ytchoedlinimeaaa
open Go Go.RowKit
set_option linter.unusedVariables false
set_option linter.unusedSimpArgs false
set_option maxRecDepth 100000
set_option maxHeartbeats 16000000
section
theorem str_hi (w : World) (s : ByteArray) (N : Nat) (h : N ≤ s.size) : (Instr.sliceAt 9 (.string s) none (some (.int .i64 N)) none).run Try.prog w = .ok (.string (s.extract 0 N)) w := by
 simp [Instr.sliceAt, run_underlying Try.underlying9, Instr.slice, Instr.sliceBounds, Instr.sliceBound, asIntOf, h]
theorem str_lo (w : World) (s : ByteArray) (N : Nat) (h : N ≤ s.size) : (Instr.sliceAt 9 (.string s) (some (.int .i64 N)) none none).run Try.prog w = .ok (.string (s.extract N s.size)) w := by
 simp [Instr.sliceAt, run_underlying Try.underlying9, Instr.slice, Instr.sliceBounds, Instr.sliceBound, asIntOf, h]
theorem str_at (w : World) (s : ByteArray) (q : Nat) (h : q < s.size) : (Instr.index 9 (.string s) (.int .i64 q)).run Try.prog w = .ok (.int .u8 ((Yh s).getD q 0)) w := by
 have e : s[q]? = some s[q] := by simp [h]
 have e2 : (Yh s)[q]?.getD 0 = ((s[q]).toNat : Int) := by
  rw [Yh, List.getElem?_map, Array.getElem?_toList, Array.getElem?_eq_getElem (show q < s.data.size from h)]; rfl
 simp [Instr.index, run_underlying Try.underlying9, asIntOf, e]
 exact e2.symm
theorem write1 (M : Mem) (x v : Int) (h0 : 0 ≤ x) (h1 : x < 4294967296) : M.writeK x 1 = M.can x 2 := by
 have e1 : Yf x 0 = x := by unfold Yf; omega
 have e2 : (Yp 1).toNat = 1 := by decide
 have hb : M.bad x 2 (Yp 1).toNat = if M.can x 2 = true then none else some 0 := by
  rw [e2, Mem.bad]
  cases hc : M.can x 2
  ·rw [if_neg (by decide), List.find?_range_eq_some]
   exact ⟨by rw [e1, hc]; rfl, by simp, fun t ht => by omega⟩
  ·rw [if_pos rfl, List.find?_eq_none]
   intro t ht
   have : t = 0 := by simpa using ht
   subst this
   rw [e1, hc]; decide
 unfold Mem.writeK; rw [hb]; cases M.can x 2 <;> rfl
def Yw (M : Mem) (c : Int) (L : List Int) : Nat → Mem
 |0 => M
 |k + 1 => (Yw M c L k).writeM (Yf c k) 1 (L.getD k 0)
theorem Ygn (M : Mem) (x b v : Int) : (M.writeM x b v).R = M.R := by
 unfold Mem.writeM; split
 ·exact Mem.putN_R M x v _
 ·rfl
theorem Ycc (M : Mem) (c : Int) (L : List Int) : ∀ k, (Yw M c L k).R = M.R
 |0 => rfl
 |k + 1 => by rw [Yw, Ygn, Ycc M c L k]
theorem can_R {M N : Mem} (h : N.R = M.R) (x r : Int) : N.can x r = M.can x r := by unfold Mem.can; rw [h]
def rdN (inp : ByteArray) (d : Int) : Nat := min (min d 64).toNat inp.size
def rdK (M : Mem) (c : Int) (N : Nat) : Bool := (List.range N).all fun i => M.can (Yf c i) 2
def RdPost (M : Mem) (ec : Int) (N : Nat) (inp : ByteArray) (R : Int) (S I : ByteArray) (M2 : Mem) : Prop :=
 (rdK M ec N = true → R = (N : Int) ∧ S = inp.extract 0 N ∧ I = inp.extract N inp.size ∧ M2 = Yw M ec (Yh (inp.extract 0 N)) N) ∧
 (rdK M ec N = false → R = 4294967282 ∧ S = ByteArray.empty ∧ I = inp ∧ M2 = M)
structure RdS (w : World) (c : Nat) (C4 C6 : Array Value) (w1 : World) : Prop where
 u : Upd [] w w1
 c : w1.heap[c]? = some (.cells C4 82 (0, 0))
 e : w1.heap[w.heap.size]? = some (.cells C6 48 (0, 0))
theorem RdS.step {w : World} {c : Nat} {C4 C6 : Array Value} {w1 w2 : World} (h : RdS w c C4 C6 w1) (u : Upd [] w1 w2) : RdS w c C4 C6 w2 := ⟨h.u.also u (by simp), u.get h.c (by simp), u.get h.e (by simp)⟩
structure RdT (w : World) (c a pb : Nat) (C4 C6 : Array Value) (N : Mem) (w1 : World) : Prop where
 u : Upd [pb] w w1
 c : w1.heap[c]? = some (.cells C4 82 (0, 0))
 e : w1.heap[w.heap.size]? = some (.cells C6 48 (0, 0))
 m : Yd w1 a pb N
theorem RdT.quiet {w : World} {c a pb : Nat} {C4 C6 : Array Value} {N : Mem} {w1 w2 : World} (h : RdT w c a pb C4 C6 N w1) (u : Upd [] w1 w2) : RdT w c a pb C4 C6 N w2 :=
 ⟨h.u.also u (by simp), u.get h.c (by simp), u.get h.e (by simp), h.m.keep u (by simp) (by simp)⟩
theorem RdT.wr {w : World} {c a pb : Nat} {C4 C6 : Array Value} {N N2 : Mem} {w1 w2 : World} (h : RdT w c a pb C4 C6 N w1) (hm : Yd w2 a pb N2) (u : Upd [pb] w1 w2) (h1 : pb ≠ c) (h2 : pb ≠ w.heap.size) : RdT w c a pb C4 C6 N2 w2 :=
 ⟨h.u.also u (by simp), u.get h.c (by simp; exact fun e => h1 e.symm), u.get h.e (by simp; exact fun e => h2 e.symm), hm⟩
def Yb1 (F : Flt) : Array Value := #[.int .i64 F.k, .int .u32 F.pc, .int .u32 F.a, .int .i64 F.wt]
theorem Yay {d : Nat → Bool} {m i : Nat} (h : i ≠ m) : Ys d m i = d i := by simp [Ys, h]
theorem Ydy {d : Nat → Bool} {m : Nat} : Ys d m m = true := by simp [Ys]
theorem cv_eq {r : Nat → Value} {m : Nat} {v : Value} : Ybu r m v m = v := by simp [Ybu]
theorem Yco {op : Oper} {A : Act} {w : World} {K : Act → World → Prop} {Q : Exit → Act → World → Prop} (F Z : Flt) (g : Nat) (x y : Operand) (ho : op.op = .store 119 x y) (hx : A.eval x = .pointer (some ⟨g, 0, none⟩)) (hy : A.eval y = F.val)
  (hb : w.heap[g]? = some (.cells (Yb1 Z) 119 (0, 0))) (hK : K (A.put op.dst undef) (w.setCells g 0 (Yb1 F).toList)) : op.wp Try.prog A w K Q :=
 wp_store_mid 119 x y ho g 0 (Yb1 F) hx hy (Ycm hb 0 4 (by simp [Yb1])) Yf2 (by simp [Yb1, Value.oneCell']) hK
structure RdL (w : World) (c : Nat) (C4 C6 : Array Value) (b2 q2 : Nat) (N1 N2 : Mem) (F : Flt) (n0 : Nat) (dn : Nat → Bool) (r : Nat → Value) (w1 : World) : Prop where
 k : RdS w c C4 C6 w1
 m : Yd w1 b2 q2 (cond (dn 10) N2 N1)
 b : n0 ≤ w1.heap.size
 ln : c < n0 ∧ w.heap.size < n0 ∧ b2 < n0 ∧ q2 < n0 ∧ w.heap.size ≤ q2 ∧ c ≠ q2 ∧ w.heap.size ≠ q2
 y : dn 14 = true → ∃ g, r 14 = .pointer (some ⟨g, 0, none⟩) ∧ n0 ≤ g ∧ w1.heap[g]? = some (.cells (Yb1 (cond (dn 15) F Flt.zero)) 119 (0, 0))
 yo : dn 15 = true → dn 14 = true
section
variable {w w1 w2 : World} {c b2 q2 n0 : Nat} {C4 C6 : Array Value} {N1 N2 : Mem} {F : Flt} {dn : Nat → Bool} {r : Nat → Value}
theorem RdL.quiet (h : RdL w c C4 C6 b2 q2 N1 N2 F n0 dn r w1) (u : Upd [] w1 w2) (j : Nat) (h1 : 10 ≠ j) (h2 : 14 ≠ j) (h3 : 15 ≠ j) : RdL w c C4 C6 b2 q2 N1 N2 F n0 (Ys dn j) r w2 := by
 refine ⟨h.k.step u, by rw [Yay h1]; exact h.m.keep u (by simp) (by simp), Nat.le_trans h.b u.size, h.ln, fun hx => ?_, fun hx => ?_⟩
 ·rw [Yay h2] at hx; rw [Yay h3]; obtain ⟨g, e1, e2, e3⟩ := h.y hx; exact ⟨g, e1, e2, u.get e3 (by simp)⟩
 ·rw [Yay h3] at hx; rw [Yay h2]; exact h.yo hx
theorem RdL.same (h : RdL w c C4 C6 b2 q2 N1 N2 F n0 dn r w1) (j : Nat) (h1 : 10 ≠ j) (h2 : 14 ≠ j) (h3 : 15 ≠ j) : RdL w c C4 C6 b2 q2 N1 N2 F n0 (Ys dn j) r w1 := h.quiet (Upd.refl [] w1) j h1 h2 h3
theorem RdL.call (h : RdL w c C4 C6 b2 q2 N1 N2 F n0 dn r w1) (hm : Yd w2 b2 q2 N2) (u : Upd [q2] w1 w2) : RdL w c C4 C6 b2 q2 N1 N2 F n0 (Ys dn 10) r w2 := by
 have hl := h.ln
 refine ⟨⟨h.k.u.also u (by simp; omega), u.get h.k.c (by simp; omega), u.get h.k.e (by simp; omega)⟩, by rw [Ydy]; exact hm, Nat.le_trans h.b u.size, h.ln, fun hx => ?_, fun hx => ?_⟩
 ·rw [Yay (by decide)] at hx; rw [Yay (by decide)]; obtain ⟨g, e1, e2, e3⟩ := h.y hx; exact ⟨g, e1, e2, u.get e3 (by simp; omega)⟩
 ·rw [Yay (by decide)] at hx; rw [Yay (by decide)]; exact h.yo hx
theorem RdL.lay (h : RdL w c C4 C6 b2 q2 N1 N2 F n0 dn r w1) (hd : dn 14 = false) : RdL w c C4 C6 b2 q2 N1 N2 F n0 (Ys dn 14) (Ybu r 14 (.pointer (some ⟨w1.heap.size, 0, none⟩))) (w1.alloc (.cells (Yb1 Flt.zero) 119)) := by
 have hq : dn 15 = false := by
  cases hh : dn 15 with
  |false => rfl
  |true => rw [h.yo hh] at hd; cases hd
 have u := (Upd.refl [] w1).alloc (.cells (Yb1 Flt.zero) 119)
 refine ⟨h.k.step u, by rw [Yay (by decide)]; exact h.m.keep u (by simp) (by simp), Nat.le_trans h.b u.size, h.ln, fun _ => ⟨_, cv_eq, h.b, ?_⟩, fun _ => Ydy⟩
 rw [Yay (by decide), hq]; exact heap_alloc_new _ _
theorem RdL.put (h : RdL w c C4 C6 b2 q2 N1 N2 F n0 dn r w1) (hd : dn 14 = true) {g : Nat} (e1 : r 14 = .pointer (some ⟨g, 0, none⟩)) : RdL w c C4 C6 b2 q2 N1 N2 F n0 (Ys dn 15) r (w1.setCells g 0 (Yb1 F).toList) := by
 obtain ⟨g', e1', e2, e3⟩ := h.y hd
 obtain rfl : g' = g := by rw [e1] at e1'; injection e1' with e; injection e with e; injection e with e; exact e.symm
 have hl := h.ln
 have u := (Upd.refl [g'] w1).setCells (q := g') (.inl (by simp)) (Yb1 F).toList 0
 refine ⟨⟨h.k.u.also u (fun x hx => .inr (by rw [List.mem_singleton.1 hx]; omega)), u.get h.k.c (by simp; omega), u.get h.k.e (by simp; omega)⟩, by rw [Yay (by decide)]; exact h.m.keep u (by simp; omega) (by simp; omega), Nat.le_trans h.b u.size, h.ln, fun _ => ⟨g', e1, e2, ?_⟩, fun _ => by rw [Yay (by decide)]; exact hd⟩
 rw [Ydy]
 show _ = some (Obj.cells (Yb1 F) 119 (0, 0))
 rw [Yas _ _ _ _ e3]
 cases dn 15 <;> rfl
end
theorem read_any (M : Mem) (a pb c b n0 ln sc : Nat) (sa : Option Addr) (inp : ByteArray) (en eb ec ed er : Int) (es : ByteArray) (w : World) (hM : Yd w a pb M) (hc0 : w.heap[c]? = some (.cells #[.slice sa ln sc, .string inp, .map (some b), .int .i64 n0] 82 (0, 0))) (hne : c ≠ a ∧ c ≠ pb)
  (hc : 0 ≤ ec ∧ ec < 4294967296) (hd : 0 ≤ ed ∧ ed < 4294967296) :
  Calls Try.prog 31 #[.pointer (some ⟨c, 0, none⟩), .pointer (some ⟨a, 0, none⟩), .agg #[.int .u32 en, .int .u32 eb, .int .u32 ec, .int .u32 ed, .int .u32 er, .string es]] w fun x w' =>
   ∃ (R : Int) (S I : ByteArray) (M2 : Mem), x = .returned (.tuple #[.int .u32 R, .string S]) ∧ Yd w' a pb M2 ∧ w'.heap[c]? = some (.cells #[.slice sa ln sc, .string I, .map (some b), .int .i64 n0] 82 (0, 0)) ∧ Upd [c, pb] w w' ∧
    RdPost M ec (rdN inp ed) inp R S I M2 := by
 obtain ⟨N, hN⟩ : ∃ N, rdN inp ed = N := ⟨_, rfl⟩
 rw [hN]
 have hNs : N ≤ inp.size ∧ N ≤ 64 := by rw [← hN]; unfold rdN; omega
 have hmin : min (min ed 64) (inp.size : Int) = (N : Int) := by rw [← hN]; unfold rdN; omega
 obtain ⟨dl, hdl⟩ : ∃ dl, min ed 64 = dl := ⟨_, rfl⟩
 rw [hdl] at hmin
 obtain ⟨sz, hsz⟩ : ∃ sz : Int, (inp.size : Int) = sz := ⟨_, rfl⟩
 rw [hsz] at hmin
 obtain ⟨ni, hni⟩ : ∃ ni : Int, (N : Int) = ni := ⟨_, rfl⟩
 have hmr : ∀ w, (Builtin.min_ #[3, 3] 3 #[.int .i64 dl, .int .i64 sz]).run Try.prog w = .ok (.int .i64 ni) w := by
  intro w
  have h2 : (if sz < dl then sz else dl) = ni := by rw [← hni, ← hmin]; omega
  simp [Builtin.min_, Builtin.min2, h2]
 have hsl := fun w' => str_hi w' inp N hNs.1
 obtain ⟨S, hS⟩ : ∃ S, inp.extract 0 N = S := ⟨_, rfl⟩
 have hSs : S.size = N := by rw [← hS]; simp; omega
 rw [hni, hS] at hsl
 have hss : (S.size : Int) = ni := by rw [hSs]; exact hni
 have HH := Yh_ (And.intro hM (And.intro hc0 (And.intro hne (And.intro hc (And.intro hd (And.intro hNs (And.intro hdl (And.intro hsz (And.intro hN (And.intro hni (And.intro hSs hS)))))))))))
 have S0 := Yh_ (show RdS w c #[.slice sa ln sc, .string inp, .map (some b), .int .i64 n0] #[.int .u32 en, .int .u32 eb, .int .u32 ec, .int .u32 ed, .int .u32 er, .string es] (w.alloc (.cells #[.int .u32 en, .int .u32 eb, .int .u32 ec, .int .u32 ed, .int .u32 er, .string es] 48)) from ⟨(Upd.refl _ _).alloc _, Yz _ hc0, heap_alloc_new w _⟩)
 clear hM hne hc hNs hmin hc0 hd hdl hN hni hS hSs
 go_enter Try.func31, Try.ntmps31
 go_upto_region 1 with fail
 refine Yu 14 (RdS w c #[.slice sa ln sc, .string inp, .map (some b), .int .i64 n0] #[.int .u32 en, .int .u32 eb, .int .u32 ec, .int .u32 ed, .int .u32 er, .string es]) (fun _ _ => False) (by kernel_rfl) (by decide +kernel) (S0.out.step (Upd.refl [] _).drew) (fun _ _ _ h => h.elim) ?_
 simp only [List.take_succ_cons, List.take_zero, List.drop_succ_cons, List.drop_zero]
 iterate 14
  apply Yj rfl rfl
  ·intro K hK w5 hB1
   have f1 := Ya hB1.c
   have f2 := Ya hB1.e
   have HB := Yh_ hB1
   clear hB1
   go_wp2_with (go_at_call 53; refine (Yed ⟨en, eb, ec, ed, er, es⟩ HH.out.2.2.2.2.1 _).mono ?_; rintro e w6 ⟨rfl, hu⟩; rw [show min (⟨en, eb, ec, ed, er, es⟩ : Ev).d 64 = dl from HH.out.2.2.2.2.2.2.1]; have HB2 := Yh_ (HB.out.step hu); clear hu HB)
   first
   |exact hK _ HB.out
   |exact HB.out
   |exact hK _ HB2.out
   |exact HB2.out
  ·exact ⟨_, rfl⟩
 refine Ym (fun _ w6 hB1 => ?_)
 have S1 := Yh_ hB1
 clear hB1 S0 hmr hsl
 go_wp2_with (go_at_call 54; refine (Copy_any M a pb _ (HH.out.1.keep S1.out.u (by simp) (by simp))).mono ?_; rintro e w7 ⟨b2, q2, rfl, h1, h2, h3, h4⟩; have HC2 := Yh_ (And.intro h1 (And.intro h2 (And.intro h3 h4))); clear h1 h2 h3 h4)
 have SW := Yh_ (show RdS w c #[.slice sa ln sc, .string inp, .map (some b), .int .i64 n0] #[.int .u32 en, .int .u32 eb, .int .u32 ec, .int .u32 ed, .int .u32 er, .string es] w7 from S1.out.step HC2.out.2.2.2)
 go_loopw [31] (fun i wr => ∃ q : Int, i = .int .i64 q ∧ Hid (0 ≤ q ∧ q ≤ ni) ∧ Hid (∀ t, t < q.toNat → M.can (Yf ec t) 2 = true) ∧ Hid (RdS w c #[.slice sa ln sc, .string inp, .map (some b), .int .i64 n0] #[.int .u32 en, .int .u32 eb, .int .u32 ec, .int .u32 ed, .int .u32 er, .string es] wr) ∧ Hid (Yd wr b2 q2 (Yw M ec (Yh S) q.toNat)) ) (fun i _ => (ni - intOf i).toNat)
 case atStart => exact ⟨0, rfl, Yh_ ⟨Int.le_refl _, by have := HH.out.2.2.2.2.2.2.2.2.2.1; omega⟩, Yh_ (fun t ht => by simp at ht), SW, Yh_ HC2.out.2.2.1⟩
 case round =>
  obtain ⟨q, rfl, hq, hno, hR, hI⟩ := hrel
  by_cases hlt : q < ni
  ·have dlt : decide (q < ni) = true := by simp [hlt]
   have hqq := hq.out
   have hnn := HH.out.2.2.2.2.2.2.2.2.2
   have hN64 := HH.out.2.2.2.2.2.1
   have e1 : q % 4294967296 = q := by omega
   have hx : Yf ec q.toNat = (ec + q) % 4294967296 := by unfold Yf; rw [show ((q.toNat : Nat) : Int) = q by omega]
   have hxr : 0 ≤ (ec + q) % 4294967296 ∧ (ec + q) % 4294967296 < 4294967296 := by omega
   obtain ⟨y, hy⟩ : ∃ y, (Yh S).getD q.toNat 0 = y := ⟨_, rfl⟩
   have hy2 : 0 ≤ y ∧ y ≤ 255 := by rw [← hy]; exact Yec S _
   have e3 : y % 4294967296 = y := by omega
   have hix := fun w' => str_at w' S q.toNat (by omega)
   rw [show ((q.toNat : Nat) : Int) = q by omega, hy] at hix
   obtain ⟨F, hF⟩ : ∃ F, (Yw M ec (Yh S) q.toNat).wrF ((ec + q) % 4294967296) 1 = F := ⟨_, rfl⟩
   have hwk : (Yw M ec (Yh S) q.toNat).writeK ((ec + q) % 4294967296) 1 = M.can ((ec + q) % 4294967296) 2 := (write1 _ ((ec + q) % 4294967296) y hxr.1 hxr.2).trans (can_R (Ycc M ec _ _) ((ec + q) % 4294967296) 2)
   have HX := Yh_ (show (0 ≤ ((ec + q) % 4294967296) ∧ ((ec + q) % 4294967296) < 4294967296) ∧ (0 ≤ y ∧ y < 4294967296) from ⟨hxr, by omega⟩)
   have HB1 := Yh_ (show (0 ≤ q ∧ q < ni) ∧ Yf ec q.toNat = ((ec + q) % 4294967296) ∧ (Yh S).getD q.toNat 0 = y from ⟨by omega, hx, hy⟩)
   have hlts : c < wr.heap.size ∧ w.heap.size < wr.heap.size ∧ b2 < wr.heap.size ∧ q2 < wr.heap.size ∧ w.heap.size ≤ q2 ∧ c ≠ q2 ∧ w.heap.size ≠ q2 := by
    have h1 := Yk hR.out.c
    have h2 := Yk hR.out.e
    have h3 := hI.out.al
    have h4 := hI.out.pl
    have h5 := HC2.out.2.1
    have h6 := Yk S1.out.c
    have h7 := Yk S1.out.e
    exact ⟨h1, h2, h3, h4, by omega, by omega, by omega⟩
   have HL0 := Yh_ (show ∀ r0, RdL w c #[.slice sa ln sc, .string inp, .map (some b), .int .i64 n0] #[.int .u32 en, .int .u32 eb, .int .u32 ec, .int .u32 ed, .int .u32 er, .string es] b2 q2 (Yw M ec (Yh S) q.toNat) ((Yw M ec (Yh S) q.toNat).writeM ((ec + q) % 4294967296) 1 y) F wr.heap.size (fun _ => false) r0 wr.drew from fun r0 => ⟨hR.out.step (Upd.refl [] _).drew, hI.out.keep (Upd.refl [] wr).drew (by simp) (by simp), ((Upd.refl [] wr).drew).size, hlts, fun h => (by cases h), fun h => (by cases h)⟩)
   clear hqq hnn hN64 hx hxr hy hy2 hlt hlts
   cases hcan : M.can ((ec + q) % 4294967296) 2
   ·have HK := Yh_ (And.intro (hwk.trans hcan) hF)
    have HN := Yh_ hcan
    clear hwk hcan hF
    go_upto_region 6 with fail
    refine Yat 16 (RdL w c #[.slice sa ln sc, .string inp, .map (some b), .int .i64 n0] #[.int .u32 en, .int .u32 eb, .int .u32 ec, .int .u32 ed, .int .u32 er, .string es] b2 q2 (Yw M ec (Yh S) q.toNat) ((Yw M ec (Yh S) q.toNat).writeM ((ec + q) % 4294967296) 1 y) F wr.heap.size) (fun _ _ => False) (by kernel_rfl) (by decide +kernel) (fun r0 => HL0.out r0) (fun _ _ _ h => h.elim) ?_
    simp only [List.take_succ_cons, List.take_zero, List.drop_succ_cons, List.drop_zero]
    apply Yb rfl rfl
    ·intro dn r0 K hd hdep hK w5 hB1
     have f2 := Ya hB1.k.e
     have HB := Yh_ hB1
     have HD := Yh_ hd
     clear hB1 hdep hd
     go_wp2_with fail
     first
     |exact hK _ (HB.out.same 0 (by decide) (by decide) (by decide))
     |exact (HB.out.same 0 (by decide) (by decide) (by decide))
    ·exact ⟨_, rfl⟩
    apply Yb rfl rfl
    ·intro dn r0 K hd hdep hK w5 hB1
     have f2 := Ya hB1.k.e
     have HB := Yh_ hB1
     have HD := Yh_ hd
     clear hB1 hdep hd
     go_wp2_with fail
     first
     |exact hK _ (HB.out.same 1 (by decide) (by decide) (by decide))
     |exact (HB.out.same 1 (by decide) (by decide) (by decide))
    ·exact ⟨_, rfl⟩
    apply Yb rfl rfl
    ·intro dn r0 K hd hdep hK w5 hB1
     have f2 := Ya hB1.k.e
     have HB := Yh_ hB1
     have HD := Yh_ hd
     clear hB1 hdep hd
     go_wp2_with fail
     first
     |exact hK _ (HB.out.same 2 (by decide) (by decide) (by decide))
     |exact (HB.out.same 2 (by decide) (by decide) (by decide))
    ·exact ⟨_, rfl⟩
    apply Yb rfl rfl
    ·intro dn r0 K hd hdep hK w5 hB1
     have f2 := Ya hB1.k.e
     have HB := Yh_ hB1
     have HD := Yh_ hd
     clear hB1 hdep hd
     go_wp2_with fail
     first
     |exact hK _ (HB.out.same 3 (by decide) (by decide) (by decide))
     |exact (HB.out.same 3 (by decide) (by decide) (by decide))
    ·exact ⟨_, rfl⟩
    apply Yb rfl rfl
    ·intro dn r0 K hd hdep hK w5 hB1
     have f2 := Ya hB1.k.e
     have HB := Yh_ hB1
     have HD := Yh_ hd
     clear hB1 hdep hd
     go_wp2_with fail
     first
     |exact hK _ (HB.out.same 4 (by decide) (by decide) (by decide))
     |exact (HB.out.same 4 (by decide) (by decide) (by decide))
    ·exact ⟨_, rfl⟩
    apply Yb rfl rfl
    ·intro dn r0 K hd hdep hK w5 hB1
     have f2 := Ya hB1.k.e
     have HB := Yh_ hB1
     have HD := Yh_ hd
     clear hB1 hdep hd
     go_wp2_with fail
     first
     |exact hK _ (HB.out.same 5 (by decide) (by decide) (by decide))
     |exact (HB.out.same 5 (by decide) (by decide) (by decide))
    ·exact ⟨_, rfl⟩
    apply Yb rfl rfl
    ·intro dn r0 K hd hdep hK w5 hB1
     have f2 := Ya hB1.k.e
     have HB := Yh_ hB1
     have HD := Yh_ hd
     clear hB1 hdep hd
     go_wp2_with fail
     first
     |exact hK _ (HB.out.same 6 (by decide) (by decide) (by decide))
     |exact (HB.out.same 6 (by decide) (by decide) (by decide))
    ·exact ⟨_, rfl⟩
    apply Yb rfl rfl
    ·intro dn r0 K hd hdep hK w5 hB1
     have f2 := Ya hB1.k.e
     have HB := Yh_ hB1
     have HD := Yh_ hd
     clear hB1 hdep hd
     go_wp2_with fail
     first
     |exact hK _ (HB.out.same 7 (by decide) (by decide) (by decide))
     |exact (HB.out.same 7 (by decide) (by decide) (by decide))
    ·exact ⟨_, rfl⟩
    apply Yb rfl rfl
    ·intro dn r0 K hd hdep hK w5 hB1
     have f2 := Ya hB1.k.e
     have HB := Yh_ hB1
     have HD := Yh_ hd
     clear hB1 hdep hd
     go_wp2_with fail
     first
     |exact hK _ (HB.out.same 8 (by decide) (by decide) (by decide))
     |exact (HB.out.same 8 (by decide) (by decide) (by decide))
    ·exact ⟨_, rfl⟩
    apply Yb rfl rfl
    ·intro dn r0 K hd hdep hK w5 hB1
     have f2 := Ya hB1.k.e
     have HB := Yh_ hB1
     have HD := Yh_ hd
     clear hB1 hdep hd
     go_wp2_with fail
     first
     |exact hK _ (HB.out.same 9 (by decide) (by decide) (by decide))
     |exact (HB.out.same 9 (by decide) (by decide) (by decide))
    ·exact ⟨_, rfl⟩
    apply Yb rfl rfl
    ·intro dn r0 K hd hdep hK w5 hB1
     have f2 := Ya hB1.k.e
     have HB := Yh_ hB1
     have HD := Yh_ hd
     clear hB1 hdep hd
     go_wp2_with (go_at_call 55; have hm0 := HB.out.m; rw [HD.out] at hm0; refine (Yc2 (Yw M ec (Yh S) q.toNat) b2 q2 ((ec + q) % 4294967296) 1 y _ hm0 HX.out.1.1 HX.out.1.2 HX.out.2.1 HX.out.2.2).mono ?_; rintro e w6 ⟨rfl, hm6, hu6⟩; rw [HK.out.1, Mem.writeF_val, HK.out.2]; unfold Flt.val)
     first
     |exact hK _ (HB.out.call hm6 hu6)
     |exact (HB.out.call hm6 hu6)
    ·exact ⟨_, rfl⟩
    apply Yb rfl rfl
    ·intro dn r0 K hd hdep hK w5 hB1
     have f2 := Ya hB1.k.e
     have HB := Yh_ hB1
     have HD := Yh_ hd
     clear hB1 hdep hd
     go_wp2_with fail
     first
     |exact hK _ (HB.out.same 11 (by decide) (by decide) (by decide))
     |exact (HB.out.same 11 (by decide) (by decide) (by decide))
    ·exact ⟨_, rfl⟩
    apply Yb rfl rfl
    ·intro dn r0 K hd hdep hK w5 hB1
     have f2 := Ya hB1.k.e
     have HB := Yh_ hB1
     have HD := Yh_ hd
     clear hB1 hdep hd
     go_wp2_with fail
     first
     |exact hK _ (HB.out.same 12 (by decide) (by decide) (by decide))
     |exact (HB.out.same 12 (by decide) (by decide) (by decide))
    ·exact ⟨_, rfl⟩
    apply Yb rfl rfl
    ·intro dn r0 K hd hdep hK w5 hB1
     have f2 := Ya hB1.k.e
     have HB := Yh_ hB1
     have HD := Yh_ hd
     clear hB1 hdep hd
     go_wp2_with fail
     first
     |exact hK _ (HB.out.same 13 (by decide) (by decide) (by decide))
     |exact (HB.out.same 13 (by decide) (by decide) (by decide))
    ·exact ⟨_, rfl⟩
    refine Ydv rfl (fun _ => rfl) 11 rfl (by simp [Act.put]) ?_ ?_
    ·intro dn r0 K hd w5 hB1 hK
     have HB := Yh_ hB1
     clear hB1
     simp only [Yi]
     go_wp2_with fail
     first
     |exact hK (.pointer (some ⟨w5.heap.size, 0, none⟩)) _ (HB.out.lay hd)
     |exact HB.out.lay hd
    apply Yex rfl (fun _ => rfl)
    ·intro dn r0 K hd hdep hK w5 hB1
     have h8 : dn 14 = true := hdep ⟨14, .data⟩ (by simp) rfl
     obtain ⟨g0, e1, e2, e3⟩ := hB1.y h8
     refine Yco F (cond (dn 15) F Flt.zero) g0 _ _ rfl (by show r0 14 = _; exact e1) rfl e3 ?_
     exact hK _ (hB1.put h8 e1)
    ·exact ⟨undef, fun _ => rfl, Eq.symm (by go_simp; exact rfl)⟩
    refine Yaj (fun _ r0 w8 dn hall hB2 => ?_)
    obtain ⟨gF, e1, e2, e3⟩ := hB2.y (hall 14 (by decide))
    have hm8 := hB2.m
    rw [hall 10 (by decide)] at hm8
    have HW8 := Yh_ (And.intro hB2.k hm8)
    show wpList _ _ _ _ (Act.put (Yi _ _ [] _) (some 11) (r0 14)) _
    rw [e1]
    simp only [Yi]
    clear e1 e2 e3 hall hB2 hm8
    go_wp2_with (go_at_call 35; refine (Yai (-14) (by decide) _).mono ?_; rintro e w9 ⟨rfl, hu⟩; have HU9 := Yh_ hu; clear hu)
    go_ret2
    have u9 := HW8.out.1.u.also HU9.out (by simp)
    refine ⟨_, _, inp, M, rfl, HH.out.1.keep u9 (by simp) (by simp), u9.get HH.out.2.1 (by simp), u9.mono (by simp), fun h => ?_, fun _ => ⟨rfl, rfl, rfl, rfl⟩⟩
    rw [rdK, List.all_eq_true] at h
    have h2 := h q.toNat (by rw [List.mem_range]; have h1 := HB1.out.1; have h3 := HH.out.2.2.2.2.2.2.2.2.2.1; omega)
    rw [HB1.out.2.1, HN.out] at h2
    cases h2
   ·have HK := Yh_ (And.intro (hwk.trans hcan) hF)
    have HN := Yh_ hcan
    clear hwk hcan hF
    go_upto_region 6 with fail
    refine Yat 16 (RdL w c #[.slice sa ln sc, .string inp, .map (some b), .int .i64 n0] #[.int .u32 en, .int .u32 eb, .int .u32 ec, .int .u32 ed, .int .u32 er, .string es] b2 q2 (Yw M ec (Yh S) q.toNat) ((Yw M ec (Yh S) q.toNat).writeM ((ec + q) % 4294967296) 1 y) F wr.heap.size) (fun _ _ => False) (by kernel_rfl) (by decide +kernel) (fun r0 => HL0.out r0) (fun _ _ _ h => h.elim) ?_
    simp only [List.take_succ_cons, List.take_zero, List.drop_succ_cons, List.drop_zero]
    apply Yb rfl rfl
    ·intro dn r0 K hd hdep hK w5 hB1
     have f2 := Ya hB1.k.e
     have HB := Yh_ hB1
     have HD := Yh_ hd
     clear hB1 hdep hd
     go_wp2_with fail
     first
     |exact hK _ (HB.out.same 0 (by decide) (by decide) (by decide))
     |exact (HB.out.same 0 (by decide) (by decide) (by decide))
    ·exact ⟨_, rfl⟩
    apply Yb rfl rfl
    ·intro dn r0 K hd hdep hK w5 hB1
     have f2 := Ya hB1.k.e
     have HB := Yh_ hB1
     have HD := Yh_ hd
     clear hB1 hdep hd
     go_wp2_with fail
     first
     |exact hK _ (HB.out.same 1 (by decide) (by decide) (by decide))
     |exact (HB.out.same 1 (by decide) (by decide) (by decide))
    ·exact ⟨_, rfl⟩
    apply Yb rfl rfl
    ·intro dn r0 K hd hdep hK w5 hB1
     have f2 := Ya hB1.k.e
     have HB := Yh_ hB1
     have HD := Yh_ hd
     clear hB1 hdep hd
     go_wp2_with fail
     first
     |exact hK _ (HB.out.same 2 (by decide) (by decide) (by decide))
     |exact (HB.out.same 2 (by decide) (by decide) (by decide))
    ·exact ⟨_, rfl⟩
    apply Yb rfl rfl
    ·intro dn r0 K hd hdep hK w5 hB1
     have f2 := Ya hB1.k.e
     have HB := Yh_ hB1
     have HD := Yh_ hd
     clear hB1 hdep hd
     go_wp2_with fail
     first
     |exact hK _ (HB.out.same 3 (by decide) (by decide) (by decide))
     |exact (HB.out.same 3 (by decide) (by decide) (by decide))
    ·exact ⟨_, rfl⟩
    apply Yb rfl rfl
    ·intro dn r0 K hd hdep hK w5 hB1
     have f2 := Ya hB1.k.e
     have HB := Yh_ hB1
     have HD := Yh_ hd
     clear hB1 hdep hd
     go_wp2_with fail
     first
     |exact hK _ (HB.out.same 4 (by decide) (by decide) (by decide))
     |exact (HB.out.same 4 (by decide) (by decide) (by decide))
    ·exact ⟨_, rfl⟩
    apply Yb rfl rfl
    ·intro dn r0 K hd hdep hK w5 hB1
     have f2 := Ya hB1.k.e
     have HB := Yh_ hB1
     have HD := Yh_ hd
     clear hB1 hdep hd
     go_wp2_with fail
     first
     |exact hK _ (HB.out.same 5 (by decide) (by decide) (by decide))
     |exact (HB.out.same 5 (by decide) (by decide) (by decide))
    ·exact ⟨_, rfl⟩
    apply Yb rfl rfl
    ·intro dn r0 K hd hdep hK w5 hB1
     have f2 := Ya hB1.k.e
     have HB := Yh_ hB1
     have HD := Yh_ hd
     clear hB1 hdep hd
     go_wp2_with fail
     first
     |exact hK _ (HB.out.same 6 (by decide) (by decide) (by decide))
     |exact (HB.out.same 6 (by decide) (by decide) (by decide))
    ·exact ⟨_, rfl⟩
    apply Yb rfl rfl
    ·intro dn r0 K hd hdep hK w5 hB1
     have f2 := Ya hB1.k.e
     have HB := Yh_ hB1
     have HD := Yh_ hd
     clear hB1 hdep hd
     go_wp2_with fail
     first
     |exact hK _ (HB.out.same 7 (by decide) (by decide) (by decide))
     |exact (HB.out.same 7 (by decide) (by decide) (by decide))
    ·exact ⟨_, rfl⟩
    apply Yb rfl rfl
    ·intro dn r0 K hd hdep hK w5 hB1
     have f2 := Ya hB1.k.e
     have HB := Yh_ hB1
     have HD := Yh_ hd
     clear hB1 hdep hd
     go_wp2_with fail
     first
     |exact hK _ (HB.out.same 8 (by decide) (by decide) (by decide))
     |exact (HB.out.same 8 (by decide) (by decide) (by decide))
    ·exact ⟨_, rfl⟩
    apply Yb rfl rfl
    ·intro dn r0 K hd hdep hK w5 hB1
     have f2 := Ya hB1.k.e
     have HB := Yh_ hB1
     have HD := Yh_ hd
     clear hB1 hdep hd
     go_wp2_with fail
     first
     |exact hK _ (HB.out.same 9 (by decide) (by decide) (by decide))
     |exact (HB.out.same 9 (by decide) (by decide) (by decide))
    ·exact ⟨_, rfl⟩
    apply Yb rfl rfl
    ·intro dn r0 K hd hdep hK w5 hB1
     have f2 := Ya hB1.k.e
     have HB := Yh_ hB1
     have HD := Yh_ hd
     clear hB1 hdep hd
     go_wp2_with (go_at_call 55; have hm0 := HB.out.m; rw [HD.out] at hm0; refine (Yc2 (Yw M ec (Yh S) q.toNat) b2 q2 ((ec + q) % 4294967296) 1 y _ hm0 HX.out.1.1 HX.out.1.2 HX.out.2.1 HX.out.2.2).mono ?_; rintro e w6 ⟨rfl, hm6, hu6⟩; rw [HK.out.1, Mem.writeF_val, HK.out.2]; unfold Flt.val)
     first
     |exact hK _ (HB.out.call hm6 hu6)
     |exact (HB.out.call hm6 hu6)
    ·exact ⟨_, rfl⟩
    apply Yb rfl rfl
    ·intro dn r0 K hd hdep hK w5 hB1
     have f2 := Ya hB1.k.e
     have HB := Yh_ hB1
     have HD := Yh_ hd
     clear hB1 hdep hd
     go_wp2_with fail
     first
     |exact hK _ (HB.out.same 11 (by decide) (by decide) (by decide))
     |exact (HB.out.same 11 (by decide) (by decide) (by decide))
    ·exact ⟨_, rfl⟩
    apply Yb rfl rfl
    ·intro dn r0 K hd hdep hK w5 hB1
     have f2 := Ya hB1.k.e
     have HB := Yh_ hB1
     have HD := Yh_ hd
     clear hB1 hdep hd
     go_wp2_with fail
     first
     |exact hK _ (HB.out.same 12 (by decide) (by decide) (by decide))
     |exact (HB.out.same 12 (by decide) (by decide) (by decide))
    ·exact ⟨_, rfl⟩
    apply Yb rfl rfl
    ·intro dn r0 K hd hdep hK w5 hB1
     have f2 := Ya hB1.k.e
     have HB := Yh_ hB1
     have HD := Yh_ hd
     clear hB1 hdep hd
     go_wp2_with fail
     first
     |exact hK _ (HB.out.same 13 (by decide) (by decide) (by decide))
     |exact (HB.out.same 13 (by decide) (by decide) (by decide))
    ·exact ⟨_, rfl⟩
    refine Ydv rfl (fun _ => rfl) 11 rfl (by simp [Act.put]) ?_ ?_
    ·intro dn r0 K hd w5 hB1 hK
     have HB := Yh_ hB1
     clear hB1
     simp only [Yi]
     go_wp2_with fail
     first
     |exact hK (.pointer (some ⟨w5.heap.size, 0, none⟩)) _ (HB.out.lay hd)
     |exact HB.out.lay hd
    apply Yex rfl (fun _ => rfl)
    ·intro dn r0 K hd hdep hK w5 hB1
     have h8 : dn 14 = true := hdep ⟨14, .data⟩ (by simp) rfl
     obtain ⟨g0, e1, e2, e3⟩ := hB1.y h8
     refine Yco F (cond (dn 15) F Flt.zero) g0 _ _ rfl (by show r0 14 = _; exact e1) rfl e3 ?_
     exact hK _ (hB1.put h8 e1)
    ·exact ⟨undef, fun _ => rfl, Eq.symm (by go_simp; exact rfl)⟩
    refine Yaj (fun _ r0 w8 dn hall hB2 => ?_)
    obtain ⟨gF, e1, e2, e3⟩ := hB2.y (hall 14 (by decide))
    have hm8 := hB2.m
    rw [hall 10 (by decide)] at hm8
    have HW8 := Yh_ (And.intro hB2.k hm8)
    show wpList _ _ _ _ (Act.put (Yi _ _ [] _) (some 11) (r0 14)) _
    rw [e1]
    simp only [Yi]
    clear e1 e2 e3 hall hB2 hm8
    go_wp2_with fail
    go_roundw
    case rel =>
     have z1 := HB1.out.1
     refine ⟨q + 1, by first | rfl | rw [show wrap64 (q + 1) = q + 1 by unfold wrap64; omega], Yh_ ⟨by omega, by omega⟩, Yh_ fun t ht => ?_, Yh_ HW8.out.1, Yh_ ?_⟩
     ·by_cases e : t = q.toNat
      ·subst e; rw [HB1.out.2.1]; exact HN.out
      ·exact hno.out t (by omega)
     ·have h3 := HW8.out.2
      rw [show (q + 1).toNat = q.toNat + 1 by omega, Yw, HB1.out.2.1, HB1.out.2.2]
      exact h3
    case measure => have z1 := HB1.out.1; first | (simp only [intOf]; omega) | (simp only [intOf, show wrap64 (q + 1) = q + 1 by unfold wrap64; omega]; omega)
  ·have hqn : q = ni := by have := hq.out; omega
   subst hqn
   have dlt : decide (q < q) = false := by simp
   have hall := Yh_ (show rdK M ec N = true by rw [rdK, List.all_eq_true]; intro t ht; exact hno.out t (by have h3 := HH.out.2.2.2.2.2.2.2.2.2.1; have := List.mem_range.1 ht; omega))
   have T0 := Yh_ (show RdT w c a pb #[.slice sa ln sc, .string inp, .map (some b), .int .i64 n0] #[.int .u32 en, .int .u32 eb, .int .u32 ec, .int .u32 ed, .int .u32 er, .string es] M wr from ⟨hR.out.u.mono (by simp), hR.out.c, hR.out.e, HH.out.1.keep hR.out.u (by simp) (by simp)⟩)
   have HLT := Yh_ (show pb ≠ c ∧ pb ≠ w.heap.size by have h1 := HH.out.1.pl; have h2 := HH.out.2.2.1; omega)
   clear hlt hno hI hR hq SW HC2 S1
   go_wp2_with fail
   go_loopw [54] (fun i w7 => ∃ p : Int, i = .int .i64 p ∧ Hid (0 ≤ p ∧ p ≤ q) ∧ Hid (RdT w c a pb #[.slice sa ln sc, .string inp, .map (some b), .int .i64 n0] #[.int .u32 en, .int .u32 eb, .int .u32 ec, .int .u32 ed, .int .u32 er, .string es] (Yw M ec (Yh S) p.toNat) w7)) (fun i _ => (q - intOf i).toNat)
   case atStart => exact ⟨0, rfl, Yh_ ⟨Int.le_refl _, by have := HH.out.2.2.2.2.2.2.2.2.2.1; omega⟩, T0⟩
   case round =>
    clear T0
    rename_i w7
    obtain ⟨p, rfl, hp, hT⟩ := hrel
    by_cases hlt : p < q
    ·have dlt2 : decide (p < q) = true := by simp [hlt]
     have hqq := hp.out
     have hnn := HH.out.2.2.2.2.2.2.2.2.2
     have hN64 := HH.out.2.2.2.2.2.1
     have e1 : p % 4294967296 = p := by omega
     have hx : Yf ec p.toNat = (ec + p) % 4294967296 := by unfold Yf; rw [show ((p.toNat : Nat) : Int) = p by omega]
     have hxr : 0 ≤ (ec + p) % 4294967296 ∧ (ec + p) % 4294967296 < 4294967296 := by omega
     obtain ⟨y, hy⟩ : ∃ y, (Yh S).getD p.toNat 0 = y := ⟨_, rfl⟩
     have hy2 : 0 ≤ y ∧ y ≤ 255 := by rw [← hy]; exact Yec S _
     have e3 : y % 4294967296 = y := by omega
     have hix := fun w' => str_at w' S p.toNat (by omega)
     rw [show ((p.toNat : Nat) : Int) = p by omega, hy] at hix
     have HX := Yh_ (show (0 ≤ (ec + p) % 4294967296 ∧ (ec + p) % 4294967296 < 4294967296) ∧ (0 ≤ y ∧ y < 4294967296) from ⟨hxr, by omega⟩)
     have HB1 := Yh_ (show (0 ≤ p ∧ p < q) ∧ q ≤ 64 ∧ Yf ec p.toNat = (ec + p) % 4294967296 ∧ (Yh S).getD p.toNat 0 = y from ⟨by omega, by omega, hx, hy⟩)
     clear hqq hnn hN64 hx hxr hy hy2 hlt
     go_upto_region 13 with fail
     refine Yu 10 (RdT w c a pb #[.slice sa ln sc, .string inp, .map (some b), .int .i64 n0] #[.int .u32 en, .int .u32 eb, .int .u32 ec, .int .u32 ed, .int .u32 er, .string es] (Yw M ec (Yh S) p.toNat)) (fun _ _ => False) (by kernel_rfl) (by decide +kernel) (hT.out.quiet (Upd.refl [] _).drew) (fun _ _ _ h => h.elim) ?_
     simp only [List.take_succ_cons, List.take_zero, List.drop_succ_cons, List.drop_zero]
     iterate 10
      apply Yj rfl rfl
      ·intro K hK w5 hB1
       have f2 := Ya hB1.e
       have HB := Yh_ hB1
       clear hB1
       go_wp2_with fail
       first
       |exact hK _ HB.out
       |exact HB.out
      ·exact ⟨_, rfl⟩
     refine Ym (fun _ w6 hB1 => ?_)
     have S1 := Yh_ hB1
     clear hB1
     go_wp2_with (go_at_call 55; refine (Yc2 (Yw M ec (Yh S) p.toNat) a pb ((ec + p) % 4294967296) 1 y _ S1.out.m HX.out.1.1 HX.out.1.2 HX.out.2.1 HX.out.2.2).mono ?_; rintro e w8 ⟨rfl, hm6, hu6⟩; have HW8 := Yh_ (S1.out.wr hm6 hu6 HLT.out.1 HLT.out.2); clear hm6 hu6)
     go_roundw
     case rel =>
      have z1 := HB1.out.1
      have z2 := HB1.out.2.1
      refine ⟨p + 1, by first | rfl | rw [show wrap64 (p + 1) = p + 1 by unfold wrap64; omega], Yh_ ⟨by omega, by omega⟩, Yh_ ?_⟩
      rw [show (p + 1).toNat = p.toNat + 1 by omega, Yw, HB1.out.2.2.1, HB1.out.2.2.2]
      exact HW8.out
     case measure => have z1 := HB1.out.1; have z2 := HB1.out.2.1; first | (simp only [intOf]; omega) | (simp only [intOf, show wrap64 (p + 1) = p + 1 by unfold wrap64; omega]; omega)
    ·have hpn : p = q := by have := hp.out; omega
     subst hpn
     have hlo := fun w' => str_lo w' inp N HH.out.2.2.2.2.2.1.1
     rw [HH.out.2.2.2.2.2.2.2.2.2.1] at hlo
     have c4 := Ya hT.out.c
     have d4 := Yg hT.out.c
     have hN64 := HH.out.2.2.2.2.2.1
     have hnn := HH.out.2.2.2.2.2.2.2.2.2.1
     have e1 : p % 4294967296 = p := by omega
     clear hlt hN64 hnn
     go_wp2_with fail
     go_ret2
     have hpN : p.toNat = N := by have := HH.out.2.2.2.2.2.2.2.2.2.1; omega
     have hSS := HH.out.2.2.2.2.2.2.2.2.2.2.2
     obtain ⟨ne1, ne2⟩ := HH.out.2.2.1
     have u1 : Upd [c, pb] w wr := hT.out.u.mono (by simp)
     have u2 : Upd [c] wr (wr.setCell ⟨c, 1, none⟩ (.string (inp.extract N inp.size))) := (Upd.refl [c] wr).setCell (p := ⟨c, 1, none⟩) (.inl (by simp)) _
     have u3 := u1.also u2 (by simp)
     refine ⟨p, S, inp.extract N inp.size, Yw M ec (Yh S) N, rfl, ?_, Ye hT.out.c 1 _, u3, fun _ => ⟨HH.out.2.2.2.2.2.2.2.2.2.1.symm, hSS.symm, rfl, by rw [hSS]⟩, fun h => ?_⟩
     ·have hm := hT.out.m
      rw [hpN] at hm
      exact hm.keep u2 (by simp; exact fun e => ne1 e.symm) (by simp; exact fun e => ne2 e.symm)
     ·rw [hall.out] at h; cases h
end
section
open Go.Shelf
def Yeb : Go.Shelf.Ren := ⟨fun | 7 => 38 | 10 => 62 | n => n, fun | 23 => 80 | 26 => 3 | 3 => 48 | 28 => 100 | 0 => 0 | 27 => 99 | 33 => 83 | 4 => 4 | n => n, fun | n => n⟩
theorem clKeys : Go.Proofs.SlLaysZI.n7 Try.prog Yeb := {
 mixed := by kernel_rfl
 f7 := ⟨Try.f38.name, by decide, Try.func38.trans (congrArg some (by kernel_rfl))⟩
 f10 := ⟨Try.f62.name, by decide, Try.func62.trans (congrArg some (by kernel_rfl))⟩
 t0 := Try.underlying0
 a0 := Try.isAgg0
 z0 := Try.sizeOf0
 v0 := Try.zeroValue0
 t4 := Try.underlying4
 a4 := Try.isAgg4
 z4 := Try.sizeOf4
 v4 := Try.zeroValue4
 t23 := Try.underlying80
 a23 := Try.isAgg80
 z23 := Try.sizeOf80
 v23 := Try.zeroValue80
 t26 := Try.underlying3
 a26 := Try.isAgg3
 z26 := Try.sizeOf3
 v26 := Try.zeroValue3
 t27 := Try.underlying99
 a27 := Try.isAgg99
 z27 := Try.sizeOf99
 v27 := Try.zeroValue99
 t28 := Try.underlying100
 a28 := Try.isAgg100
 z28 := Try.sizeOf100
 v28 := Try.zeroValue100
 t33 := Try.underlying83
 a33 := Try.isAgg83
 z33 := Try.sizeOf83
 v33 := Try.zeroValue83 }
def Yc0 : Go.Shelf.Ren := ⟨fun | 6 => 37 | 8 => 60 | 9 => 61 | 11 => 74 | 13 => 76 | 12 => 75 | 23 => 86 | 24 => 87 | 14 => 77 | 15 => 78 | 16 => 79 | 17 => 80 | 18 => 81 | 19 => 82 | 20 => 83 | 21 => 84 | 22 => 85 | 25 => 88 | 26 => 89 | 27 => 90 | 28 => 91 | 29 => 92 | 30 => 93 | 31 => 94 | n => n, fun | 26 => 3 | 28 => 100 | 24 => 97 | 0 => 0 | 3 => 3 | 37 => 143 | 48 => 31 | 50 => 35 | 4 => 4 | 40 => 146 | 39 => 145 | 45 => 150 | 5 => 5 | 9 => 9 | 51 => 153 | 55 => 157 | 57 => 159 | 58 => 41 | 33 => 83 | n => n, fun | n => n⟩
theorem clSorted : Go.Proofs.SlLaysZI.n6 Try.prog Yc0 := {
 mixed := by kernel_rfl
 f6 := ⟨Try.f37.name, by decide, Try.func37.trans (congrArg some (by kernel_rfl))⟩
 f8 := ⟨Try.f60.name, by decide, Try.func60.trans (congrArg some (by kernel_rfl))⟩
 f11 := ⟨Try.f74.name, by decide, Try.func74.trans (congrArg some (by kernel_rfl))⟩
 t0 := Try.underlying0
 a0 := Try.isAgg0
 z0 := Try.sizeOf0
 v0 := Try.zeroValue0
 t24 := Try.underlying97
 a24 := Try.isAgg97
 z24 := Try.sizeOf97
 v24 := Try.zeroValue97
 t26 := Try.underlying3
 a26 := Try.isAgg3
 z26 := Try.sizeOf3
 v26 := Try.zeroValue3
 t28 := Try.underlying100
 a28 := Try.isAgg100
 z28 := Try.sizeOf100
 v28 := Try.zeroValue100
 i26 := by kernel_rfl }
def Yf1 : Go.Shelf.Ren := ⟨fun | 5 => 61 | 8 => 76 | 7 => 75 | 19 => 86 | 20 => 87 | 10 => 77 | 11 => 78 | 12 => 79 | 13 => 80 | 14 => 81 | 15 => 82 | 16 => 83 | 17 => 84 | 18 => 85 | 30 => 88 | 31 => 89 | 32 => 90 | 33 => 91 | 34 => 92 | 35 => 93 | 40 => 94 | n => n, fun | 23 => 97 | 25 => 3 | 3 => 3 | 32 => 143 | 22 => 97 | 0 => 0 | 44 => 31 | 46 => 35 | 4 => 4 | 36 => 146 | 35 => 145 | 41 => 150 | 5 => 5 | 9 => 9 | 53 => 153 | 57 => 157 | 63 => 159 | 64 => 41 | n => n, fun | n => n⟩
theorem clSort : Go.Proofs.SlLaysM.n5 Try.prog Yf1 := {
 mixed := by kernel_rfl
 f5 := ⟨Try.f61.name, by decide, Try.func61.trans (congrArg some (by kernel_rfl))⟩
 f7 := ⟨Try.f75.name, by decide, Try.func75.trans (congrArg some (by kernel_rfl))⟩
 f8 := Try.func76.trans (congrArg some (by kernel_rfl))
 f10 := ⟨Try.f77.name, by decide, Try.func77.trans (congrArg some (by kernel_rfl))⟩
 f11 := ⟨Try.f78.name, by decide, Try.func78.trans (congrArg some (by kernel_rfl))⟩
 f12 := ⟨Try.f79.name, by decide, Try.func79.trans (congrArg some (by kernel_rfl))⟩
 f13 := ⟨Try.f80.name, by decide, Try.func80.trans (congrArg some (by kernel_rfl))⟩
 f14 := ⟨Try.f81.name, by decide, Try.func81.trans (congrArg some (by kernel_rfl))⟩
 f15 := ⟨Try.f82.name, by decide, Try.func82.trans (congrArg some (by kernel_rfl))⟩
 f16 := ⟨Try.f83.name, by decide, Try.func83.trans (congrArg some (by kernel_rfl))⟩
 f17 := ⟨Try.f84.name, by decide, Try.func84.trans (congrArg some (by kernel_rfl))⟩
 f18 := ⟨Try.f85.name, by decide, Try.func85.trans (congrArg some (by kernel_rfl))⟩
 f19 := Try.func86.trans (congrArg some (by kernel_rfl))
 f20 := Try.func87.trans (congrArg some (by kernel_rfl))
 f30 := ⟨Try.f88.name, by decide, Try.func88.trans (congrArg some (by kernel_rfl))⟩
 f31 := Try.func89.trans (congrArg some (by kernel_rfl))
 f32 := Try.func90.trans (congrArg some (by kernel_rfl))
 f33 := ⟨Try.f91.name, by decide, Try.func91.trans (congrArg some (by kernel_rfl))⟩
 f34 := ⟨Try.f92.name, by decide, Try.func92.trans (congrArg some (by kernel_rfl))⟩
 f35 := ⟨Try.f93.name, by decide, Try.func93.trans (congrArg some (by kernel_rfl))⟩
 f40 := ⟨Try.f94.name, by decide, Try.func94.trans (congrArg some (by kernel_rfl))⟩
 t0 := Try.underlying0
 a0 := Try.isAgg0
 z0 := Try.sizeOf0
 v0 := Try.zeroValue0
 t3 := Try.underlying3
 a3 := Try.isAgg3
 z3 := Try.sizeOf3
 v3 := Try.zeroValue3
 t4 := Try.underlying4
 a4 := Try.isAgg4
 z4 := Try.sizeOf4
 v4 := Try.zeroValue4
 t5 := Try.underlying5
 a5 := Try.isAgg5
 z5 := Try.sizeOf5
 v5 := Try.zeroValue5
 t9 := Try.underlying9
 a9 := Try.isAgg9
 z9 := Try.sizeOf9
 v9 := Try.zeroValue9
 t22 := Try.underlying97
 a22 := Try.isAgg97
 z22 := Try.sizeOf97
 v22 := Try.zeroValue97
 t23 := Try.underlying97
 a23 := Try.isAgg97
 z23 := Try.sizeOf97
 v23 := Try.zeroValue97
 t25 := Try.underlying3
 a25 := Try.isAgg3
 z25 := Try.sizeOf3
 v25 := Try.zeroValue3
 t32 := Try.underlying143
 a32 := Try.isAgg143
 z32 := Try.sizeOf143
 v32 := Try.zeroValue143
 t35 := Try.underlying145
 a35 := Try.isAgg145
 z35 := Try.sizeOf145
 v35 := Try.zeroValue145
 t36 := Try.underlying146
 a36 := Try.isAgg146
 z36 := Try.sizeOf146
 v36 := Try.zeroValue146
 t41 := Try.underlying150
 a41 := Try.isAgg150
 z41 := Try.sizeOf150
 v41 := Try.zeroValue150
 t44 := Try.underlying31
 a44 := Try.isAgg31
 z44 := Try.sizeOf31
 v44 := Try.zeroValue31
 t46 := Try.underlying35
 a46 := Try.isAgg35
 z46 := Try.sizeOf35
 v46 := Try.zeroValue35
 t53 := Try.underlying153
 a53 := Try.isAgg153
 z53 := Try.sizeOf153
 v53 := Try.zeroValue153
 t57 := Try.underlying157
 a57 := Try.isAgg157
 z57 := Try.sizeOf157
 v57 := Try.zeroValue157
 t63 := Try.underlying159
 a63 := Try.isAgg159
 z63 := Try.sizeOf159
 v63 := Try.zeroValue159
 t64 := Try.underlying41
 a64 := Try.isAgg41
 z64 := Try.sizeOf41
 v64 := Try.zeroValue41 }
end
section
open Go.Maps Go.Sort Go.Shelf
theorem clSorts (m : Nat) : AnyZI.SortsIn Try.prog Yc0 Fence.wide m :=
 ⟨fun blk off cap ss W hH hblk hsz => callsIn_wide.2 (AnyM.slices_Sort_int clSort blk off cap ss W hH hblk hsz),
  fun p cap W => callsIn_wide.2 (AnyM.slices_Sort_int_none clSort p cap W)⟩
theorem keys_any (mb : Option Nat) (W : World) : Calls Try.prog 38 #[.map mb] W fun e w' => e = .returned (.func (.func 62) #[] #[.pointer (some ⟨W.heap.size, 0, none⟩)]) ∧ w' = W.alloc (.cells #[.map mb] 80) :=
 (callsIn_wide (n := 5)).1 (AnyZI.keys_in clKeys Fence.wide 5 trivial rfl mb W)
theorem Yf3 {H : Type} (b nn : Nat) (D0 : DataW H) (R : Value → Option (DataW H × List MemPlace)) (w : World) (hown : w.ownsMap Try.prog 3 R b nn D0) (hmax : Maps.size D0 ≤ maxLen) (hbytes : Maps.size D0 * 8 ≤ 140737488355328) :
  Calls Try.prog 37 #[.func (.func 62) #[] #[.pointer (some ⟨w.heap.size, 0, none⟩)]] (w.alloc (.cells #[.map (some b)] 80)) fun e w' =>
   ∃ (v : Value) (ss : List Int), e = .returned v ∧ ss.Perm (intKeys D0) ∧ w'.ownsRow w.heap.size 3 1 v ss.length ((ss.mergeSort (fun x y => decide (x ≤ y))).map encZ) ∧ Below w.heap.size w w' := by
 have hbl := hown.lt
 have hseq : SeqGives Fence.wide 2 Try.prog 62 #[.pointer (some ⟨w.heap.size, 0, none⟩)] encZ (fun ss => ss.Perm (intKeys D0)) (Maps.size D0) (w.alloc (.cells #[.map (some b)] 80)) :=
  AnyZI.keys_gives (ρ := Yeb) { clKeys with } Fence.wide _ trivial rfl (by omega) w.heap.size b nn D0 _ (by simp) (by simp) (by
   obtain ⟨es, clock, hb, Ft, hs, hD⟩ := hown
   exact ⟨es, clock, (Below.heap_alloc _ _ b hbl).trans hb, Ft, hs, hD⟩)
 have cS := AnyZI.sorted_in clSorted Fence.wide 5 trivial trivial trivial trivial rfl (by omega) (clSorts _) (enters_of Try.func61 (by kernel_rfl) rfl) 62 #[.pointer (some ⟨w.heap.size, 0, none⟩)] trivial (enters_of Try.func62 (by kernel_rfl) rfl) _ _ hmax hbytes _ hseq
 change CallsIn _ _ Try.prog 37 _ _ _ at cS
 refine ((callsIn_wide (n := 5)).1 cS).mono ?_
 rintro e w' ⟨v, ss, rfl, hS, hrow, hnil, hb⟩
 exact ⟨v, ss, rfl, hS, ownsRow_base_a hrow (by simp), ((Below.refl _ w).alloc (Nat.le_refl _) _).trans (hb.mono (by simp))⟩
end
section
open Go.Maps
theorem Ydo : (Try.prog.info? 31).map (fun i => (i.zero, i.size, i.bytes)) = some (some (.int .u32 0), 1, 4) := by kernel_rfl
theorem Yd9 (w : World) : (Instr.buildSlice 23 0 #[]).run Try.prog w = .ok (.slice (some ⟨w.heap.size, 0, none⟩) 0 0) (w.alloc (.cells #[] 31)) := by
 obtain ⟨i, hi, hz0, hz1, hz2⟩ := info_parts Ydo
 simp [Instr.buildSlice, run_underlying Try.underlying23, sizeOf, typeInfo, zeroValue, hi, hz0, newRow, Instr.fill]
 exact congrArg (fun x => w.alloc (.cells x 31)) (by simp)
theorem Ycs {ops : Array Oper} {rest : List Oper} {op : Oper} {a : Act} {w : World} {Q : Exit → Act → World → Prop} (hgd : op.guard = none) (ho : op.op = .buildSlice 23 0 #[])
  (h : wpList Try.prog ops Q rest (a.put op.dst (.slice (some ⟨w.heap.size, 0, none⟩) 0 0)) (w.alloc (.cells #[] 31))) : wpList Try.prog ops Q (op :: rest) a w :=
 wpList_plain hgd fun _ hK => by
  unfold Oper.wp execOp
  simp only [ho, Array.map_empty, Sem.run_bind, Yd9, Result.andThen_ok, Sem.run_pure]
  exact hK _ _ h
theorem Ygv {w : World} {base : Nat} {v : Value} {l : List Int} {xs : List Value} {n : Nat} (hn : n = l.length) (hx : xs = l.map (Value.int .u32)) (h : w.ownsRow base 31 1 v n xs) : ∃ g, Rp w v l g ∧ (v = .slice none 0 0 ∨ base ≤ g ∧ g < w.heap.size) := by
 subst hn hx
 obtain ⟨_, ⟨h1, h2⟩ | ⟨g, cap, cur, h1, h2, h3, h4, h5, h6, h7⟩⟩ := h
 ·exact ⟨0, .inl ⟨h1, List.eq_nil_of_length_eq_zero h2⟩, .inl h1⟩
 ·refine ⟨g, .inr ⟨0, cap, cur, _, _, h1, h4, h3, fun i hi => ?_⟩, .inr ⟨h2, Yk h3⟩⟩
  have e : (cur.toList.take (l.length * 1))[i]? = some (.int .u32 (l.getD i 0)) := by
   rw [h7, List.getElem?_map, List.getD_eq_getElem?_getD, List.getElem?_eq_getElem hi]; rfl
  rw [Nat.mul_one, List.getElem?_take, if_pos hi, Array.getElem?_toList] at e
  rw [Nat.zero_add]; exact e
theorem Yfr (l : List Int) (v : Value) (g : Nat) (w : World) (h : Rp w v l g) (hl : l.length ≤ 1000) :
  Calls Try.prog 26 #[v] w fun e w' => ∃ v' g', e = .returned v' ∧ Rp w' v' l g' ∧ (v' = .slice none 0 0 ∨ w.heap.size ≤ g' ∧ g' < w'.heap.size) ∧ Upd [] w w' := by
 rcases h with ⟨rfl, rfl⟩ | ⟨o, c, C, T, f, rfl, hc, hg, hC⟩
 ·have hnil := fun w : World => Lib.run_eql_slice_nil w 23 31 none 0 0 0 0 Try.underlying23
  go_enter Try.func26, Try.ntmps26
  go_wp2_with fail
  go_ret
  exact ⟨_, 0, rfl, .inl ⟨rfl, rfl⟩, .inl rfl, Upd.refl _ _⟩
 ·have hnil := fun w : World => Lib.run_eql_slice_nil w 23 31 (some ⟨g, o, none⟩) l.length c 0 0 Try.underlying23
  obtain ⟨i, hi, hz0, hz1, hz2⟩ := info_parts Ydo
  have hown : (w.alloc (.cells #[] 31)).ownsRow w.heap.size 31 1 (.slice (some ⟨w.heap.size, 0, none⟩) 0 0) 0 [] := ⟨by simp, .inr ⟨w.heap.size, 0, #[], rfl, Nat.le_refl _, heap_alloc_new _ _, Nat.le_refl _, Nat.zero_le _, rfl, rfl⟩⟩
  have hnews : ∀ j u, (l.map (Value.int .u32))[j]? = some u → (w.alloc (.cells #[] 31)).cell? ((⟨g, o, none⟩ : Addr).add j) = some u := by
   intro j u hu
   have hj : j < l.length := by
    have := (List.getElem?_eq_some_iff.1 hu).1
    simpa using this
   rw [Addr.add_lit, Ya (Yz _ hg), hC j hj]
   rw [List.getElem?_map, List.getElem?_eq_getElem hj] at hu
   simp only [Option.map_some, Option.some.injEq] at hu
   rw [List.getD_eq_getElem?_getD, List.getElem?_eq_getElem hj, Option.getD_some, hu]
  have H := Yh_ (And.intro hi (And.intro hz0 (And.intro hz1 (And.intro hz2 (And.intro hown (And.intro hnews hl))))))
  clear hi hz0 hz1 hz2 hown hnews hl hc hg hC
  go_enter Try.func26, Try.ntmps26
  go_wp2_with (first | (refine Ycs rfl rfl ?_) | (at_builtin; refine wpList_append_own _ rfl _ _ 23 rfl w.heap.size 31 i (.int .u32 0) 1 4 Try.underlying23 H.out.1 H.out.2.1 H.out.2.2.1 H.out.2.2.2.1 rfl (by decide) _ _ _ rfl H.out.2.2.2.2.1 ⟨g, o, none⟩ l.length c (l.map (Value.int .u32)) rfl (by simp) H.out.2.2.2.2.2.1 (by intro u hu; simp only [List.mem_map] at hu; obtain ⟨z, _, rfl⟩ := hu; rfl) (by have := H.out.2.2.2.2.2.2; unfold maxLen; omega) (by have := H.out.2.2.2.2.2.2; omega) (by simp) ?_; intro v' w' hv hg _))
  have hg' : Upd [w.heap.size] (w.alloc (.cells #[] 31)) w' := Upd.of_grown (row := some w.heap.size) hg
  clear hg
  obtain ⟨g', h1, h2⟩ := Ygv (l := l) (by simp) (by simp) hv
  clear hv
  have H2 := Yh_ (And.intro h1 (And.intro h2 (((Upd.refl [] w).alloc _).new hg' (by simp))))
  clear h1 h2 hg'
  go_ret
  exact ⟨_, g', rfl, H2.out.1, H2.out.2.1, H2.out.2.2⟩
theorem NewC_any (l : List Int) (inp : ByteArray) (v : Value) (g : Nat) (w : World) (h : Rp w v l g) (hl : l.length ≤ 1000) :
  Calls Try.prog 10 #[v, .string inp] w fun e w' => ∃ c b g', e = .returned (.pointer (some ⟨c, 0, none⟩)) ∧ Yap w' c b g' l inp 0 0 (.map []) ∧ (w.heap.size ≤ c ∧ w.heap.size ≤ b ∧ w.heap.size ≤ g') ∧ Upd [] w w' := by
 have hmm := @run_makeMap Try.prog
 have H := Yh_ (And.intro h hl)
 clear h hl
 go_enter Try.func10, Try.ntmps10
 go_wp2_with (go_at_call 26; refine (Yfr l v g _ H.out.1 H.out.2).mono ?_; rintro e w1 ⟨v', g', rfl, h1, h2, h3⟩; obtain ⟨sa, sc, rfl⟩ := h1.form; have H1 := Yh_ (And.intro h1 (And.intro h2 h3)); clear h1 h2 h3)
 go_ret
 obtain ⟨h1, h2, h3⟩ := H1.out
 have hs := h3.size
 have u1 := (h3.alloc (.map #[] 0)).alloc (.cells #[.slice sa l.length sc, .string inp, .map (some w1.heap.size), .int .i64 0] 82)
 have hm := (World.ownsMap_made w1 Try.prog 3 evR).alloc (.cells #[.slice sa l.length sc, .string inp, .map (some w1.heap.size), .int .i64 0] 82)
 have hk : Rp ((w1.alloc (.map #[] 0)).alloc (.cells #[.slice sa l.length sc, .string inp, .map (some w1.heap.size), .int .i64 0] 82)) (.slice sa l.length sc) l g' := h1.keep (S := []) (((Upd.refl [] w1).alloc _).alloc _) (by simp)
 rcases h2 with h2 | ⟨h2, h4⟩
 ·refine ⟨w1.heap.size + 1, w1.heap.size, w1.heap.size + 2, rfl, ⟨⟨_, heap_alloc2_new w1 _ _, ?_⟩, hm, by omega, by omega, by omega⟩, ⟨by omega, by omega, by omega⟩, u1⟩
  rw [h2]
  refine .inl ⟨rfl, ?_⟩
  injection h2 with _ h2 _
  exact List.eq_nil_of_length_eq_zero h2
 ·exact ⟨w1.heap.size + 1, w1.heap.size, g', rfl, ⟨⟨_, heap_alloc2_new w1 _ _, hk⟩, hm, by omega, by omega, by omega⟩, ⟨by omega, by omega, by omega⟩, u1⟩
end
end Go.Proofs.Ytchoedlinimeaaa
