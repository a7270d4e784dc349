/-
  Package call: read (the guest gets some input). No condition.
-/
import Derived.Test.YtdgclmibbmofcaaMg07
import Derived.Test.YtdgclmibbmofcaaMg04
import Derived.Shelf.SlIterI.Nil
import Derived.Shelf.SortM.Plain
import Derived.Shelf.SortM.SortNone
import Derived.Ground.GgzProg
import Derived.Ground.SlgmProg
import Derived.Shelf.SlMaps.Clone
import Derived.Ground.SlmcProg
import Derived.Test.YtdgclmibbmofcaaProg
import Derived.Carry
namespace Go.Proofs.Ytdgclmibbmofcaa
open Go Go.RowKit
set_option linter.unusedVariables false
set_option linter.unusedSimpArgs false

set_option maxRecDepth 100000 in
theorem str_hi (w : World) (s : ByteArray) (N : Nat) (h : N ≤ s.size) : (Instr.sliceAt 9 (.string s) none (some (.int .i64 N)) none).run Try.prog w = .ok (.string (s.extract 0 N)) w := by
  simp [Instr.sliceAt, run_underlying Try.underlying9, Instr.slice, Instr.sliceBounds, Instr.sliceBound, asIntOf, h]
set_option maxRecDepth 100000 in
theorem str_lo (w : World) (s : ByteArray) (N : Nat) (h : N ≤ s.size) : (Instr.sliceAt 9 (.string s) (some (.int .i64 N)) none none).run Try.prog w = .ok (.string (s.extract N s.size)) w := by
  simp [Instr.sliceAt, run_underlying Try.underlying9, Instr.slice, Instr.sliceBounds, Instr.sliceBound, asIntOf, h]
set_option maxRecDepth 100000 in
theorem str_at (w : World) (s : ByteArray) (q : Nat) (h : q < s.size) : (Instr.index 9 (.string s) (.int .i64 q)).run Try.prog w = .ok (.int .u8 ((strInts s).getD q 0)) w := by
  have e : s[q]? = some s[q] := by simp [h]
  have e2 : (strInts s)[q]?.getD 0 = ((s[q]).toNat : Int) := by
    rw [strInts, List.getElem?_map, Array.getElem?_toList, Array.getElem?_eq_getElem (show q < s.data.size from h)]; rfl
  simp [Instr.index, run_underlying Try.underlying9, asIntOf, e]
  exact e2.symm
theorem write1 (M : Mem) (x v : Int) (h0 : 0 ≤ x) (h1 : x < 4294967296) : M.writeK x 1 = M.can x 2 := by
  have e1 : plus x 0 = x := by unfold plus; omega
  have e2 : (widthI 1).toNat = 1 := by decide
  have hb : M.bad x 2 (widthI 1).toNat = if M.can x 2 = true then none else some 0 := by
    rw [e2, Mem.bad]
    cases hc : M.can x 2
    · rw [if_neg (by decide), List.find?_range_eq_some]
      exact ⟨by rw [e1, hc]; rfl, by simp, fun t ht => by omega⟩
    · rw [if_pos rfl, List.find?_eq_none]
      intro t ht
      have : t = 0 := by simpa using ht
      subst this
      rw [e1, hc]; decide
  unfold Mem.writeK; rw [hb]; cases M.can x 2 <;> rfl
def rdMem (M : Mem) (c : Int) (L : List Int) : Nat → Mem
  | 0 => M
  | k + 1 => (rdMem M c L k).writeM (plus c k) 1 (L.getD k 0)
theorem writeM_Rc (M : Mem) (x b v : Int) : (M.writeM x b v).R = M.R := by
  unfold Mem.writeM; split
  · exact Mem.putN_R M x v _
  · rfl
theorem rdMem_R (M : Mem) (c : Int) (L : List Int) : ∀ k, (rdMem M c L k).R = M.R
  | 0 => rfl
  | k + 1 => by rw [rdMem, writeM_Rc, rdMem_R M c L k]
theorem can_R {M N : Mem} (h : N.R = M.R) (x r : Int) : N.can x r = M.can x r := by unfold Mem.can; rw [h]
def rdN (inp : ByteArray) (d : Int) : Nat := min (min d 64).toNat inp.size
def rdK (M : Mem) (c : Int) (N : Nat) : Bool := (List.range N).all fun i => M.can (plus c i) 2

def evC (n b c d r : Int) (s : ByteArray) : Array Value := #[.int .u32 n, .int .u32 b, .int .u32 c, .int .u32 d, .int .u32 r, .string s]
/-- What comes of a read. -/
def RdPost (M : Mem) (ec : Int) (N : Nat) (inp : ByteArray) (R : Int) (S I : ByteArray) (M2 : Mem) : Prop :=
  (rdK M ec N = true → R = (N : Int) ∧ S = inp.extract 0 N ∧ I = inp.extract N inp.size ∧ M2 = rdMem M ec (strInts (inp.extract 0 N)) N) ∧
  (rdK M ec N = false → R = 4294967282 ∧ S = ByteArray.empty ∧ I = inp ∧ M2 = M)
/-- Along read: what it reads. -/
structure RdS (w : World) (c : Nat) (C4 C6 : Array Value) (w1 : World) : Prop where
  u : Upd [] w w1
  c : w1.heap[c]? = some (.cells C4 77 (0, 0))
  e : w1.heap[w.heap.size]? = some (.cells C6 70 (0, 0))
theorem RdS.step {w : World} {c : Nat} {C4 C6 : Array Value} {w1 w2 : World} (h : RdS w c C4 C6 w1) (u : Upd [] w1 w2) : RdS w c C4 C6 w2 := ⟨h.u.also u (by simp), u.get h.c (by simp), u.get h.e (by simp)⟩

/-- Along its second loop: the guest's memory too. -/
structure RdT (w : World) (c a pb : Nat) (C4 C6 : Array Value) (N : Mem) (w1 : World) : Prop where
  u : Upd [pb] w w1
  c : w1.heap[c]? = some (.cells C4 77 (0, 0))
  e : w1.heap[w.heap.size]? = some (.cells C6 70 (0, 0))
  m : IsMem w1 a pb N
theorem RdT.quiet {w : World} {c a pb : Nat} {C4 C6 : Array Value} {N : Mem} {w1 w2 : World} (h : RdT w c a pb C4 C6 N w1) (u : Upd [] w1 w2) : RdT w c a pb C4 C6 N w2 :=
  ⟨h.u.also u (by simp), u.get h.c (by simp), u.get h.e (by simp), h.m.keep u (by simp) (by simp)⟩
theorem RdT.wr {w : World} {c a pb : Nat} {C4 C6 : Array Value} {N N2 : Mem} {w1 w2 : World} (h : RdT w c a pb C4 C6 N w1) (hm : IsMem w2 a pb N2) (u : Upd [pb] w1 w2) (h1 : pb ≠ c) (h2 : pb ≠ w.heap.size) : RdT w c a pb C4 C6 N2 w2 :=
  ⟨h.u.also u (by simp), u.get h.c (by simp; exact fun e => h1 e.symm), u.get h.e (by simp; exact fun e => h2 e.symm), hm⟩
def fltC (F : Flt) : Array Value := #[.int .i64 F.k, .int .u32 F.pc, .int .u32 F.a, .int .i64 F.wt]
theorem cq_ne {d : Nat → Bool} {m i : Nat} (h : i ≠ m) : updD d m i = d i := by simp [updD, h]
theorem cq_eq {d : Nat → Bool} {m : Nat} : updD d m m = true := by simp [updD]
theorem cv_eq {r : Nat → Value} {m : Nat} {v : Value} : updV r m v m = v := by simp [updV]
theorem wp_store_fltc {op : Oper} {A : Act} {w : World} {K : Act → World → Prop} {Q : Exit → Act → World → Prop} (F Z : Flt) (g : Nat) (x y : Operand) (ho : op.op = .store 112 x y) (hx : A.eval x = .pointer (some ⟨g, 0, none⟩)) (hy : A.eval y = F.val)
    (hb : w.heap[g]? = some (.cells (fltC Z) 112 (0, 0))) (hK : K (A.put op.dst undef) (w.setCells g 0 (fltC F).toList)) : op.wp Try.prog A w K Q :=
  wp_store_mid 112 x y ho g 0 (fltC F) hx hy (there_of hb 0 4 (by simp [fltC])) fault_info (by simp [fltC, Value.oneCell']) hK
/-- Along the loop's region: a byte is written into a memory (b2, q2), the fault is laid (14) and stored (15). -/
structure RdL (w : World) (c : Nat) (C4 C6 : Array Value) (b2 q2 : Nat) (N1 N2 : Mem) (F : Flt) (n0 : Nat) (dn : Nat → Bool) (r : Nat → Value) (w1 : World) : Prop where
  k : RdS w c C4 C6 w1
  m : IsMem w1 b2 q2 (cond (dn 10) N2 N1)
  b : n0 ≤ w1.heap.size
  ln : c < n0 ∧ w.heap.size < n0 ∧ b2 < n0 ∧ q2 < n0 ∧ w.heap.size ≤ q2 ∧ c ≠ q2 ∧ w.heap.size ≠ q2
  y : dn 14 = true → ∃ g, r 14 = .pointer (some ⟨g, 0, none⟩) ∧ n0 ≤ g ∧ w1.heap[g]? = some (.cells (fltC (cond (dn 15) F Flt.zero)) 112 (0, 0))
  yo : dn 15 = true → dn 14 = true
section
variable {w w1 w2 : World} {c b2 q2 n0 : Nat} {C4 C6 : Array Value} {N1 N2 : Mem} {F : Flt} {dn : Nat → Bool} {r : Nat → Value}
theorem RdL.quiet (h : RdL w c C4 C6 b2 q2 N1 N2 F n0 dn r w1) (u : Upd [] w1 w2) (j : Nat) (h1 : 10 ≠ j) (h2 : 14 ≠ j) (h3 : 15 ≠ j) : RdL w c C4 C6 b2 q2 N1 N2 F n0 (updD dn j) r w2 := by
  refine ⟨h.k.step u, by rw [cq_ne h1]; exact h.m.keep u (by simp) (by simp), Nat.le_trans h.b u.size, h.ln, fun hx => ?_, fun hx => ?_⟩
  · rw [cq_ne h2] at hx; rw [cq_ne h3]; obtain ⟨g, e1, e2, e3⟩ := h.y hx; exact ⟨g, e1, e2, u.get e3 (by simp)⟩
  · rw [cq_ne h3] at hx; rw [cq_ne h2]; exact h.yo hx
theorem RdL.same (h : RdL w c C4 C6 b2 q2 N1 N2 F n0 dn r w1) (j : Nat) (h1 : 10 ≠ j) (h2 : 14 ≠ j) (h3 : 15 ≠ j) : RdL w c C4 C6 b2 q2 N1 N2 F n0 (updD dn j) r w1 := h.quiet (Upd.refl [] w1) j h1 h2 h3
theorem RdL.call (h : RdL w c C4 C6 b2 q2 N1 N2 F n0 dn r w1) (hm : IsMem w2 b2 q2 N2) (u : Upd [q2] w1 w2) : RdL w c C4 C6 b2 q2 N1 N2 F n0 (updD dn 10) r w2 := by
  have hl := h.ln
  refine ⟨⟨h.k.u.also u (by simp; omega), u.get h.k.c (by simp; omega), u.get h.k.e (by simp; omega)⟩, by rw [cq_eq]; exact hm, Nat.le_trans h.b u.size, h.ln, fun hx => ?_, fun hx => ?_⟩
  · rw [cq_ne (by decide)] at hx; rw [cq_ne (by decide)]; obtain ⟨g, e1, e2, e3⟩ := h.y hx; exact ⟨g, e1, e2, u.get e3 (by simp; omega)⟩
  · rw [cq_ne (by decide)] at hx; rw [cq_ne (by decide)]; exact h.yo hx
theorem RdL.lay (h : RdL w c C4 C6 b2 q2 N1 N2 F n0 dn r w1) (hd : dn 14 = false) : RdL w c C4 C6 b2 q2 N1 N2 F n0 (updD dn 14) (updV r 14 (.pointer (some ⟨w1.heap.size, 0, none⟩))) (w1.alloc (.cells (fltC Flt.zero) 112)) := by
  have hq : dn 15 = false := by
    cases hh : dn 15 with
    | false => rfl
    | true => rw [h.yo hh] at hd; cases hd
  have u := (Upd.refl [] w1).alloc (.cells (fltC Flt.zero) 112)
  refine ⟨h.k.step u, by rw [cq_ne (by decide)]; exact h.m.keep u (by simp) (by simp), Nat.le_trans h.b u.size, h.ln, fun _ => ⟨_, cv_eq, h.b, ?_⟩, fun _ => cq_eq⟩
  rw [cq_ne (by decide), hq]; exact heap_alloc_new _ _
theorem RdL.put (h : RdL w c C4 C6 b2 q2 N1 N2 F n0 dn r w1) (hd : dn 14 = true) {g : Nat} (e1 : r 14 = .pointer (some ⟨g, 0, none⟩)) : RdL w c C4 C6 b2 q2 N1 N2 F n0 (updD dn 15) r (w1.setCells g 0 (fltC F).toList) := by
  obtain ⟨g', e1', e2, e3⟩ := h.y hd
  obtain rfl : g' = g := by rw [e1] at e1'; injection e1' with e; injection e with e; injection e with e; exact e.symm
  have hl := h.ln
  have u := (Upd.refl [g'] w1).setCells (q := g') (.inl (by simp)) (fltC F).toList 0
  refine ⟨⟨h.k.u.also u (fun x hx => .inr (by rw [List.mem_singleton.1 hx]; omega)), u.get h.k.c (by simp; omega), u.get h.k.e (by simp; omega)⟩, by rw [cq_ne (by decide)]; exact h.m.keep u (by simp; omega) (by simp; omega), Nat.le_trans h.b u.size, h.ln, fun _ => ⟨g', e1, e2, ?_⟩, fun _ => by rw [cq_ne (by decide)]; exact hd⟩
  rw [cq_eq]
  show _ = some (Obj.cells (fltC F) 112 (0, 0))
  rw [heap_setCells_same _ _ _ _ e3]
  cases dn 15 <;> rfl
end
set_option maxRecDepth 100000 in
set_option maxHeartbeats 4000000 in
theorem read_any (M : Mem) (a pb c b n0 ln sc : Nat) (sa : Option Addr) (inp : ByteArray) (en eb ec ed er : Int) (es : ByteArray) (w : World) (hM : IsMem w a pb M) (hc0 : w.heap[c]? = some (.cells #[.slice sa ln sc, .string inp, .map (some b), .int .i64 n0] 77 (0, 0))) (hne : c ≠ a ∧ c ≠ pb)
    (hc : 0 ≤ ec ∧ ec < 4294967296) (hd : 0 ≤ ed ∧ ed < 4294967296) :
    Calls Try.prog 24 #[.pointer (some ⟨c, 0, none⟩), .pointer (some ⟨a, 0, none⟩), .agg #[.int .u32 en, .int .u32 eb, .int .u32 ec, .int .u32 ed, .int .u32 er, .string es]] w fun x w' =>
      ∃ (R : Int) (S I : ByteArray) (M2 : Mem), x = .returned (.tuple #[.int .u32 R, .string S]) ∧ IsMem w' a pb M2 ∧ w'.heap[c]? = some (.cells #[.slice sa ln sc, .string I, .map (some b), .int .i64 n0] 77 (0, 0)) ∧ Upd [c, pb] w w' ∧
        RdPost M ec (rdN inp ed) inp R S I M2 := by
  obtain ⟨N, hN⟩ : ∃ N, rdN inp ed = N := ⟨_, rfl⟩
  rw [hN]
  have hNs : N ≤ inp.size ∧ N ≤ 64 := by rw [← hN]; unfold rdN; omega
  have hmin : min (min ed 64) (inp.size : Int) = (N : Int) := by rw [← hN]; unfold rdN; omega
  obtain ⟨dl, hdl⟩ : ∃ dl, min ed 64 = dl := ⟨_, rfl⟩
  rw [hdl] at hmin
  obtain ⟨sz, hsz⟩ : ∃ sz : Int, (inp.size : Int) = sz := ⟨_, rfl⟩
  rw [hsz] at hmin
  obtain ⟨ni, hni⟩ : ∃ ni : Int, (N : Int) = ni := ⟨_, rfl⟩
  have hmr : ∀ w, (Builtin.min_ #[3, 3] 3 #[.int .i64 dl, .int .i64 sz]).run Try.prog w = .ok (.int .i64 ni) w := by
    intro w
    have h2 : (if sz < dl then sz else dl) = ni := by rw [← hni, ← hmin]; omega
    simp [Builtin.min_, Builtin.min2, h2]
  have hsl := fun w' => str_hi w' inp N hNs.1
  obtain ⟨S, hS⟩ : ∃ S, inp.extract 0 N = S := ⟨_, rfl⟩
  have hSs : S.size = N := by rw [← hS]; simp; omega
  rw [hni, hS] at hsl
  have hss : (S.size : Int) = ni := by rw [hSs]; exact hni
  have HH := Lib.hid (And.intro hM (And.intro hc0 (And.intro hne (And.intro hc (And.intro hd (And.intro hNs (And.intro hdl (And.intro hsz (And.intro hN (And.intro hni (And.intro hSs hS)))))))))))
  have S0 := Lib.hid (show RdS w c #[.slice sa ln sc, .string inp, .map (some b), .int .i64 n0] #[.int .u32 en, .int .u32 eb, .int .u32 ec, .int .u32 ed, .int .u32 er, .string es] (w.alloc (.cells #[.int .u32 en, .int .u32 eb, .int .u32 ec, .int .u32 ed, .int .u32 er, .string es] 70)) from ⟨(Upd.refl _ _).alloc _, heap_alloc_keep _ hc0, heap_alloc_new w _⟩)
  clear hM hne hc hNs hmin hc0 hd hdl hN hni hS hSs
  go_enter Try.func24, Try.ntmps24
  go_upto_region 1 with fail
  refine wp_draw 14 (RdS w c #[.slice sa ln sc, .string inp, .map (some b), .int .i64 n0] #[.int .u32 en, .int .u32 eb, .int .u32 ec, .int .u32 ed, .int .u32 er, .string es]) (fun _ _ => False) (by kernel_rfl) (by decide +kernel) (S0.out.step (Upd.refl [] _).drew) (fun _ _ _ h => h.elim) ?_
  simp only [List.take_succ_cons, List.take_zero, List.drop_succ_cons, List.drop_zero]
  iterate 14
    apply headW_val rfl rfl
    · intro K hK w5 hB1
      have f1 := cells_of hB1.c
      have f2 := cells_of hB1.e
      have HB := Lib.hid hB1
      clear hB1
      go_wp2_with (go_at_call 47; refine (length_any ⟨en, eb, ec, ed, er, es⟩ HH.out.2.2.2.2.1 _).mono ?_; rintro e w6 ⟨rfl, hu⟩; rw [show min (⟨en, eb, ec, ed, er, es⟩ : Ev).d 64 = dl from HH.out.2.2.2.2.2.2.1]; have HB2 := Lib.hid (HB.out.step hu); clear hu HB)
      first
      | exact hK _ HB.out
      | exact HB.out
      | exact hK _ HB2.out
      | exact HB2.out
    · exact ⟨_, rfl⟩
  refine headW_nil (fun _ w6 hB1 => ?_)
  have S1 := Lib.hid hB1
  clear hB1 S0 hmr hsl
  go_wp2_with (go_at_call 48; refine (Copy_any M a pb _ (HH.out.1.keep S1.out.u (by simp) (by simp))).mono ?_; rintro e w7 ⟨b2, q2, rfl, h1, h2, h3, h4⟩; have HC2 := Lib.hid (And.intro h1 (And.intro h2 (And.intro h3 h4))); clear h1 h2 h3 h4)
  have SW := Lib.hid (show RdS w c #[.slice sa ln sc, .string inp, .map (some b), .int .i64 n0] #[.int .u32 en, .int .u32 eb, .int .u32 ec, .int .u32 ed, .int .u32 er, .string es] w7 from S1.out.step HC2.out.2.2.2)
  go_loopw [31] (fun i wr => ∃ q : Int, i = .int .i64 q ∧ Hid (0 ≤ q ∧ q ≤ ni) ∧ Hid (∀ t, t < q.toNat → M.can (plus ec t) 2 = true) ∧ Hid (RdS w c #[.slice sa ln sc, .string inp, .map (some b), .int .i64 n0] #[.int .u32 en, .int .u32 eb, .int .u32 ec, .int .u32 ed, .int .u32 er, .string es] wr) ∧ Hid (IsMem wr b2 q2 (rdMem M ec (strInts S) q.toNat)) ) (fun i _ => (ni - intOf i).toNat)
  case atStart => exact ⟨0, rfl, Lib.hid ⟨Int.le_refl _, by have := HH.out.2.2.2.2.2.2.2.2.2.1; omega⟩, Lib.hid (fun t ht => by simp at ht), SW, Lib.hid HC2.out.2.2.1⟩
  case round =>
    obtain ⟨q, rfl, hq, hno, hR, hI⟩ := hrel
    by_cases hlt : q < ni
    · have dlt : decide (q < ni) = true := by simp [hlt]
      have hqq := hq.out
      have hnn := HH.out.2.2.2.2.2.2.2.2.2
      have hN64 := HH.out.2.2.2.2.2.1
      have e1 : q % 4294967296 = q := by omega
      have hx : plus ec q.toNat = (ec + q) % 4294967296 := by unfold plus; rw [show ((q.toNat : Nat) : Int) = q by omega]
      have hxr : 0 ≤ (ec + q) % 4294967296 ∧ (ec + q) % 4294967296 < 4294967296 := by omega
      obtain ⟨y, hy⟩ : ∃ y, (strInts S).getD q.toNat 0 = y := ⟨_, rfl⟩
      have hy2 : 0 ≤ y ∧ y ≤ 255 := by rw [← hy]; exact strInts_ok S _
      have e3 : y % 4294967296 = y := by omega
      have hix := fun w' => str_at w' S q.toNat (by omega)
      rw [show ((q.toNat : Nat) : Int) = q by omega, hy] at hix
      obtain ⟨F, hF⟩ : ∃ F, (rdMem M ec (strInts S) q.toNat).wrF ((ec + q) % 4294967296) 1 = F := ⟨_, rfl⟩
      have hwk : (rdMem M ec (strInts S) q.toNat).writeK ((ec + q) % 4294967296) 1 = M.can ((ec + q) % 4294967296) 2 := (write1 _ ((ec + q) % 4294967296) y hxr.1 hxr.2).trans (can_R (rdMem_R M ec _ _) ((ec + q) % 4294967296) 2)
      have HX := Lib.hid (show (0 ≤ ((ec + q) % 4294967296) ∧ ((ec + q) % 4294967296) < 4294967296) ∧ (0 ≤ y ∧ y < 4294967296) from ⟨hxr, by omega⟩)
      have HB1 := Lib.hid (show (0 ≤ q ∧ q < ni) ∧ plus ec q.toNat = ((ec + q) % 4294967296) ∧ (strInts S).getD q.toNat 0 = y from ⟨by omega, hx, hy⟩)
      have hlts : c < wr.heap.size ∧ w.heap.size < wr.heap.size ∧ b2 < wr.heap.size ∧ q2 < wr.heap.size ∧ w.heap.size ≤ q2 ∧ c ≠ q2 ∧ w.heap.size ≠ q2 := by
        have h1 := lt_of_heap hR.out.c
        have h2 := lt_of_heap hR.out.e
        have h3 := hI.out.al
        have h4 := hI.out.pl
        have h5 := HC2.out.2.1
        have h6 := lt_of_heap S1.out.c
        have h7 := lt_of_heap S1.out.e
        exact ⟨h1, h2, h3, h4, by omega, by omega, by omega⟩
      have HL0 := Lib.hid (show ∀ r0, RdL w c #[.slice sa ln sc, .string inp, .map (some b), .int .i64 n0] #[.int .u32 en, .int .u32 eb, .int .u32 ec, .int .u32 ed, .int .u32 er, .string es] b2 q2 (rdMem M ec (strInts S) q.toNat) ((rdMem M ec (strInts S) q.toNat).writeM ((ec + q) % 4294967296) 1 y) F wr.heap.size (fun _ => false) r0 wr.drew from fun r0 => ⟨hR.out.step (Upd.refl [] _).drew, hI.out.keep (Upd.refl [] wr).drew (by simp) (by simp), ((Upd.refl [] wr).drew).size, hlts, fun h => (by cases h), fun h => (by cases h)⟩)
      clear hqq hnn hN64 hx hxr hy hy2 hlt hlts
      cases hcan : M.can ((ec + q) % 4294967296) 2
      · have HK := Lib.hid (And.intro (hwk.trans hcan) hF)
        have HN := Lib.hid hcan
        clear hwk hcan hF
        go_upto_region 6 with fail
        refine wp_drawE 16 (RdL w c #[.slice sa ln sc, .string inp, .map (some b), .int .i64 n0] #[.int .u32 en, .int .u32 eb, .int .u32 ec, .int .u32 ed, .int .u32 er, .string es] b2 q2 (rdMem M ec (strInts S) q.toNat) ((rdMem M ec (strInts S) q.toNat).writeM ((ec + q) % 4294967296) 1 y) F wr.heap.size) (fun _ _ => False) (by kernel_rfl) (by decide +kernel) (fun r0 => HL0.out r0) (fun _ _ _ h => h.elim) ?_
        simp only [List.take_succ_cons, List.take_zero, List.drop_succ_cons, List.drop_zero]
        apply headE_val0 rfl rfl
        · intro dn r0 K hd hdep hK w5 hB1
          have f2 := cells_of hB1.k.e
          have HB := Lib.hid hB1
          have HD := Lib.hid hd
          clear hB1 hdep hd
          go_wp2_with fail
          first
          | exact hK _ (HB.out.same 0 (by decide) (by decide) (by decide))
          | exact (HB.out.same 0 (by decide) (by decide) (by decide))
        · exact ⟨_, rfl⟩
        apply headE_val0 rfl rfl
        · intro dn r0 K hd hdep hK w5 hB1
          have f2 := cells_of hB1.k.e
          have HB := Lib.hid hB1
          have HD := Lib.hid hd
          clear hB1 hdep hd
          go_wp2_with fail
          first
          | exact hK _ (HB.out.same 1 (by decide) (by decide) (by decide))
          | exact (HB.out.same 1 (by decide) (by decide) (by decide))
        · exact ⟨_, rfl⟩
        apply headE_val0 rfl rfl
        · intro dn r0 K hd hdep hK w5 hB1
          have f2 := cells_of hB1.k.e
          have HB := Lib.hid hB1
          have HD := Lib.hid hd
          clear hB1 hdep hd
          go_wp2_with fail
          first
          | exact hK _ (HB.out.same 2 (by decide) (by decide) (by decide))
          | exact (HB.out.same 2 (by decide) (by decide) (by decide))
        · exact ⟨_, rfl⟩
        apply headE_val0 rfl rfl
        · intro dn r0 K hd hdep hK w5 hB1
          have f2 := cells_of hB1.k.e
          have HB := Lib.hid hB1
          have HD := Lib.hid hd
          clear hB1 hdep hd
          go_wp2_with fail
          first
          | exact hK _ (HB.out.same 3 (by decide) (by decide) (by decide))
          | exact (HB.out.same 3 (by decide) (by decide) (by decide))
        · exact ⟨_, rfl⟩
        apply headE_val0 rfl rfl
        · intro dn r0 K hd hdep hK w5 hB1
          have f2 := cells_of hB1.k.e
          have HB := Lib.hid hB1
          have HD := Lib.hid hd
          clear hB1 hdep hd
          go_wp2_with fail
          first
          | exact hK _ (HB.out.same 4 (by decide) (by decide) (by decide))
          | exact (HB.out.same 4 (by decide) (by decide) (by decide))
        · exact ⟨_, rfl⟩
        apply headE_val0 rfl rfl
        · intro dn r0 K hd hdep hK w5 hB1
          have f2 := cells_of hB1.k.e
          have HB := Lib.hid hB1
          have HD := Lib.hid hd
          clear hB1 hdep hd
          go_wp2_with fail
          first
          | exact hK _ (HB.out.same 5 (by decide) (by decide) (by decide))
          | exact (HB.out.same 5 (by decide) (by decide) (by decide))
        · exact ⟨_, rfl⟩
        apply headE_val0 rfl rfl
        · intro dn r0 K hd hdep hK w5 hB1
          have f2 := cells_of hB1.k.e
          have HB := Lib.hid hB1
          have HD := Lib.hid hd
          clear hB1 hdep hd
          go_wp2_with fail
          first
          | exact hK _ (HB.out.same 6 (by decide) (by decide) (by decide))
          | exact (HB.out.same 6 (by decide) (by decide) (by decide))
        · exact ⟨_, rfl⟩
        apply headE_val0 rfl rfl
        · intro dn r0 K hd hdep hK w5 hB1
          have f2 := cells_of hB1.k.e
          have HB := Lib.hid hB1
          have HD := Lib.hid hd
          clear hB1 hdep hd
          go_wp2_with fail
          first
          | exact hK _ (HB.out.same 7 (by decide) (by decide) (by decide))
          | exact (HB.out.same 7 (by decide) (by decide) (by decide))
        · exact ⟨_, rfl⟩
        apply headE_val0 rfl rfl
        · intro dn r0 K hd hdep hK w5 hB1
          have f2 := cells_of hB1.k.e
          have HB := Lib.hid hB1
          have HD := Lib.hid hd
          clear hB1 hdep hd
          go_wp2_with fail
          first
          | exact hK _ (HB.out.same 8 (by decide) (by decide) (by decide))
          | exact (HB.out.same 8 (by decide) (by decide) (by decide))
        · exact ⟨_, rfl⟩
        apply headE_val0 rfl rfl
        · intro dn r0 K hd hdep hK w5 hB1
          have f2 := cells_of hB1.k.e
          have HB := Lib.hid hB1
          have HD := Lib.hid hd
          clear hB1 hdep hd
          go_wp2_with fail
          first
          | exact hK _ (HB.out.same 9 (by decide) (by decide) (by decide))
          | exact (HB.out.same 9 (by decide) (by decide) (by decide))
        · exact ⟨_, rfl⟩
        apply headE_val0 rfl rfl
        · intro dn r0 K hd hdep hK w5 hB1
          have f2 := cells_of hB1.k.e
          have HB := Lib.hid hB1
          have HD := Lib.hid hd
          clear hB1 hdep hd
          go_wp2_with (go_at_call 49; have hm0 := HB.out.m; rw [HD.out] at hm0; refine (Write_any (rdMem M ec (strInts S) q.toNat) b2 q2 ((ec + q) % 4294967296) 1 y _ hm0 HX.out.1.1 HX.out.1.2 HX.out.2.1 HX.out.2.2).mono ?_; rintro e w6 ⟨rfl, hm6, hu6⟩; rw [HK.out.1, Mem.writeF_val, HK.out.2]; unfold Flt.val)
          first
          | exact hK _ (HB.out.call hm6 hu6)
          | exact (HB.out.call hm6 hu6)
        · exact ⟨_, rfl⟩
        apply headE_val0 rfl rfl
        · intro dn r0 K hd hdep hK w5 hB1
          have f2 := cells_of hB1.k.e
          have HB := Lib.hid hB1
          have HD := Lib.hid hd
          clear hB1 hdep hd
          go_wp2_with fail
          first
          | exact hK _ (HB.out.same 11 (by decide) (by decide) (by decide))
          | exact (HB.out.same 11 (by decide) (by decide) (by decide))
        · exact ⟨_, rfl⟩
        apply headE_val0 rfl rfl
        · intro dn r0 K hd hdep hK w5 hB1
          have f2 := cells_of hB1.k.e
          have HB := Lib.hid hB1
          have HD := Lib.hid hd
          clear hB1 hdep hd
          go_wp2_with fail
          first
          | exact hK _ (HB.out.same 12 (by decide) (by decide) (by decide))
          | exact (HB.out.same 12 (by decide) (by decide) (by decide))
        · exact ⟨_, rfl⟩
        apply headE_val0 rfl rfl
        · intro dn r0 K hd hdep hK w5 hB1
          have f2 := cells_of hB1.k.e
          have HB := Lib.hid hB1
          have HD := Lib.hid hd
          clear hB1 hdep hd
          go_wp2_with fail
          first
          | exact hK _ (HB.out.same 13 (by decide) (by decide) (by decide))
          | exact (HB.out.same 13 (by decide) (by decide) (by decide))
        · exact ⟨_, rfl⟩
        refine headE_free rfl (fun _ => rfl) 11 rfl (by simp [Act.put]) ?_ ?_
        · intro dn r0 K hd w5 hB1 hK
          have HB := Lib.hid hB1
          clear hB1
          simp only [fillE]
          go_wp2_with fail
          first
          | exact hK (.pointer (some ⟨w5.heap.size, 0, none⟩)) _ (HB.out.lay hd)
          | exact HB.out.lay hd
        apply headE_val rfl (fun _ => rfl)
        · intro dn r0 K hd hdep hK w5 hB1
          have h8 : dn 14 = true := hdep ⟨14, .data⟩ (by simp) rfl
          obtain ⟨g0, e1, e2, e3⟩ := hB1.y h8
          refine wp_store_fltc F (cond (dn 15) F Flt.zero) g0 _ _ rfl (by show r0 14 = _; exact e1) rfl e3 ?_
          exact hK _ (hB1.put h8 e1)
        · exact ⟨undef, fun _ => rfl, Eq.symm (by go_simp; exact rfl)⟩
        refine headE_nil (fun _ r0 w8 dn hall hB2 => ?_)
        obtain ⟨gF, e1, e2, e3⟩ := hB2.y (hall 14 (by decide))
        have hm8 := hB2.m
        rw [hall 10 (by decide)] at hm8
        have HW8 := Lib.hid (And.intro hB2.k hm8)
        show wpList _ _ _ _ (Act.put (fillE _ _ [] _) (some 11) (r0 14)) _
        rw [e1]
        simp only [fillE]
        clear e1 e2 e3 hall hB2 hm8
        go_wp2_with (go_at_call 28; refine (result_any (-14) (by decide) _).mono ?_; rintro e w9 ⟨rfl, hu⟩; have HU9 := Lib.hid hu; clear hu)
        go_ret2
        have u9 := HW8.out.1.u.also HU9.out (by simp)
        refine ⟨_, _, inp, M, rfl, HH.out.1.keep u9 (by simp) (by simp), u9.get HH.out.2.1 (by simp), u9.mono (by simp), fun h => ?_, fun _ => ⟨rfl, rfl, rfl, rfl⟩⟩
        rw [rdK, List.all_eq_true] at h
        have h2 := h q.toNat (by rw [List.mem_range]; have h1 := HB1.out.1; have h3 := HH.out.2.2.2.2.2.2.2.2.2.1; omega)
        rw [HB1.out.2.1, HN.out] at h2
        cases h2
      · have HK := Lib.hid (And.intro (hwk.trans hcan) hF)
        have HN := Lib.hid hcan
        clear hwk hcan hF
        go_upto_region 6 with fail
        refine wp_drawE 16 (RdL w c #[.slice sa ln sc, .string inp, .map (some b), .int .i64 n0] #[.int .u32 en, .int .u32 eb, .int .u32 ec, .int .u32 ed, .int .u32 er, .string es] b2 q2 (rdMem M ec (strInts S) q.toNat) ((rdMem M ec (strInts S) q.toNat).writeM ((ec + q) % 4294967296) 1 y) F wr.heap.size) (fun _ _ => False) (by kernel_rfl) (by decide +kernel) (fun r0 => HL0.out r0) (fun _ _ _ h => h.elim) ?_
        simp only [List.take_succ_cons, List.take_zero, List.drop_succ_cons, List.drop_zero]
        apply headE_val0 rfl rfl
        · intro dn r0 K hd hdep hK w5 hB1
          have f2 := cells_of hB1.k.e
          have HB := Lib.hid hB1
          have HD := Lib.hid hd
          clear hB1 hdep hd
          go_wp2_with fail
          first
          | exact hK _ (HB.out.same 0 (by decide) (by decide) (by decide))
          | exact (HB.out.same 0 (by decide) (by decide) (by decide))
        · exact ⟨_, rfl⟩
        apply headE_val0 rfl rfl
        · intro dn r0 K hd hdep hK w5 hB1
          have f2 := cells_of hB1.k.e
          have HB := Lib.hid hB1
          have HD := Lib.hid hd
          clear hB1 hdep hd
          go_wp2_with fail
          first
          | exact hK _ (HB.out.same 1 (by decide) (by decide) (by decide))
          | exact (HB.out.same 1 (by decide) (by decide) (by decide))
        · exact ⟨_, rfl⟩
        apply headE_val0 rfl rfl
        · intro dn r0 K hd hdep hK w5 hB1
          have f2 := cells_of hB1.k.e
          have HB := Lib.hid hB1
          have HD := Lib.hid hd
          clear hB1 hdep hd
          go_wp2_with fail
          first
          | exact hK _ (HB.out.same 2 (by decide) (by decide) (by decide))
          | exact (HB.out.same 2 (by decide) (by decide) (by decide))
        · exact ⟨_, rfl⟩
        apply headE_val0 rfl rfl
        · intro dn r0 K hd hdep hK w5 hB1
          have f2 := cells_of hB1.k.e
          have HB := Lib.hid hB1
          have HD := Lib.hid hd
          clear hB1 hdep hd
          go_wp2_with fail
          first
          | exact hK _ (HB.out.same 3 (by decide) (by decide) (by decide))
          | exact (HB.out.same 3 (by decide) (by decide) (by decide))
        · exact ⟨_, rfl⟩
        apply headE_val0 rfl rfl
        · intro dn r0 K hd hdep hK w5 hB1
          have f2 := cells_of hB1.k.e
          have HB := Lib.hid hB1
          have HD := Lib.hid hd
          clear hB1 hdep hd
          go_wp2_with fail
          first
          | exact hK _ (HB.out.same 4 (by decide) (by decide) (by decide))
          | exact (HB.out.same 4 (by decide) (by decide) (by decide))
        · exact ⟨_, rfl⟩
        apply headE_val0 rfl rfl
        · intro dn r0 K hd hdep hK w5 hB1
          have f2 := cells_of hB1.k.e
          have HB := Lib.hid hB1
          have HD := Lib.hid hd
          clear hB1 hdep hd
          go_wp2_with fail
          first
          | exact hK _ (HB.out.same 5 (by decide) (by decide) (by decide))
          | exact (HB.out.same 5 (by decide) (by decide) (by decide))
        · exact ⟨_, rfl⟩
        apply headE_val0 rfl rfl
        · intro dn r0 K hd hdep hK w5 hB1
          have f2 := cells_of hB1.k.e
          have HB := Lib.hid hB1
          have HD := Lib.hid hd
          clear hB1 hdep hd
          go_wp2_with fail
          first
          | exact hK _ (HB.out.same 6 (by decide) (by decide) (by decide))
          | exact (HB.out.same 6 (by decide) (by decide) (by decide))
        · exact ⟨_, rfl⟩
        apply headE_val0 rfl rfl
        · intro dn r0 K hd hdep hK w5 hB1
          have f2 := cells_of hB1.k.e
          have HB := Lib.hid hB1
          have HD := Lib.hid hd
          clear hB1 hdep hd
          go_wp2_with fail
          first
          | exact hK _ (HB.out.same 7 (by decide) (by decide) (by decide))
          | exact (HB.out.same 7 (by decide) (by decide) (by decide))
        · exact ⟨_, rfl⟩
        apply headE_val0 rfl rfl
        · intro dn r0 K hd hdep hK w5 hB1
          have f2 := cells_of hB1.k.e
          have HB := Lib.hid hB1
          have HD := Lib.hid hd
          clear hB1 hdep hd
          go_wp2_with fail
          first
          | exact hK _ (HB.out.same 8 (by decide) (by decide) (by decide))
          | exact (HB.out.same 8 (by decide) (by decide) (by decide))
        · exact ⟨_, rfl⟩
        apply headE_val0 rfl rfl
        · intro dn r0 K hd hdep hK w5 hB1
          have f2 := cells_of hB1.k.e
          have HB := Lib.hid hB1
          have HD := Lib.hid hd
          clear hB1 hdep hd
          go_wp2_with fail
          first
          | exact hK _ (HB.out.same 9 (by decide) (by decide) (by decide))
          | exact (HB.out.same 9 (by decide) (by decide) (by decide))
        · exact ⟨_, rfl⟩
        apply headE_val0 rfl rfl
        · intro dn r0 K hd hdep hK w5 hB1
          have f2 := cells_of hB1.k.e
          have HB := Lib.hid hB1
          have HD := Lib.hid hd
          clear hB1 hdep hd
          go_wp2_with (go_at_call 49; have hm0 := HB.out.m; rw [HD.out] at hm0; refine (Write_any (rdMem M ec (strInts S) q.toNat) b2 q2 ((ec + q) % 4294967296) 1 y _ hm0 HX.out.1.1 HX.out.1.2 HX.out.2.1 HX.out.2.2).mono ?_; rintro e w6 ⟨rfl, hm6, hu6⟩; rw [HK.out.1, Mem.writeF_val, HK.out.2]; unfold Flt.val)
          first
          | exact hK _ (HB.out.call hm6 hu6)
          | exact (HB.out.call hm6 hu6)
        · exact ⟨_, rfl⟩
        apply headE_val0 rfl rfl
        · intro dn r0 K hd hdep hK w5 hB1
          have f2 := cells_of hB1.k.e
          have HB := Lib.hid hB1
          have HD := Lib.hid hd
          clear hB1 hdep hd
          go_wp2_with fail
          first
          | exact hK _ (HB.out.same 11 (by decide) (by decide) (by decide))
          | exact (HB.out.same 11 (by decide) (by decide) (by decide))
        · exact ⟨_, rfl⟩
        apply headE_val0 rfl rfl
        · intro dn r0 K hd hdep hK w5 hB1
          have f2 := cells_of hB1.k.e
          have HB := Lib.hid hB1
          have HD := Lib.hid hd
          clear hB1 hdep hd
          go_wp2_with fail
          first
          | exact hK _ (HB.out.same 12 (by decide) (by decide) (by decide))
          | exact (HB.out.same 12 (by decide) (by decide) (by decide))
        · exact ⟨_, rfl⟩
        apply headE_val0 rfl rfl
        · intro dn r0 K hd hdep hK w5 hB1
          have f2 := cells_of hB1.k.e
          have HB := Lib.hid hB1
          have HD := Lib.hid hd
          clear hB1 hdep hd
          go_wp2_with fail
          first
          | exact hK _ (HB.out.same 13 (by decide) (by decide) (by decide))
          | exact (HB.out.same 13 (by decide) (by decide) (by decide))
        · exact ⟨_, rfl⟩
        refine headE_free rfl (fun _ => rfl) 11 rfl (by simp [Act.put]) ?_ ?_
        · intro dn r0 K hd w5 hB1 hK
          have HB := Lib.hid hB1
          clear hB1
          simp only [fillE]
          go_wp2_with fail
          first
          | exact hK (.pointer (some ⟨w5.heap.size, 0, none⟩)) _ (HB.out.lay hd)
          | exact HB.out.lay hd
        apply headE_val rfl (fun _ => rfl)
        · intro dn r0 K hd hdep hK w5 hB1
          have h8 : dn 14 = true := hdep ⟨14, .data⟩ (by simp) rfl
          obtain ⟨g0, e1, e2, e3⟩ := hB1.y h8
          refine wp_store_fltc F (cond (dn 15) F Flt.zero) g0 _ _ rfl (by show r0 14 = _; exact e1) rfl e3 ?_
          exact hK _ (hB1.put h8 e1)
        · exact ⟨undef, fun _ => rfl, Eq.symm (by go_simp; exact rfl)⟩
        refine headE_nil (fun _ r0 w8 dn hall hB2 => ?_)
        obtain ⟨gF, e1, e2, e3⟩ := hB2.y (hall 14 (by decide))
        have hm8 := hB2.m
        rw [hall 10 (by decide)] at hm8
        have HW8 := Lib.hid (And.intro hB2.k hm8)
        show wpList _ _ _ _ (Act.put (fillE _ _ [] _) (some 11) (r0 14)) _
        rw [e1]
        simp only [fillE]
        clear e1 e2 e3 hall hB2 hm8
        go_wp2_with fail
        go_roundw
        case rel =>
          have z1 := HB1.out.1
          refine ⟨q + 1, by first | rfl | rw [show wrap64 (q + 1) = q + 1 by unfold wrap64; omega], Lib.hid ⟨by omega, by omega⟩, Lib.hid fun t ht => ?_, Lib.hid HW8.out.1, Lib.hid ?_⟩
          · by_cases e : t = q.toNat
            · subst e; rw [HB1.out.2.1]; exact HN.out
            · exact hno.out t (by omega)
          · have h3 := HW8.out.2
            rw [show (q + 1).toNat = q.toNat + 1 by omega, rdMem, HB1.out.2.1, HB1.out.2.2]
            exact h3
        case measure => have z1 := HB1.out.1; first | (simp only [intOf]; omega) | (simp only [intOf, show wrap64 (q + 1) = q + 1 by unfold wrap64; omega]; omega)
    · have hqn : q = ni := by have := hq.out; omega
      subst hqn
      have dlt : decide (q < q) = false := by simp
      have hall := Lib.hid (show rdK M ec N = true by rw [rdK, List.all_eq_true]; intro t ht; exact hno.out t (by have h3 := HH.out.2.2.2.2.2.2.2.2.2.1; have := List.mem_range.1 ht; omega))
      have T0 := Lib.hid (show RdT w c a pb #[.slice sa ln sc, .string inp, .map (some b), .int .i64 n0] #[.int .u32 en, .int .u32 eb, .int .u32 ec, .int .u32 ed, .int .u32 er, .string es] M wr from ⟨hR.out.u.mono (by simp), hR.out.c, hR.out.e, HH.out.1.keep hR.out.u (by simp) (by simp)⟩)
      have HLT := Lib.hid (show pb ≠ c ∧ pb ≠ w.heap.size by have h1 := HH.out.1.pl; have h2 := HH.out.2.2.1; omega)
      clear hlt hno hI hR hq SW HC2 S1
      go_wp2_with fail
      go_loopw [54] (fun i w7 => ∃ p : Int, i = .int .i64 p ∧ Hid (0 ≤ p ∧ p ≤ q) ∧ Hid (RdT w c a pb #[.slice sa ln sc, .string inp, .map (some b), .int .i64 n0] #[.int .u32 en, .int .u32 eb, .int .u32 ec, .int .u32 ed, .int .u32 er, .string es] (rdMem M ec (strInts S) p.toNat) w7)) (fun i _ => (q - intOf i).toNat)
      case atStart => exact ⟨0, rfl, Lib.hid ⟨Int.le_refl _, by have := HH.out.2.2.2.2.2.2.2.2.2.1; omega⟩, T0⟩
      case round =>
        clear T0
        rename_i w7
        obtain ⟨p, rfl, hp, hT⟩ := hrel
        by_cases hlt : p < q
        · have dlt2 : decide (p < q) = true := by simp [hlt]
          have hqq := hp.out
          have hnn := HH.out.2.2.2.2.2.2.2.2.2
          have hN64 := HH.out.2.2.2.2.2.1
          have e1 : p % 4294967296 = p := by omega
          have hx : plus ec p.toNat = (ec + p) % 4294967296 := by unfold plus; rw [show ((p.toNat : Nat) : Int) = p by omega]
          have hxr : 0 ≤ (ec + p) % 4294967296 ∧ (ec + p) % 4294967296 < 4294967296 := by omega
          obtain ⟨y, hy⟩ : ∃ y, (strInts S).getD p.toNat 0 = y := ⟨_, rfl⟩
          have hy2 : 0 ≤ y ∧ y ≤ 255 := by rw [← hy]; exact strInts_ok S _
          have e3 : y % 4294967296 = y := by omega
          have hix := fun w' => str_at w' S p.toNat (by omega)
          rw [show ((p.toNat : Nat) : Int) = p by omega, hy] at hix
          have HX := Lib.hid (show (0 ≤ (ec + p) % 4294967296 ∧ (ec + p) % 4294967296 < 4294967296) ∧ (0 ≤ y ∧ y < 4294967296) from ⟨hxr, by omega⟩)
          have HB1 := Lib.hid (show (0 ≤ p ∧ p < q) ∧ q ≤ 64 ∧ plus ec p.toNat = (ec + p) % 4294967296 ∧ (strInts S).getD p.toNat 0 = y from ⟨by omega, by omega, hx, hy⟩)
          clear hqq hnn hN64 hx hxr hy hy2 hlt
          go_upto_region 13 with fail
          refine wp_draw 10 (RdT w c a pb #[.slice sa ln sc, .string inp, .map (some b), .int .i64 n0] #[.int .u32 en, .int .u32 eb, .int .u32 ec, .int .u32 ed, .int .u32 er, .string es] (rdMem M ec (strInts S) p.toNat)) (fun _ _ => False) (by kernel_rfl) (by decide +kernel) (hT.out.quiet (Upd.refl [] _).drew) (fun _ _ _ h => h.elim) ?_
          simp only [List.take_succ_cons, List.take_zero, List.drop_succ_cons, List.drop_zero]
          iterate 10
            apply headW_val rfl rfl
            · intro K hK w5 hB1
              have f2 := cells_of hB1.e
              have HB := Lib.hid hB1
              clear hB1
              go_wp2_with fail
              first
              | exact hK _ HB.out
              | exact HB.out
            · exact ⟨_, rfl⟩
          refine headW_nil (fun _ w6 hB1 => ?_)
          have S1 := Lib.hid hB1
          clear hB1
          go_wp2_with (go_at_call 49; refine (Write_any (rdMem M ec (strInts S) p.toNat) a pb ((ec + p) % 4294967296) 1 y _ S1.out.m HX.out.1.1 HX.out.1.2 HX.out.2.1 HX.out.2.2).mono ?_; rintro e w8 ⟨rfl, hm6, hu6⟩; have HW8 := Lib.hid (S1.out.wr hm6 hu6 HLT.out.1 HLT.out.2); clear hm6 hu6)
          go_roundw
          case rel =>
            have z1 := HB1.out.1
            have z2 := HB1.out.2.1
            refine ⟨p + 1, by first | rfl | rw [show wrap64 (p + 1) = p + 1 by unfold wrap64; omega], Lib.hid ⟨by omega, by omega⟩, Lib.hid ?_⟩
            rw [show (p + 1).toNat = p.toNat + 1 by omega, rdMem, HB1.out.2.2.1, HB1.out.2.2.2]
            exact HW8.out
          case measure => have z1 := HB1.out.1; have z2 := HB1.out.2.1; first | (simp only [intOf]; omega) | (simp only [intOf, show wrap64 (p + 1) = p + 1 by unfold wrap64; omega]; omega)
        · have hpn : p = q := by have := hp.out; omega
          subst hpn
          have hlo := fun w' => str_lo w' inp N HH.out.2.2.2.2.2.1.1
          rw [HH.out.2.2.2.2.2.2.2.2.2.1] at hlo
          have c4 := cells_of hT.out.c
          have d4 := free_of hT.out.c
          have hN64 := HH.out.2.2.2.2.2.1
          have hnn := HH.out.2.2.2.2.2.2.2.2.2.1
          have e1 : p % 4294967296 = p := by omega
          clear hlt hN64 hnn
          go_wp2_with fail
          go_ret2
          have hpN : p.toNat = N := by have := HH.out.2.2.2.2.2.2.2.2.2.1; omega
          have hSS := HH.out.2.2.2.2.2.2.2.2.2.2.2
          obtain ⟨ne1, ne2⟩ := HH.out.2.2.1
          have u1 : Upd [c, pb] w wr := hT.out.u.mono (by simp)
          have u2 : Upd [c] wr (wr.setCell ⟨c, 1, none⟩ (.string (inp.extract N inp.size))) := (Upd.refl [c] wr).setCell (p := ⟨c, 1, none⟩) (.inl (by simp)) _
          have u3 := u1.also u2 (by simp)
          refine ⟨p, S, inp.extract N inp.size, rdMem M ec (strInts S) N, rfl, ?_, heap_set_same hT.out.c 1 _, u3, fun _ => ⟨HH.out.2.2.2.2.2.2.2.2.2.1.symm, hSS.symm, rfl, by rw [hSS]⟩, fun h => ?_⟩
          · have hm := hT.out.m
            rw [hpN] at hm
            exact hm.keep u2 (by simp; exact fun e => ne1 e.symm) (by simp; exact fun e => ne2 e.symm)
          · rw [hall.out] at h; cases h
end Go.Proofs.Ytdgclmibbmofcaa

/-
  Sorting the keys of a map of events: the shelf's contracts laid at this seat (printed by wip/tools/lays.sh). No condition.
-/
namespace Go.Proofs.Ytdgclmibbmofcaa
open Go.Shelf
def clKeys_ren : Go.Shelf.Ren := ⟨fun | 7 => 41 | 10 => 61 | n => n, fun | 23 => 75 | 26 => 3 | 3 => 70 | 28 => 99 | 0 => 0 | 27 => 98 | 33 => 102 | 4 => 4 | n => n, fun | n => n⟩
theorem clKeys : Go.Proofs.SlLaysZI.n7 Try.prog clKeys_ren := {
  mixed := by kernel_rfl
  f7 := ⟨Try.f41.name, by decide, Try.func41.trans (congrArg some (by kernel_rfl))⟩
  f10 := ⟨Try.f61.name, by decide, Try.func61.trans (congrArg some (by kernel_rfl))⟩
  t0 := Try.underlying0
  a0 := Try.isAgg0
  z0 := Try.sizeOf0
  v0 := Try.zeroValue0
  t4 := Try.underlying4
  a4 := Try.isAgg4
  z4 := Try.sizeOf4
  v4 := Try.zeroValue4
  t23 := Try.underlying75
  a23 := Try.isAgg75
  z23 := Try.sizeOf75
  v23 := Try.zeroValue75
  t26 := Try.underlying3
  a26 := Try.isAgg3
  z26 := Try.sizeOf3
  v26 := Try.zeroValue3
  t27 := Try.underlying98
  a27 := Try.isAgg98
  z27 := Try.sizeOf98
  v27 := Try.zeroValue98
  t28 := Try.underlying99
  a28 := Try.isAgg99
  z28 := Try.sizeOf99
  v28 := Try.zeroValue99
  t33 := Try.underlying102
  a33 := Try.isAgg102
  z33 := Try.sizeOf102
  v33 := Try.zeroValue102 }
def clSorted_ren : Go.Shelf.Ren := ⟨fun | 6 => 40 | 8 => 59 | 9 => 60 | 11 => 70 | 13 => 72 | 12 => 71 | 23 => 83 | 24 => 84 | 14 => 74 | 15 => 75 | 16 => 76 | 17 => 77 | 18 => 78 | 19 => 79 | 20 => 80 | 21 => 81 | 22 => 82 | 25 => 85 | 26 => 86 | 27 => 87 | 28 => 88 | 29 => 89 | 30 => 90 | 31 => 91 | n => n, fun | 26 => 3 | 28 => 99 | 24 => 96 | 0 => 0 | 3 => 3 | 37 => 135 | 48 => 33 | 50 => 37 | 4 => 4 | 40 => 142 | 39 => 141 | 45 => 146 | 5 => 5 | 9 => 9 | 51 => 149 | 55 => 153 | 57 => 155 | 58 => 59 | 33 => 102 | n => n, fun | n => n⟩
theorem clSorted : Go.Proofs.SlLaysZI.n6 Try.prog clSorted_ren := {
  mixed := by kernel_rfl
  f6 := ⟨Try.f40.name, by decide, Try.func40.trans (congrArg some (by kernel_rfl))⟩
  f8 := ⟨Try.f59.name, by decide, Try.func59.trans (congrArg some (by kernel_rfl))⟩
  f11 := ⟨Try.f70.name, by decide, Try.func70.trans (congrArg some (by kernel_rfl))⟩
  t0 := Try.underlying0
  a0 := Try.isAgg0
  z0 := Try.sizeOf0
  v0 := Try.zeroValue0
  t24 := Try.underlying96
  a24 := Try.isAgg96
  z24 := Try.sizeOf96
  v24 := Try.zeroValue96
  t26 := Try.underlying3
  a26 := Try.isAgg3
  z26 := Try.sizeOf3
  v26 := Try.zeroValue3
  t28 := Try.underlying99
  a28 := Try.isAgg99
  z28 := Try.sizeOf99
  v28 := Try.zeroValue99
  i26 := by kernel_rfl }
def clSort_ren : Go.Shelf.Ren := ⟨fun | 5 => 60 | 8 => 72 | 7 => 71 | 19 => 83 | 20 => 84 | 10 => 74 | 11 => 75 | 12 => 76 | 13 => 77 | 14 => 78 | 15 => 79 | 16 => 80 | 17 => 81 | 18 => 82 | 30 => 85 | 31 => 86 | 32 => 87 | 33 => 88 | 34 => 89 | 35 => 90 | 40 => 91 | n => n, fun | 23 => 96 | 25 => 3 | 3 => 3 | 32 => 135 | 22 => 96 | 0 => 0 | 44 => 33 | 46 => 37 | 4 => 4 | 36 => 142 | 35 => 141 | 41 => 146 | 5 => 5 | 9 => 9 | 53 => 149 | 57 => 153 | 63 => 155 | 64 => 59 | n => n, fun | n => n⟩
theorem clSort : Go.Proofs.SlLaysM.n5 Try.prog clSort_ren := {
  mixed := by kernel_rfl
  f5 := ⟨Try.f60.name, by decide, Try.func60.trans (congrArg some (by kernel_rfl))⟩
  f7 := ⟨Try.f71.name, by decide, Try.func71.trans (congrArg some (by kernel_rfl))⟩
  f8 := Try.func72.trans (congrArg some (by kernel_rfl))
  f10 := ⟨Try.f74.name, by decide, Try.func74.trans (congrArg some (by kernel_rfl))⟩
  f11 := ⟨Try.f75.name, by decide, Try.func75.trans (congrArg some (by kernel_rfl))⟩
  f12 := ⟨Try.f76.name, by decide, Try.func76.trans (congrArg some (by kernel_rfl))⟩
  f13 := ⟨Try.f77.name, by decide, Try.func77.trans (congrArg some (by kernel_rfl))⟩
  f14 := ⟨Try.f78.name, by decide, Try.func78.trans (congrArg some (by kernel_rfl))⟩
  f15 := ⟨Try.f79.name, by decide, Try.func79.trans (congrArg some (by kernel_rfl))⟩
  f16 := ⟨Try.f80.name, by decide, Try.func80.trans (congrArg some (by kernel_rfl))⟩
  f17 := ⟨Try.f81.name, by decide, Try.func81.trans (congrArg some (by kernel_rfl))⟩
  f18 := ⟨Try.f82.name, by decide, Try.func82.trans (congrArg some (by kernel_rfl))⟩
  f19 := Try.func83.trans (congrArg some (by kernel_rfl))
  f20 := Try.func84.trans (congrArg some (by kernel_rfl))
  f30 := ⟨Try.f85.name, by decide, Try.func85.trans (congrArg some (by kernel_rfl))⟩
  f31 := Try.func86.trans (congrArg some (by kernel_rfl))
  f32 := Try.func87.trans (congrArg some (by kernel_rfl))
  f33 := ⟨Try.f88.name, by decide, Try.func88.trans (congrArg some (by kernel_rfl))⟩
  f34 := ⟨Try.f89.name, by decide, Try.func89.trans (congrArg some (by kernel_rfl))⟩
  f35 := ⟨Try.f90.name, by decide, Try.func90.trans (congrArg some (by kernel_rfl))⟩
  f40 := ⟨Try.f91.name, by decide, Try.func91.trans (congrArg some (by kernel_rfl))⟩
  t0 := Try.underlying0
  a0 := Try.isAgg0
  z0 := Try.sizeOf0
  v0 := Try.zeroValue0
  t3 := Try.underlying3
  a3 := Try.isAgg3
  z3 := Try.sizeOf3
  v3 := Try.zeroValue3
  t4 := Try.underlying4
  a4 := Try.isAgg4
  z4 := Try.sizeOf4
  v4 := Try.zeroValue4
  t5 := Try.underlying5
  a5 := Try.isAgg5
  z5 := Try.sizeOf5
  v5 := Try.zeroValue5
  t9 := Try.underlying9
  a9 := Try.isAgg9
  z9 := Try.sizeOf9
  v9 := Try.zeroValue9
  t22 := Try.underlying96
  a22 := Try.isAgg96
  z22 := Try.sizeOf96
  v22 := Try.zeroValue96
  t23 := Try.underlying96
  a23 := Try.isAgg96
  z23 := Try.sizeOf96
  v23 := Try.zeroValue96
  t25 := Try.underlying3
  a25 := Try.isAgg3
  z25 := Try.sizeOf3
  v25 := Try.zeroValue3
  t32 := Try.underlying135
  a32 := Try.isAgg135
  z32 := Try.sizeOf135
  v32 := Try.zeroValue135
  t35 := Try.underlying141
  a35 := Try.isAgg141
  z35 := Try.sizeOf141
  v35 := Try.zeroValue141
  t36 := Try.underlying142
  a36 := Try.isAgg142
  z36 := Try.sizeOf142
  v36 := Try.zeroValue142
  t41 := Try.underlying146
  a41 := Try.isAgg146
  z41 := Try.sizeOf146
  v41 := Try.zeroValue146
  t44 := Try.underlying33
  a44 := Try.isAgg33
  z44 := Try.sizeOf33
  v44 := Try.zeroValue33
  t46 := Try.underlying37
  a46 := Try.isAgg37
  z46 := Try.sizeOf37
  v46 := Try.zeroValue37
  t53 := Try.underlying149
  a53 := Try.isAgg149
  z53 := Try.sizeOf149
  v53 := Try.zeroValue149
  t57 := Try.underlying153
  a57 := Try.isAgg153
  z57 := Try.sizeOf153
  v57 := Try.zeroValue153
  t63 := Try.underlying155
  a63 := Try.isAgg155
  z63 := Try.sizeOf155
  v63 := Try.zeroValue155
  t64 := Try.underlying59
  a64 := Try.isAgg59
  z64 := Try.sizeOf59
  v64 := Try.zeroValue59 }
def clMclone_ren : Go.Shelf.Ren := ⟨fun | 5 => 42 | 7 => 62 | n => n, fun | 23 => 75 | 25 => 3 | 3 => 70 | 4 => 4 | 20 => 20 | n => n, fun | n => n⟩
theorem clMclone : Go.Proofs.SlLaysW.n5 Try.prog clMclone_ren := {
  mixed := by kernel_rfl
  f5 := ⟨Try.f42.name, by decide, Try.func42.trans (congrArg some (by kernel_rfl))⟩
  f7 := Try.func62.trans (congrArg some (by kernel_rfl))
  t4 := Try.underlying4
  a4 := Try.isAgg4
  z4 := Try.sizeOf4
  v4 := Try.zeroValue4
  t20 := Try.underlying20
  a20 := Try.isAgg20
  z20 := Try.sizeOf20
  v20 := Try.zeroValue20
  t23 := Try.underlying75
  a23 := Try.isAgg75
  z23 := Try.sizeOf75
  v23 := Try.zeroValue75 }
end Go.Proofs.Ytdgclmibbmofcaa

/-
  The keys of a map of events, sorted: the contracts that Events goes by. No condition.
-/
namespace Go.Proofs.Ytdgclmibbmofcaa
open Go Go.RowKit Go.Maps Go.Sort Go.Shelf
set_option linter.unusedVariables false

theorem clSorts (m : Nat) : AnyZI.SortsIn Try.prog clSorted_ren Fence.wide m :=
  ⟨fun blk off cap ss W hH hblk hsz => callsIn_wide.2 (AnyM.slices_Sort_int clSort blk off cap ss W hH hblk hsz),
   fun p cap W => callsIn_wide.2 (AnyM.slices_Sort_int_none clSort p cap W)⟩
theorem keys_any (mb : Option Nat) (W : World) : Calls Try.prog 41 #[.map mb] W fun e w' => e = .returned (.func (.func 61) #[] #[.pointer (some ⟨W.heap.size, 0, none⟩)]) ∧ w' = W.alloc (.cells #[.map mb] 75) :=
  (callsIn_wide (n := 5)).1 (AnyZI.keys_in clKeys Fence.wide 5 trivial rfl mb W)
set_option maxHeartbeats 1000000 in
theorem sorted_any {H : Type} (b nn : Nat) (D0 : DataW H) (R : Value → Option (DataW H × List MemPlace)) (w : World) (hown : w.ownsMap Try.prog 3 R b nn D0) (hmax : Maps.size D0 ≤ maxLen) (hbytes : Maps.size D0 * 8 ≤ 140737488355328) :
    Calls Try.prog 40 #[.func (.func 61) #[] #[.pointer (some ⟨w.heap.size, 0, none⟩)]] (w.alloc (.cells #[.map (some b)] 75)) fun e w' =>
      ∃ (v : Value) (ss : List Int), e = .returned v ∧ ss.Perm (intKeys D0) ∧ w'.ownsRow w.heap.size 3 1 v ss.length ((ss.mergeSort (fun x y => decide (x ≤ y))).map encZ) ∧ Below w.heap.size w w' := by
  have hbl := hown.lt
  have hseq : SeqGives Fence.wide 2 Try.prog 61 #[.pointer (some ⟨w.heap.size, 0, none⟩)] encZ (fun ss => ss.Perm (intKeys D0)) (Maps.size D0) (w.alloc (.cells #[.map (some b)] 75)) :=
    AnyZI.keys_gives (ρ := clKeys_ren) { clKeys with } Fence.wide _ trivial rfl (by omega) w.heap.size b nn D0 _ (by simp) (by simp) (by
      obtain ⟨es, clock, hb, Ft, hs, hD⟩ := hown
      exact ⟨es, clock, (Below.heap_alloc _ _ b hbl).trans hb, Ft, hs, hD⟩)
  have cS := AnyZI.sorted_in clSorted Fence.wide 5 trivial trivial trivial trivial rfl (by omega) (clSorts _) (enters_of Try.func60 (by kernel_rfl) rfl) 61 #[.pointer (some ⟨w.heap.size, 0, none⟩)] trivial (enters_of Try.func61 (by kernel_rfl) rfl) _ _ hmax hbytes _ hseq
  change CallsIn _ _ Try.prog 40 _ _ _ at cS
  refine ((callsIn_wide (n := 5)).1 cS).mono ?_
  rintro e w' ⟨v, ss, rfl, hS, hrow, hnil, hb⟩
  exact ⟨v, ss, rfl, hS, ownsRow_base_a hrow (by simp), ((Below.refl _ w).alloc (Nat.le_refl _) _).trans (hb.mono (by simp))⟩
end Go.Proofs.Ytdgclmibbmofcaa

/-
  Package call: New. No condition.
-/
namespace Go.Proofs.Ytdgclmibbmofcaa
open Go Go.RowKit Go.Maps
set_option linter.unusedVariables false
set_option linter.unusedSimpArgs false

set_option maxRecDepth 100000 in
theorem info_u32 : (Try.prog.info? 33).map (fun i => (i.zero, i.size, i.bytes)) = some (some (.int .u32 0), 1, 4) := by kernel_rfl
theorem run_buildNone32 (w : World) : (Instr.buildSlice 50 0 #[]).run Try.prog w = .ok (.slice (some ⟨w.heap.size, 0, none⟩) 0 0) (w.alloc (.cells #[] 33)) := by
  obtain ⟨i, hi, hz0, hz1, hz2⟩ := info_parts info_u32
  simp [Instr.buildSlice, run_underlying Try.underlying50, sizeOf, typeInfo, zeroValue, hi, hz0, newRow, Instr.fill]
  exact congrArg (fun x => w.alloc (.cells x 33)) (by simp)
theorem wpList_buildNone32 {ops : Array Oper} {rest : List Oper} {op : Oper} {a : Act} {w : World} {Q : Exit → Act → World → Prop} (hgd : op.guard = none) (ho : op.op = .buildSlice 50 0 #[])
    (h : wpList Try.prog ops Q rest (a.put op.dst (.slice (some ⟨w.heap.size, 0, none⟩) 0 0)) (w.alloc (.cells #[] 33))) : wpList Try.prog ops Q (op :: rest) a w :=
  wpList_plain hgd fun _ hK => by
    unfold Oper.wp execOp
    simp only [ho, Array.map_empty, Sem.run_bind, run_buildNone32, Result.andThen_ok, Sem.run_pure]
    exact hK _ _ h
theorem rp_of_own {w : World} {base : Nat} {v : Value} {l : List Int} {xs : List Value} {n : Nat} (hn : n = l.length) (hx : xs = l.map (Value.int .u32)) (h : w.ownsRow base 33 1 v n xs) : ∃ g, Rp w v l g ∧ (v = .slice none 0 0 ∨ base ≤ g ∧ g < w.heap.size) := by
  subst hn hx
  obtain ⟨_, ⟨h1, h2⟩ | ⟨g, cap, cur, h1, h2, h3, h4, h5, h6, h7⟩⟩ := h
  · exact ⟨0, .inl ⟨h1, List.eq_nil_of_length_eq_zero h2⟩, .inl h1⟩
  · refine ⟨g, .inr ⟨0, cap, cur, _, _, h1, h4, h3, fun i hi => ?_⟩, .inr ⟨h2, lt_of_heap h3⟩⟩
    have e : (cur.toList.take (l.length * 1))[i]? = some (.int .u32 (l.getD i 0)) := by
      rw [h7, List.getElem?_map, List.getD_eq_getElem?_getD, List.getElem?_eq_getElem hi]; rfl
    rw [Nat.mul_one, List.getElem?_take, if_pos hi, Array.getElem?_toList] at e
    rw [Nat.zero_add]; exact e

set_option maxRecDepth 100000 in
set_option maxHeartbeats 2000000 in
theorem Clone32_any (l : List Int) (v : Value) (g : Nat) (w : World) (h : Rp w v l g) (hl : l.length ≤ 1000) :
    Calls Try.prog 22 #[v] w fun e w' => ∃ v' g', e = .returned v' ∧ Rp w' v' l g' ∧ (v' = .slice none 0 0 ∨ w.heap.size ≤ g' ∧ g' < w'.heap.size) ∧ Upd [] w w' := by
  rcases h with ⟨rfl, rfl⟩ | ⟨o, c, C, T, f, rfl, hc, hg, hC⟩
  · have hnil := fun w : World => Lib.run_eql_slice_nil w 50 33 none 0 0 0 0 Try.underlying50
    go_enter Try.func22, Try.ntmps22
    go_wp2_with fail
    go_ret
    exact ⟨_, 0, rfl, .inl ⟨rfl, rfl⟩, .inl rfl, Upd.refl _ _⟩
  · have hnil := fun w : World => Lib.run_eql_slice_nil w 50 33 (some ⟨g, o, none⟩) l.length c 0 0 Try.underlying50
    obtain ⟨i, hi, hz0, hz1, hz2⟩ := info_parts info_u32
    have hown : (w.alloc (.cells #[] 33)).ownsRow w.heap.size 33 1 (.slice (some ⟨w.heap.size, 0, none⟩) 0 0) 0 [] := ⟨by simp, .inr ⟨w.heap.size, 0, #[], rfl, Nat.le_refl _, heap_alloc_new _ _, Nat.le_refl _, Nat.zero_le _, rfl, rfl⟩⟩
    have hnews : ∀ j u, (l.map (Value.int .u32))[j]? = some u → (w.alloc (.cells #[] 33)).cell? ((⟨g, o, none⟩ : Addr).add j) = some u := by
      intro j u hu
      have hj : j < l.length := by
        have := (List.getElem?_eq_some_iff.1 hu).1
        simpa using this
      rw [Addr.add_lit, cells_of (heap_alloc_keep _ hg), hC j hj]
      rw [List.getElem?_map, List.getElem?_eq_getElem hj] at hu
      simp only [Option.map_some, Option.some.injEq] at hu
      rw [List.getD_eq_getElem?_getD, List.getElem?_eq_getElem hj, Option.getD_some, hu]
    have H := Lib.hid (And.intro hi (And.intro hz0 (And.intro hz1 (And.intro hz2 (And.intro hown (And.intro hnews hl))))))
    clear hi hz0 hz1 hz2 hown hnews hl hc hg hC
    go_enter Try.func22, Try.ntmps22
    go_wp2_with (first | (refine wpList_buildNone32 rfl rfl ?_) | (at_builtin; refine wpList_append_own _ rfl _ _ 50 rfl w.heap.size 33 i (.int .u32 0) 1 4 Try.underlying50 H.out.1 H.out.2.1 H.out.2.2.1 H.out.2.2.2.1 rfl (by decide) _ _ _ rfl H.out.2.2.2.2.1 ⟨g, o, none⟩ l.length c (l.map (Value.int .u32)) rfl (by simp) H.out.2.2.2.2.2.1 (by intro u hu; simp only [List.mem_map] at hu; obtain ⟨z, _, rfl⟩ := hu; rfl) (by have := H.out.2.2.2.2.2.2; unfold maxLen; omega) (by have := H.out.2.2.2.2.2.2; omega) (by simp) ?_; intro v' w' hv hg _))
    have hg' : Upd [w.heap.size] (w.alloc (.cells #[] 33)) w' := Upd.of_grown (row := some w.heap.size) hg
    clear hg
    obtain ⟨g', h1, h2⟩ := rp_of_own (l := l) (by simp) (by simp) hv
    clear hv
    have H2 := Lib.hid (And.intro h1 (And.intro h2 (((Upd.refl [] w).alloc _).new hg' (by simp))))
    clear h1 h2 hg'
    go_ret
    exact ⟨_, g', rfl, H2.out.1, H2.out.2.1, H2.out.2.2⟩

set_option maxRecDepth 100000 in
set_option maxHeartbeats 2000000 in
theorem NewC_any (l : List Int) (inp : ByteArray) (v : Value) (g : Nat) (w : World) (h : Rp w v l g) (hl : l.length ≤ 1000) :
    Calls Try.prog 7 #[v, .string inp] w fun e w' => ∃ c b g', e = .returned (.pointer (some ⟨c, 0, none⟩)) ∧ IsCl w' c b g' l inp 0 0 (.map []) ∧ (w.heap.size ≤ c ∧ w.heap.size ≤ b ∧ w.heap.size ≤ g') ∧ Upd [] w w' := by
  have hmm := @run_makeMap Try.prog
  have H := Lib.hid (And.intro h hl)
  clear h hl
  go_enter Try.func7, Try.ntmps7
  go_wp2_with (go_at_call 22; refine (Clone32_any l v g _ H.out.1 H.out.2).mono ?_; rintro e w1 ⟨v', g', rfl, h1, h2, h3⟩; obtain ⟨sa, sc, rfl⟩ := h1.form; have H1 := Lib.hid (And.intro h1 (And.intro h2 h3)); clear h1 h2 h3)
  go_ret
  obtain ⟨h1, h2, h3⟩ := H1.out
  have hs := h3.size
  have u1 := (h3.alloc (.map #[] 0)).alloc (.cells #[.slice sa l.length sc, .string inp, .map (some w1.heap.size), .int .i64 0] 77)
  have hm := (World.ownsMap_made w1 Try.prog 3 evR).alloc (.cells #[.slice sa l.length sc, .string inp, .map (some w1.heap.size), .int .i64 0] 77)
  have hk : Rp ((w1.alloc (.map #[] 0)).alloc (.cells #[.slice sa l.length sc, .string inp, .map (some w1.heap.size), .int .i64 0] 77)) (.slice sa l.length sc) l g' := h1.keep (S := []) (((Upd.refl [] w1).alloc _).alloc _) (by simp)
  rcases h2 with h2 | ⟨h2, h4⟩
  · refine ⟨w1.heap.size + 1, w1.heap.size, w1.heap.size + 2, rfl, ⟨⟨_, heap_alloc2_new w1 _ _, ?_⟩, hm, by omega, by omega, by omega⟩, ⟨by omega, by omega, by omega⟩, u1⟩
    rw [h2]
    refine .inl ⟨rfl, ?_⟩
    injection h2 with _ h2 _
    exact List.eq_nil_of_length_eq_zero h2
  · exact ⟨w1.heap.size + 1, w1.heap.size, g', rfl, ⟨⟨_, heap_alloc2_new w1 _ _, hk⟩, hm, by omega, by omega, by omega⟩, ⟨by omega, by omega, by omega⟩, u1⟩
end Go.Proofs.Ytdgclmibbmofcaa
