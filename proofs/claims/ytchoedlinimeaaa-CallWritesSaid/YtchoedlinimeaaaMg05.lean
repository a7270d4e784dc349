/-
  Parts of the proof (their names shortened by a program). No condition.
-/
import Derived.Test.YtchoedlinimeaaaMg01
import Derived.Test.YtchoedlinimeaaaMg04
import Derived.Deep.CutRange
import Derived.Test.YtchoedlinimeaaaMg03
import Derived.Laws.IdiomCopy
import Derived.Test.YtchoedlinimeaaaMg02
import Derived.StillTailTactics
import Derived.Outline
import Derived.Deep.Cut
import Derived.Recover
import Derived.Maps.AppendAt
import Derived.OwnWalk
import Derived.ChangeSlices
import Derived.Laws.BytesArg
namespace Go.Proofs.Ytchoedlinimeaaa
open Go Go.RowKit
set_option linter.unusedVariables false
set_option linter.unusedSimpArgs false
set_option maxRecDepth 100000
set_option maxHeartbeats 16000000
section
structure Ev.Ok (e : Ev) : Prop where
 n : 0 ≤ e.n ∧ e.n < 4294967296
 b : 0 ≤ e.b ∧ e.b < 4294967296
 c : 0 ≤ e.c ∧ e.c < 4294967296
 d : 0 ≤ e.d ∧ e.d < 4294967296
def Yb6 (n b c d : Int) : Bool := decide (b % 256 = 0) && decide (c ≤ 64) && (decide (n = 91) || decide (d ≤ 7))
def chB (M : Mem) (n b c d : Int) : Bool := Yb6 n b c d && (if n = 91 then M.unmapB (b / 256) c else if n = 125 then M.protB (b / 256) c d else M.mapB (b / 256) c d)
def chM (M : Mem) (n b c d : Int) : Mem := if Yb6 n b c d = true then (if n = 91 then M.unmapM (b / 256) c else if n = 125 then M.protM (b / 256) c d else M.mapM (b / 256) c d) else M
def chR (M : Mem) (n b c d : Int) : Int := if chB M n b c d = true then 0 else 4294967274
section
variable (M : Mem) (a pb : Nat) (n b c d r : Int) (s : ByteArray) (w : World)
theorem ch_bad (hM : Yd w a pb M) (hb : 0 ≤ b) (h : Yb6 n b c d = false) :
  Calls Try.prog 34 #[.pointer (some ⟨a, 0, none⟩), .agg #[.int .u32 n, .int .u32 b, .int .u32 c, .int .u32 d, .int .u32 r, .string s]] w fun x w' => x = .returned (.int .u32 4294967274) ∧ Yd w' a pb M ∧ Upd [pb] w w' := by
 have HM := Yh_ hM
 obtain ⟨q, hq⟩ : ∃ q, b % 256 = q := ⟨_, rfl⟩
 have e1 : b.tmod 256 = q := by rw [Int.tmod_eq_emod_of_nonneg hb]; exact hq
 unfold Yb6 at h
 rw [hq] at h
 clear hM hb hq
 by_cases h1 : q = 0
 ·subst h1
  by_cases h2 : c ≤ 64
  ·have h3 : ¬ n = 91 ∧ ¬ d ≤ 7 := by simpa [h2] using h
   have d1 : decide (64 < c) = false := by simp; omega
   have d2 : decide (7 < d) = true := by simp; omega
   have d3 : (n == 91) = false := by simp [h3.1]
   have d4 : (n != 91) = true := by simp [h3.1]
   clear h h2 h3
   go_enter Try.func34, Try.ntmps34
   go_wp2_with (go_at_call 35; refine (Yal (-22) (by decide) _).mono ?_; rintro e w1 ⟨rfl, hu⟩; have HU := Yh_ ((((Upd.refl [] w).alloc _).also hu (by simp))); clear hu)
   go_ret
   exact ⟨rfl, HM.out.keep HU.out (by simp) (by simp), HU.out.mono (by simp)⟩
  ·have d1 : decide (64 < c) = true := by simp; omega
   clear h h2
   go_enter Try.func34, Try.ntmps34
   go_wp2_with (go_at_call 35; refine (Yal (-22) (by decide) _).mono ?_; rintro e w1 ⟨rfl, hu⟩; have HU := Yh_ ((((Upd.refl [] w).alloc _).also hu (by simp))); clear hu)
   go_ret
   exact ⟨rfl, HM.out.keep HU.out (by simp) (by simp), HU.out.mono (by simp)⟩
 ·have d1 : (q == 0) = false := by simp [h1]
  have d2 : (q != 0) = true := by simp [h1]
  clear h h1
  go_enter Try.func34, Try.ntmps34
  go_wp2_with (go_at_call 35; refine (Yal (-22) (by decide) _).mono ?_; rintro e w1 ⟨rfl, hu⟩; have HU := Yh_ ((((Upd.refl [] w).alloc _).also hu (by simp))); clear hu)
  go_ret
  exact ⟨rfl, HM.out.keep HU.out (by simp) (by simp), HU.out.mono (by simp)⟩
theorem ch_91 (hM : Yd w a pb M) (hb : 0 ≤ b ∧ b < 4294967296) (hc : 0 ≤ c ∧ c < 4294967296) (hd : 0 ≤ d ∧ d < 4294967296) (h : Yb6 n b c d = true) (hn : n = 91) :
  Calls Try.prog 34 #[.pointer (some ⟨a, 0, none⟩), .agg #[.int .u32 n, .int .u32 b, .int .u32 c, .int .u32 d, .int .u32 r, .string s]] w fun x w' => x = .returned (.int .u32 (chR M n b c d)) ∧ Yd w' a pb (chM M n b c d) ∧ Upd [pb] w w' := by
 have HM := Yh_ hM
 have hbl : w.heap.size ≤ w.heap.size := Nat.le_refl _
 have hB : chR M n b c d = if M.unmapB (b / 256) c = true then 0 else 4294967274 := by unfold chR chB; rw [h, Bool.true_and, if_pos hn]
 have hMM : chM M n b c d = M.unmapM (b / 256) c := by unfold chM; rw [if_pos h, if_pos hn]
 rw [hB, hMM]
 unfold Yb6 at h
 simp only [Bool.and_eq_true, Bool.or_eq_true, decide_eq_true_eq] at h
 obtain ⟨⟨h1, h2⟩, h3⟩ := h
 have e1 : b.tmod 256 = 0 := by rw [Int.tmod_eq_emod_of_nonneg hb.1]; exact h1
 have d1 : decide (64 < c) = false := by simp; omega
 subst hn
 obtain ⟨y, hy⟩ : ∃ y, b / 256 = y := ⟨_, rfl⟩
 have e2 : b.tdiv 256 = y := by rw [Int.tdiv_eq_ediv_of_nonneg hb.1]; exact hy
 have e3 : wrap64 y = y := by unfold wrap64; omega
 have e6 : y % 4294967296 = y := by omega
 have e4 : wrap64 c = c := by unfold wrap64; omega
 have e5 : wrap64 d = d := by unfold wrap64; omega
 have HC := Yh_ hc.1
 rw [hy]
 clear hM hb hc hd h1 h2 h3 hy hB hMM
 generalize hk : M.unmapB y c = k
 have HK := Yh_ hk
 clear hk
 cases k
 ·go_enter Try.func34, Try.ntmps34
  go_upto_region 3 with fail
  go_quiet (fail)
  simp only [e4, e5, e6]
  go_wp2_with (first | (go_at_call 58; refine (Ye2 M a pb y c _ (HM.out.keep (Yu ((Upd.refl [] w).alloc _) _) (by simp) (by simp)) (by have := HC.out; omega)).mono ?_; rintro e w1 ⟨rfl, hm, hu⟩; rw [HK.out]; unfold Ybr; simp only [Bool.false_eq_true, if_false, if_true]; have HU := Yh_ (And.intro hm (((Yu ((Upd.refl [pb] w).alloc _) _).also hu (by simp)))); clear hm hu) | (go_at_call 35; refine (Yal (-22) (by decide) _).mono ?_; rintro e w2 ⟨rfl, hu2⟩; have HU2 := Yh_ hu2; clear hu2))
  go_ret
  exact ⟨rfl, HU.out.1.keep HU2.out (by simp) (by simp), HU.out.2.also HU2.out (by simp)⟩
 ·go_enter Try.func34, Try.ntmps34
  go_upto_region 3 with fail
  go_quiet (fail)
  simp only [e4, e5, e6]
  go_wp2_with (go_at_call 58; refine (Ye2 M a pb y c _ (HM.out.keep (Yu ((Upd.refl [] w).alloc _) _) (by simp) (by simp)) (by have := HC.out; omega)).mono ?_; rintro e w1 ⟨rfl, hm, hu⟩; rw [HK.out]; unfold Ybr; simp only [Bool.false_eq_true, if_false, if_true]; have HU := Yh_ (And.intro hm (((Yu ((Upd.refl [pb] w).alloc _) _).also hu (by simp)))); clear hm hu)
  go_ret
  exact ⟨rfl, HU.out.1, HU.out.2⟩
theorem ch_125 (hM : Yd w a pb M) (hb : 0 ≤ b ∧ b < 4294967296) (hc : 0 ≤ c ∧ c < 4294967296) (hd : 0 ≤ d ∧ d < 4294967296) (h : Yb6 n b c d = true) (hn : n = 125) :
  Calls Try.prog 34 #[.pointer (some ⟨a, 0, none⟩), .agg #[.int .u32 n, .int .u32 b, .int .u32 c, .int .u32 d, .int .u32 r, .string s]] w fun x w' => x = .returned (.int .u32 (chR M n b c d)) ∧ Yd w' a pb (chM M n b c d) ∧ Upd [pb] w w' := by
 have HM := Yh_ hM
 have hbl : w.heap.size ≤ w.heap.size := Nat.le_refl _
 have hB : chR M n b c d = if M.protB (b / 256) c d = true then 0 else 4294967274 := by unfold chR chB; rw [h, Bool.true_and, if_neg (show ¬ n = 91 by omega), if_pos hn]
 have hMM : chM M n b c d = M.protM (b / 256) c d := by unfold chM; rw [if_pos h, if_neg (show ¬ n = 91 by omega), if_pos hn]
 rw [hB, hMM]
 unfold Yb6 at h
 simp only [Bool.and_eq_true, Bool.or_eq_true, decide_eq_true_eq] at h
 obtain ⟨⟨h1, h2⟩, h3⟩ := h
 have e1 : b.tmod 256 = 0 := by rw [Int.tmod_eq_emod_of_nonneg hb.1]; exact h1
 have d1 : decide (64 < c) = false := by simp; omega
 have d2 : decide (7 < d) = false := by simp; omega
 subst hn
 obtain ⟨y, hy⟩ : ∃ y, b / 256 = y := ⟨_, rfl⟩
 have e2 : b.tdiv 256 = y := by rw [Int.tdiv_eq_ediv_of_nonneg hb.1]; exact hy
 have e3 : wrap64 y = y := by unfold wrap64; omega
 have e6 : y % 4294967296 = y := by omega
 have e4 : wrap64 c = c := by unfold wrap64; omega
 have e5 : wrap64 d = d := by unfold wrap64; omega
 have HC := Yh_ hc.1
 rw [hy]
 clear hM hb hc hd h1 h2 h3 hy hB hMM
 generalize hk : M.protB y c d = k
 have HK := Yh_ hk
 clear hk
 cases k
 ·go_enter Try.func34, Try.ntmps34
  go_upto_region 3 with fail
  go_quiet (fail)
  simp only [e4, e5, e6]
  go_wp2_with (first | (go_at_call 59; refine (Ydh M a pb y c d _ (HM.out.keep (Yu ((Upd.refl [] w).alloc _) _) (by simp) (by simp)) (by have := HC.out; omega)).mono ?_; rintro e w1 ⟨rfl, hm, hu⟩; rw [HK.out]; unfold Ybr; simp only [Bool.false_eq_true, if_false, if_true]; have HU := Yh_ (And.intro hm (((Yu ((Upd.refl [pb] w).alloc _) _).also hu (by simp)))); clear hm hu) | (go_at_call 35; refine (Yal (-22) (by decide) _).mono ?_; rintro e w2 ⟨rfl, hu2⟩; have HU2 := Yh_ hu2; clear hu2))
  go_ret
  exact ⟨rfl, HU.out.1.keep HU2.out (by simp) (by simp), HU.out.2.also HU2.out (by simp)⟩
 ·go_enter Try.func34, Try.ntmps34
  go_upto_region 3 with fail
  go_quiet (fail)
  simp only [e4, e5, e6]
  go_wp2_with (go_at_call 59; refine (Ydh M a pb y c d _ (HM.out.keep (Yu ((Upd.refl [] w).alloc _) _) (by simp) (by simp)) (by have := HC.out; omega)).mono ?_; rintro e w1 ⟨rfl, hm, hu⟩; rw [HK.out]; unfold Ybr; simp only [Bool.false_eq_true, if_false, if_true]; have HU := Yh_ (And.intro hm (((Yu ((Upd.refl [pb] w).alloc _) _).also hu (by simp)))); clear hm hu)
  go_ret
  exact ⟨rfl, HU.out.1, HU.out.2⟩
theorem ch_map (hM : Yd w a pb M) (hb : 0 ≤ b ∧ b < 4294967296) (hc : 0 ≤ c ∧ c < 4294967296) (hd : 0 ≤ d ∧ d < 4294967296) (h : Yb6 n b c d = true) (hn : n ≠ 91 ∧ n ≠ 125) :
  Calls Try.prog 34 #[.pointer (some ⟨a, 0, none⟩), .agg #[.int .u32 n, .int .u32 b, .int .u32 c, .int .u32 d, .int .u32 r, .string s]] w fun x w' => x = .returned (.int .u32 (chR M n b c d)) ∧ Yd w' a pb (chM M n b c d) ∧ Upd [pb] w w' := by
 have HM := Yh_ hM
 have hbl : w.heap.size ≤ w.heap.size := Nat.le_refl _
 have hB : chR M n b c d = if M.mapB (b / 256) c d = true then 0 else 4294967274 := by unfold chR chB; rw [h, Bool.true_and, if_neg hn.1, if_neg hn.2]
 have hMM : chM M n b c d = M.mapM (b / 256) c d := by unfold chM; rw [if_pos h, if_neg hn.1, if_neg hn.2]
 rw [hB, hMM]
 unfold Yb6 at h
 simp only [Bool.and_eq_true, Bool.or_eq_true, decide_eq_true_eq] at h
 obtain ⟨⟨h1, h2⟩, h3⟩ := h
 have e1 : b.tmod 256 = 0 := by rw [Int.tmod_eq_emod_of_nonneg hb.1]; exact h1
 have d1 : decide (64 < c) = false := by simp; omega
 have d2 : decide (7 < d) = false := by simp; omega
 have d3 : (n == 91) = false := by simp [hn.1]
 have d4 : (n != 91) = true := by simp [hn.1]
 have d5 : (n == 125) = false := by simp [hn.2]
 obtain ⟨y, hy⟩ : ∃ y, b / 256 = y := ⟨_, rfl⟩
 have e2 : b.tdiv 256 = y := by rw [Int.tdiv_eq_ediv_of_nonneg hb.1]; exact hy
 have e3 : wrap64 y = y := by unfold wrap64; omega
 have e6 : y % 4294967296 = y := by omega
 have e4 : wrap64 c = c := by unfold wrap64; omega
 have e5 : wrap64 d = d := by unfold wrap64; omega
 have HC := Yh_ hc.1
 rw [hy]
 clear hM hb hc hd h1 h2 h3 hy hB hMM
 generalize hk : M.mapB y c d = k
 have HK := Yh_ hk
 clear hk
 cases k
 ·go_enter Try.func34, Try.ntmps34
  go_upto_region 3 with fail
  go_quiet (fail)
  simp only [e4, e5, e6]
  go_wp2_with (first | (go_at_call 11; refine (Yda M a pb y c d _ (HM.out.keep (Yu ((Upd.refl [] w).alloc _) _) (by simp) (by simp)) (by have := HC.out; omega)).mono ?_; rintro e w1 ⟨rfl, hm, hu⟩; rw [HK.out]; unfold Ybr; simp only [Bool.false_eq_true, if_false, if_true]; have HU := Yh_ (And.intro hm (((Yu ((Upd.refl [pb] w).alloc _) _).also hu (by simp)))); clear hm hu) | (go_at_call 35; refine (Yal (-22) (by decide) _).mono ?_; rintro e w2 ⟨rfl, hu2⟩; have HU2 := Yh_ hu2; clear hu2))
  go_ret
  exact ⟨rfl, HU.out.1.keep HU2.out (by simp) (by simp), HU.out.2.also HU2.out (by simp)⟩
 ·go_enter Try.func34, Try.ntmps34
  go_upto_region 3 with fail
  go_quiet (fail)
  simp only [e4, e5, e6]
  go_wp2_with (go_at_call 11; refine (Yda M a pb y c d _ (HM.out.keep (Yu ((Upd.refl [] w).alloc _) _) (by simp) (by simp)) (by have := HC.out; omega)).mono ?_; rintro e w1 ⟨rfl, hm, hu⟩; rw [HK.out]; unfold Ybr; simp only [Bool.false_eq_true, if_false, if_true]; have HU := Yh_ (And.intro hm (((Yu ((Upd.refl [pb] w).alloc _) _).also hu (by simp)))); clear hm hu)
  go_ret
  exact ⟨rfl, HU.out.1, HU.out.2⟩
theorem Yf3 (hM : Yd w a pb M) (hb : 0 ≤ b ∧ b < 4294967296) (hc : 0 ≤ c ∧ c < 4294967296) (hd : 0 ≤ d ∧ d < 4294967296) :
  Calls Try.prog 34 #[.pointer (some ⟨a, 0, none⟩), .agg #[.int .u32 n, .int .u32 b, .int .u32 c, .int .u32 d, .int .u32 r, .string s]] w fun x w' => x = .returned (.int .u32 (chR M n b c d)) ∧ Yd w' a pb (chM M n b c d) ∧ Upd [pb] w w' := by
 cases h : Yb6 n b c d
 ·have h1 : chR M n b c d = 4294967274 := by unfold chR chB; rw [h, Bool.false_and]; rfl
  have h2 : chM M n b c d = M := by unfold chM; rw [h]; rfl
  rw [h1, h2]
  exact ch_bad M a pb n b c d r s w hM hb.1 h
 ·by_cases h1 : n = 91
  ·exact ch_91 M a pb n b c d r s w hM hb hc hd h h1
  ·by_cases h2 : n = 125
   ·exact ch_125 M a pb n b c d r s w hM hb hc hd h h2
   ·exact ch_map M a pb n b c d r s w hM hb hc hd h ⟨h1, h2⟩
end
end
inductive DR (α : Type) where
 |ok (v : α) (k : Nat)
 |err (c : Int)
def DR.bind {α β : Type} (r : DR α) (f : α → Nat → DR β) : DR β :=
 match r with
 |.ok v k => f v k
 |.err c => .err c
structure Mrm where
 mod : Int
 reg : Int
 rm : Int
def Mrm.cells (m : Mrm) : Array Value := #[.int .i64 m.mod, .int .i64 m.reg, .int .i64 m.rm]
def BOk (L : List Int) : Prop := ∀ i, 0 ≤ L.getD i 0 ∧ L.getD i 0 ≤ 255
def Opd.cells (o : Opd) : Array Value := #[.int .i64 o.k, .int .i64 o.r, .int .u32 o.imm, .int .i64 o.b, .int .i64 o.x, .int .u32 o.sc]
theorem Opd.size (o : Opd) : o.cells.size = 6 := rfl
theorem Opd.one (o : Opd) : o.cells.all (·.oneCell') = true := by simp [Opd.cells, Value.oneCell']
def Ins.val (i : Ins) : Value := .agg i.cells
theorem Mrm.one (m : Mrm) : m.cells.all (·.oneCell') = true := by simp [Mrm.cells, Value.oneCell']
section
structure Mrm.Ok (m : Mrm) : Prop where
 mod : 0 ≤ m.mod ∧ m.mod ≤ 3
 reg : 0 ≤ m.reg ∧ m.reg < 8
 rm : 0 ≤ m.rm ∧ m.rm < 8
section
variable {w w2 w3 : World} {d : Nat} {v : Value} {L : List Int} {g k k' : Nat} {m : Mrm} {o o' : Opd}
end
end
section
def Yab (d : Nat → Bool) (i : Nat) : Nat → Bool := fun j => if j = i then true else d j
def Ybo (listed : Array Bool) : Nat → Bool := fun j => listed.getD j false
theorem Ye5 {listed : Array Bool} {i : Nat} (h : i < listed.size) : Ybo (listed.setIfInBounds i true) = Yab (Ybo listed) i := by
 funext j
 simp only [Ybo, Yab]
 by_cases e : j = i
 ·subst e; simp [h]
 ·rw [if_neg e, getD_set_ne false (fun h => e h.symm)]
theorem Ygd (n : Nat) : Ybo (Array.replicate n false) = fun _ => false := by
 funext j; exact getD_replicate_false _ _
section
variable {P : Program} {ops : Array Oper} {B : (Nat → Bool) → World → Prop} {X : List PanicEntry → World → Prop} {fin : List Nat → Act → Prop} {dead : List Nat} {i : Nat} {o : Oper} {rest : List Oper} {a : Act}
end
end
section
def Ybz (r : Nat → Value) (i : Nat) (v : Value) : Nat → Value := fun j => if j = i then v else r j
def Yg (ops : Array Oper) (r : Nat → Value) : List Nat → Act → Act
 |[], F => F
 |j :: l, F => (Yg ops r l F).put ((ops[j]?).bind (·.dst)) (r j)
theorem Yba (ops : Array Oper) (r : Nat → Value) (F : Act) : ∀ l, (Yg ops r l F).tmps.size = F.tmps.size
 |[] => rfl
 |j :: l => by rw [Yg, Yp, Yba]
theorem Yc2 (ops : Array Oper) (r : Nat → Value) (F : Act) : ∀ l, (Yg ops r l F).defers = F.defers
 |[] => rfl
 |j :: l => by rw [Yg, Yan, Yc2]
theorem Ya7 (ops : Array Oper) (r : Nat → Value) (F : Act) (t : Tmp) : ∀ l, (∀ j, j ∈ l → (ops[j]?).bind (·.dst) ≠ some t) → (Yg ops r l F).tmps[t]? = F.tmps[t]?
 |[], _ => rfl
 |j :: l, h => by rw [Yg, Yz _ _ _ _ (h j (by simp)), Ya7 ops r F t l (fun k hk => h k (by simp [hk]))]
theorem Ycb (ops : Array Oper) (r : Nat → Value) (F : Act) (t : Tmp) (hs : t < F.tmps.size) (j : Nat) (hd : (ops[j]?).bind (·.dst) = some t) : ∀ l, j ∈ l → (∀ k, k ∈ l → (ops[k]?).bind (·.dst) = some t → k = j) → (Yg ops r l F).tmps[t]? = some (r j)
 |[], h, _ => by cases h
 |k :: l, h, hu => by
  by_cases e : (ops[k]?).bind (·.dst) = some t
  ·have := hu k (by simp) e
   subst this
   rw [Yg, e, Ybj _ _ _ (by rw [Yba]; exact hs)]
  ·rw [Yg, Yz _ _ _ _ e]
   refine Ycb ops r F t hs j hd l ?_ (fun q hq => hu q (by simp [hq]))
   rcases List.mem_cons.1 h with rfl | h
   ·exact absurd hd e
   ·exact h
theorem Yf4 {P : Program} {o : Oper} {a : Act} {w : World} {C : Value → World → Prop} {X : List PanicEntry → World → Prop} {t : Tmp} (ht : o.dst = some t) (hs : t < a.tmps.size)
  (h : o.wp P a w (fun a' w' => ∃ v, a' = a.put o.dst v ∧ C v w') (PX X)) : Ya0 P o a w C X := by
 have hput : ∀ u v, a.put o.dst u = a.put o.dst v → u = v := fun u v he => Ybf he t ht hs
 unfold Oper.wp at h
 unfold Ya0
 generalize (execOp a.eval o).run P w = r at *
 cases r with
 |ok n w' =>
  cases n
  case value u => obtain ⟨v, h1, h2⟩ := h; rw [hput _ _ h1]; exact h2
  case skip => obtain ⟨v, h1, h2⟩ := h; rw [hput _ _ h1]; exact h2
  case defer d => obtain ⟨v, h1, h2⟩ := h; exact absurd h1 (Ycc a o.dst undef v d)
  case enter f args =>
   refine Calls.mono h (fun e w'' he => ?_)
   cases e with
   |returned u => obtain ⟨v, h1, h2⟩ := he; show C u w''; rw [hput _ _ h1]; exact h2
   |panicked c => exact he
   |outgrown => obtain ⟨_, _, hf⟩ := he; exact hf
  case row row args => exact Rows.mono h (fun u w'' he => by obtain ⟨v, h1, h2⟩ := he; rw [hput _ _ h1]; exact h2)
  all_goals exact h
 |halt x w' =>
  cases x
  case panic v => exact h
  all_goals exact h
def Ya4 (P : Program) (ops : Array Oper) (B : (Nat → Bool) → (Nat → Value) → World → Prop) (X : List PanicEntry → World → Prop) (n : Nat) (fin : List Nat → List Nat → Act → Prop) : List Nat → List Nat → Nat → List Oper → Act → Prop
 |dead, free, _, [], a => fin dead free a
 |dead, free, i, o :: rest, a =>
  (Yo dead o = true ∧ Ya4 P ops B X n fin (i :: dead) free (i + 1) rest a) ∨
  (Yo dead o = false ∧ (∀ r, Region.wanted o (yielded ops (Yg ops r free a).tmps) = true) ∧ ∃ v, (∀ d r w, d i = false → (∀ e ∈ o.after, Region.binds .any e = true → d e.on = true) → B d r w → o.wp P (Yg ops r free a) w (fun a' w' => a' = (Yg ops r free a).put o.dst v ∧ B (Yab d i) r w') (PX X)) ∧ Ya4 P ops B X n fin dead free (i + 1) rest (a.put o.dst v)) ∨
  (Yo dead o = false ∧ (∀ r, Region.wanted o (yielded ops (Yg ops r free a).tmps) = true) ∧ (∀ d r w, d i = false → (∀ e ∈ o.after, Region.binds .any e = true → d e.on = true) → B d r w → o.wp P (Yg ops r free a) w (fun _ _ => False) (PX X)) ∧ Ya4 P ops B X n fin (i :: dead) free (i + 1) rest a) ∨
  (Yo dead o = false ∧ (∀ r, Region.wanted o (yielded ops (Yg ops r free a).tmps) = false) ∧ (∀ d r w, d i = false → B d r w → B (Yab d i) r w) ∧ Ya4 P ops B X n fin dead free (i + 1) rest (a.put o.dst undef)) ∨
  (Yo dead o = false ∧ (∀ r, Region.wanted o (yielded ops (Yg ops r free a).tmps) = true) ∧ (∃ t, o.dst = some t ∧ t < a.tmps.size) ∧
   (∀ d r w, d i = false → (∀ e ∈ o.after, Region.binds .any e = true → d e.on = true) → B d r w → o.wp P (Yg ops r free a) w (fun a' w' => ∃ v, a' = (Yg ops r free a).put o.dst v ∧ B (Yab d i) (Ybz r i v) w') (PX X)) ∧ Ya4 P ops B X n fin dead (i :: free) (i + 1) rest a)
section
variable {P : Program} {ops : Array Oper} {B : (Nat → Bool) → (Nat → Value) → World → Prop} {X : List PanicEntry → World → Prop} {n : Nat} {fin : List Nat → List Nat → Act → Prop} {dead free : List Nat} {i : Nat} {o : Oper} {rest : List Oper} {a : Act}
theorem Yag (h : fin dead free a) : Ya4 P ops B X n fin dead free i [] a := h
theorem Yac {a2 : (Nat → Value) → Act} (hd : Yo dead o = false) (hw : ∀ r, Region.wanted o (yielded ops (Yg ops r free a).tmps) = true)
  (h : ∀ (d : Nat → Bool) (r : Nat → Value) (K : Act → World → Prop), d i = false → (∀ e ∈ o.after, Region.binds .any e = true → d e.on = true) → (∀ w', B (Yab d i) r w' → K (a2 r) w') → ∀ w, B d r w → o.wp P (Yg ops r free a) w K (PX X))
  {a3 : Act} (ha : ∃ v, (∀ r, a2 r = (Yg ops r free a).put o.dst v) ∧ a3 = a.put o.dst v) (k : Ya4 P ops B X n fin dead free (i + 1) rest a3) : Ya4 P ops B X n fin dead free i (o :: rest) a := by
 obtain ⟨v, hv, rfl⟩ := ha
 exact .inr (.inl ⟨hd, hw, v, fun d r w hdi hdep hB => h d r _ hdi hdep (fun w' hB' => ⟨hv r, hB'⟩) w hB, k⟩)
theorem Yb {a2 : Act} (hd : Yo dead o = false) (hw : Region.wanted o (yielded ops a.tmps) = true)
  (h : ∀ (d : Nat → Bool) (r : Nat → Value) (K : Act → World → Prop), d i = false → (∀ e ∈ o.after, Region.binds .any e = true → d e.on = true) → (∀ w', B (Yab d i) r w' → K a2 w') → ∀ w, B d r w → o.wp P a w K (PX X))
  (ha : ∃ v, a2 = a.put o.dst v) (k : Ya4 P ops B X n fin dead [] (i + 1) rest a2) : Ya4 P ops B X n fin dead [] i (o :: rest) a := by
 obtain ⟨v, rfl⟩ := ha
 exact .inr (.inl ⟨hd, fun _ => hw, v, fun d r w hdi hdep hB => h d r _ hdi hdep (fun w' hB' => ⟨rfl, hB'⟩) w hB, k⟩)
theorem Yb3 (hd : Yo dead o = false) (hw : ∀ r, Region.wanted o (yielded ops (Yg ops r free a).tmps) = true) (t : Tmp) (ht : o.dst = some t) (hs : t < a.tmps.size)
  (h : ∀ (d : Nat → Bool) (r : Nat → Value) (K : Act → World → Prop), d i = false → ∀ w, B d r w → (∀ v w', B (Yab d i) (Ybz r i v) w' → K ((Yg ops r free a).put o.dst v) w') → o.wp P (Yg ops r free a) w K (PX X))
  (k : Ya4 P ops B X n fin dead (i :: free) (i + 1) rest a) : Ya4 P ops B X n fin dead free i (o :: rest) a :=
 .inr (.inr (.inr (.inr ⟨hd, hw, ⟨t, ht, hs⟩, fun d r w hdi _ hB => h d r _ hdi w hB (fun v w' hB' => ⟨v, rfl, hB'⟩), k⟩)))
end
structure Ydy (P : Program) (ops : Array Oper) (B : (Nat → Bool) → (Nat → Value) → World → Prop) (X : List PanicEntry → World → Prop) (i n : Nat) (dead free : List Nat) (a F : Act) (vs : Nat → Value) : Prop where
 live : ∀ (j : Nat) (o : Oper), i ≤ j → j < n → ops[j]? = some o → j ∉ dead → j ∉ free →
  Yo dead o = false ∧ (((∀ r, Region.wanted o (yielded ops (Yg ops r free F).tmps) = true) ∧ ∀ d r w, d j = false → (∀ e ∈ o.after, Region.binds .any e = true → d e.on = true) → B d r w → Ya0 P o (Yg ops r free F) w (fun v w' => same o.dst a.tmps.size v (vs j) ∧ B (Yab d j) r w') X) ∨ ((∀ r, Region.wanted o (yielded ops (Yg ops r free F).tmps) = false) ∧ vs j = undef ∧ ∀ d r w, d j = false → B d r w → B (Yab d j) r w))
 died : ∀ (j : Nat) (o : Oper), i ≤ j → j < n → ops[j]? = some o → j ∈ dead →
  Yo dead o = true ∨ ((∀ r, Region.wanted o (yielded ops (Yg ops r free F).tmps) = true) ∧ ∀ d r w, d j = false → (∀ e ∈ o.after, Region.binds .any e = true → d e.on = true) → B d r w → Ya0 P o (Yg ops r free F) w (fun _ _ => False) X)
 freed : ∀ (j : Nat) (o : Oper), i ≤ j → j < n → ops[j]? = some o → j ∈ free →
  j ∉ dead ∧ (∀ r, Region.wanted o (yielded ops (Yg ops r free F).tmps) = true) ∧ (∃ t, o.dst = some t ∧ t < a.tmps.size) ∧ ∀ d r w, d j = false → (∀ e ∈ o.after, Region.binds .any e = true → d e.on = true) → B d r w → Ya0 P o (Yg ops r free F) w (fun v w' => B (Yab d j) (Ybz r j v) w') X
 defers : F.defers = a.defers
 size : F.tmps.size = a.tmps.size
 old : ∀ t, (∀ (j : Nat) (oj : Oper), i ≤ j → j < n → ops[j]? = some oj → oj.dst = some t → j ∈ dead ∨ j ∈ free) → F.tmps[t]? = a.tmps[t]?
 new : ∀ (j : Nat) (oj : Oper) t, i ≤ j → j < n → ops[j]? = some oj → j ∉ dead → j ∉ free → oj.dst = some t → t < a.tmps.size → F.tmps[t]? = some (vs j)
theorem Ydw {i : Nat} {dead dead' : List Nat} (h : ∀ d, d < i + 1 → (d ∈ dead' ↔ d ∈ i :: dead)) : i ∈ dead' ∧ ∀ d, d < i → (d ∈ dead' ↔ d ∈ dead) := by
 refine ⟨(h i (by omega)).2 (by simp), fun d hlt => ?_⟩
 rw [h d (by omega)]
 constructor
 ·intro hm; rcases List.mem_cons.1 hm with rfl | hm
  ·omega
  ·exact hm
 ·intro hm; exact List.mem_cons_of_mem _ hm
theorem Ye0 {i : Nat} {dead : List Nat} (hd : ∀ d, d ∈ dead → d < i) : ∀ d, d ∈ i :: dead → d < i + 1 := by
 intro d hm
 rcases List.mem_cons.1 hm with rfl | hm
 ·omega
 ·have := hd d hm; omega
theorem Ybm {P : Program} {ops : Array Oper} {B : (Nat → Bool) → (Nat → Value) → World → Prop} {X : List PanicEntry → World → Prop} {n : Nat} {fin : List Nat → List Nat → Act → Prop} (hk : Ych ops n) :
  ∀ (l : List Oper) (i : Nat) (dead free : List Nat) (a : Act), (∀ j, j < l.length → l[j]? = ops[i + j]?) → i + l.length = n → (∀ d, d ∈ dead → d < i) → (∀ d, d ∈ free → d < i) → Ya4 P ops B X n fin dead free i l a →
  ∃ (vs : Nat → Value) (dead' free' : List Nat) (F : Act), fin dead' free' F ∧ Ydy P ops B X i n dead' free' a F vs ∧ (∀ d, d < i → (d ∈ dead' ↔ d ∈ dead)) ∧ (∀ d, d ∈ dead' → d < n) ∧ (∀ d, d < i → (d ∈ free' ↔ d ∈ free)) ∧ (∀ d, d ∈ free' → d < n)
 |[], i, dead, free, a, _, hn, hd, hfr, h => by
  have hin : i = n := by simpa using hn
  refine ⟨fun _ => undef, dead, free, a, h, ⟨?_, ?_, ?_, rfl, rfl, fun _ _ => rfl, ?_⟩, fun _ _ => Iff.rfl, fun d hdd => by have := hd d hdd; omega, fun _ _ => Iff.rfl, fun d hdd => by have := hfr d hdd; omega⟩
  ·intro j o h1 h2; omega
  ·intro j o h1 h2; omega
  ·intro j o h1 h2; omega
  ·intro j oj t h1 h2; omega
 |o :: l, i, dead, free, a, hl, hn, hd, hfr, h => by
  simp only [List.length_cons] at hn
  have ho : ops[i]? = some o := by simpa using (hl 0 (by simp)).symm
  have hin : i < n := by omega
  have hl' : ∀ j, j < l.length → l[j]? = ops[i + 1 + j]? := fun j hj => by
   have := hl (j + 1) (by simpa using hj)
   simpa [Nat.add_assoc, Nat.add_comm 1 j] using this
  have haft := hk.after i o hin ho
  have hd1 : ∀ d, d ∈ dead → d < i + 1 := fun d hm => by have := hd d hm; omega
  have hf1 : ∀ d, d ∈ free → d < i + 1 := fun d hm => by have := hfr d hm; omega
  have hdstn : ∀ (k : Nat) (t : Tmp), (ops[k]?).bind (·.dst) = some t → ∃ ok, ops[k]? = some ok ∧ ok.dst = some t := by
   intro k t hkd
   cases hok : ops[k]? with
   |none => rw [hok] at hkd; cases hkd
   |some ok => rw [hok] at hkd; exact ⟨ok, rfl, hkd⟩
  -- what the operation looks at stands to the end
  have hstay : ∀ (F b : Act) (dead' free' : List Nat) (vs : Nat → Value) (r : Nat → Value), Ydy P ops B X (i + 1) n dead' free' b F vs → (∀ t, t ∈ o.looksAt ops → b.tmps[t]? = a.tmps[t]?) → b.tmps.size = a.tmps.size →
    (∀ d, d < i → (d ∈ free' ↔ d ∈ free)) → (∀ d, d ∈ free' → d < n) → ∀ t, t ∈ o.looksAt ops → (Yg ops r free a).tmps[t]? = (Yg ops r free' F).tmps[t]? := by
   intro F b dead' free' vs r hr hb hbs hfi hfn t ht
   have hlt : ∀ k, k < n → (ops[k]?).bind (·.dst) = some t → k < i := fun k hkn hkd => by
    obtain ⟨ok, h1, h2⟩ := hdstn k t hkd
    exact (hk.looks i o k ok t hin ho hkn h1 h2 ht).1
   have hFa : F.tmps[t]? = a.tmps[t]? := by
    rw [hr.old t (fun j oj h1 h2 h3 h4 => absurd (hk.looks i o j oj t hin ho h2 h3 h4 ht).1 (by omega)), hb t ht]
   by_cases he : ∃ k, k ∈ free ∧ (ops[k]?).bind (·.dst) = some t
   ·obtain ⟨k, hkf, hkd⟩ := he
    obtain ⟨ok, h1, h2⟩ := hdstn k t hkd
    have hkn : k < n := by have := hfr k hkf; omega
    have hki : k < i := hfr k hkf
    have hu : ∀ (fr : List Nat), (∀ d, d ∈ fr → d < n) → ∀ q, q ∈ fr → (ops[q]?).bind (·.dst) = some t → q = k := by
     intro fr hfrn q hq hqd
     obtain ⟨oq, g1, g2⟩ := hdstn q t hqd
     exact hk.dst q oq k ok t (hfrn q hq) g1 hkn h1 h2 g2
    by_cases hts : t < a.tmps.size
    ·rw [Ycb ops r a t hts k hkd free hkf (hu free (fun d hd => Nat.lt_trans (hfr d hd) hin)), Ycb ops r F t (by rw [hr.size, hbs]; exact hts) k hkd free' ((hfi k hki).2 hkf) (hu free' hfn)]
    ·rw [Array.getElem?_eq_none (by rw [Yba]; exact Nat.le_of_not_lt hts), Array.getElem?_eq_none (by rw [Yba, hr.size, hbs]; exact Nat.le_of_not_lt hts)]
   ·rw [Ya7 ops r a t free (fun k hkf hkd => he ⟨k, hkf, hkd⟩), Ya7 ops r F t free' (fun k hkf hkd => he ⟨k, (hfi k (hlt k (hfn k hkf) hkd)).1 hkf, hkd⟩), hFa]
  have hput : ∀ (v : Value) t, t ∈ o.looksAt ops → (a.put o.dst v).tmps[t]? = a.tmps[t]? := fun v t ht =>
   Yz _ _ _ _ (fun he => absurd (hk.looks i o i o t hin ho hin ho he ht).1 (by omega))
  rcases h with ⟨hdd, h⟩ | ⟨hdd, hw, v, hv, h⟩ | ⟨hdd, hw, hv, h⟩ | ⟨hdd, hw, hsk, h⟩ | ⟨hdd, hw, htt, hv, h⟩
  ·obtain ⟨vs, dead', free', F, hf, hr, hdi, hdn, hfi, hfn⟩ := Ybm hk l (i + 1) (i :: dead) free a hl' (by omega) (Ye0 hd) hf1 h
   obtain ⟨hmem, hdi'⟩ := Ydw hdi
   refine ⟨vs, dead', free', F, hf, ⟨?_, ?_, ?_, hr.defers, hr.size, ?_, ?_⟩, hdi', hdn, fun d hlt => hfi d (by omega), hfn⟩
   ·intro j oj h1 h2 h3 h4
    by_cases e : j = i
    ·subst e; exact absurd hmem h4
    ·exact hr.live j oj (by omega) h2 h3 h4
   ·intro j oj h1 h2 h3 h4
    by_cases e : j = i
    ·subst e
     have : oj = o := Option.some.inj (h3.symm.trans ho)
     subst this
     left; rw [Ya2 haft hdi']; exact hdd
    ·exact hr.died j oj (by omega) h2 h3 h4
   ·intro j oj h1 h2 h3 h4
    by_cases e : j = i
    ·subst e; have := hfr j ((hfi j (by omega)).1 h4); omega
    ·exact hr.freed j oj (by omega) h2 h3 h4
   ·intro t ht; exact hr.old t (fun j oj h1 => ht j oj (by omega))
   ·intro j oj t h1 h2 h3 h4
    by_cases e : j = i
    ·subst e; exact absurd hmem h4
    ·exact hr.new j oj t (by omega) h2 h3 h4
  ·obtain ⟨vs, dead', free', F, hf, hr, hdi, hdn, hfi, hfn⟩ := Ybm hk l (i + 1) dead free _ hl' (by omega) hd1 hf1 h
   have hmem : i ∉ dead' := fun hm => by have := hd i ((hdi i (by omega)).1 hm); omega
   have hmef : i ∉ free' := fun hm => by have := hfr i ((hfi i (by omega)).1 hm); omega
   have hs := fun r => Yau (hk.sel i o ho) (hstay F _ dead' free' vs r hr (hput v) (Yp _ _ _) (fun d hlt => hfi d (by omega)) hfn)
   refine ⟨fun j => if j = i then v else vs j, dead', free', F, hf, ⟨?_, ?_, ?_, by rw [hr.defers, Yan], by rw [hr.size, Yp], ?_, ?_⟩, fun d hlt => hdi d (by omega), hdn, fun d hlt => hfi d (by omega), hfn⟩
   ·intro j oj h1 h2 h3 h4 h5
    by_cases e : j = i
    ·subst e
     have : oj = o := Option.some.inj (h3.symm.trans ho)
     subst this
     refine ⟨by rw [Ya2 haft (fun d hlt => hdi d (by omega))]; exact hdd, .inl ⟨fun r => by rw [← (hs r).2]; exact hw r, fun d r w hd0 hdep hB => ?_⟩⟩
     rw [← Yam (hs r).1]
     simp only [if_true]
     have := Yen (hv d r w hd0 hdep hB)
     rwa [Yba] at this
    ·simp only [if_neg e]
     have := hr.live j oj (by omega) h2 h3 h4 h5
     rwa [Yp] at this
   ·intro j oj h1 h2 h3 h4
    by_cases e : j = i
    ·subst e; exact absurd h4 hmem
    ·exact hr.died j oj (by omega) h2 h3 h4
   ·intro j oj h1 h2 h3 h4
    by_cases e : j = i
    ·subst e; exact absurd h4 hmef
    ·have := hr.freed j oj (by omega) h2 h3 h4
     rwa [Yp] at this
   ·intro t ht
    rw [hr.old t (fun j oj h1 => ht j oj (by omega)), Yz _ _ _ _ (fun he => by rcases ht i o (Nat.le_refl _) hin ho he with h | h; exact hmem h; exact hmef h)]
   ·intro j oj t h1 h2 h3 h4 h4f h5 h6
    by_cases e : j = i
    ·subst e
     have : oj = o := Option.some.inj (h3.symm.trans ho)
     subst this
     simp only [if_true]
     rw [hr.old t (fun k ok g1 g2 g3 g4 => absurd (hk.dst j oj k ok t h2 h3 g2 g3 g4 h5) (by omega)), h5, Ybj _ _ _ h6]
    ·simp only [if_neg e]; exact hr.new j oj t (by omega) h2 h3 h4 h4f h5 (by rw [Yp]; exact h6)
  ·obtain ⟨vs, dead', free', F, hf, hr, hdi, hdn, hfi, hfn⟩ := Ybm hk l (i + 1) (i :: dead) free a hl' (by omega) (Ye0 hd) hf1 h
   obtain ⟨hmem, hdi'⟩ := Ydw hdi
   have hs := fun r => Yau (hk.sel i o ho) (hstay F _ dead' free' vs r hr (fun _ _ => rfl) rfl (fun d hlt => hfi d (by omega)) hfn)
   refine ⟨vs, dead', free', F, hf, ⟨?_, ?_, ?_, hr.defers, hr.size, ?_, ?_⟩, hdi', hdn, fun d hlt => hfi d (by omega), hfn⟩
   ·intro j oj h1 h2 h3 h4
    by_cases e : j = i
    ·subst e; exact absurd hmem h4
    ·exact hr.live j oj (by omega) h2 h3 h4
   ·intro j oj h1 h2 h3 h4
    by_cases e : j = i
    ·subst e
     have : oj = o := Option.some.inj (h3.symm.trans ho)
     subst this
     right
     refine ⟨fun r => by rw [← (hs r).2]; exact hw r, fun d r w hd0 hdep hB => ?_⟩
     rw [← Yam (hs r).1]
     exact Yct (hv d r w hd0 hdep hB)
    ·exact hr.died j oj (by omega) h2 h3 h4
   ·intro j oj h1 h2 h3 h4
    by_cases e : j = i
    ·subst e; have := hfr j ((hfi j (by omega)).1 h4); omega
    ·exact hr.freed j oj (by omega) h2 h3 h4
   ·intro t ht; exact hr.old t (fun j oj h1 => ht j oj (by omega))
   ·intro j oj t h1 h2 h3 h4
    by_cases e : j = i
    ·subst e; exact absurd hmem h4
    ·exact hr.new j oj t (by omega) h2 h3 h4
  ·obtain ⟨vs, dead', free', F, hf, hr, hdi, hdn, hfi, hfn⟩ := Ybm hk l (i + 1) dead free _ hl' (by omega) hd1 hf1 h
   have hmem : i ∉ dead' := fun hm => by have := hd i ((hdi i (by omega)).1 hm); omega
   have hmef : i ∉ free' := fun hm => by have := hfr i ((hfi i (by omega)).1 hm); omega
   have hs := fun r => Yau (hk.sel i o ho) (hstay F _ dead' free' vs r hr (hput undef) (Yp _ _ _) (fun d hlt => hfi d (by omega)) hfn)
   refine ⟨fun j => if j = i then undef else vs j, dead', free', F, hf, ⟨?_, ?_, ?_, by rw [hr.defers, Yan], by rw [hr.size, Yp], ?_, ?_⟩, fun d hlt => hdi d (by omega), hdn, fun d hlt => hfi d (by omega), hfn⟩
   ·intro j oj h1 h2 h3 h4 h5
    by_cases e : j = i
    ·subst e
     have : oj = o := Option.some.inj (h3.symm.trans ho)
     subst this
     refine ⟨by rw [Ya2 haft (fun d hlt => hdi d (by omega))]; exact hdd, .inr ⟨fun r => by rw [← (hs r).2]; exact hw r, by simp, hsk⟩⟩
    ·simp only [if_neg e]
     have := hr.live j oj (by omega) h2 h3 h4 h5
     rwa [Yp] at this
   ·intro j oj h1 h2 h3 h4
    by_cases e : j = i
    ·subst e; exact absurd h4 hmem
    ·exact hr.died j oj (by omega) h2 h3 h4
   ·intro j oj h1 h2 h3 h4
    by_cases e : j = i
    ·subst e; exact absurd h4 hmef
    ·have := hr.freed j oj (by omega) h2 h3 h4
     rwa [Yp] at this
   ·intro t ht
    rw [hr.old t (fun j oj h1 => ht j oj (by omega)), Yz _ _ _ _ (fun he => by rcases ht i o (Nat.le_refl _) hin ho he with h | h; exact hmem h; exact hmef h)]
   ·intro j oj t h1 h2 h3 h4 h4f h5 h6
    by_cases e : j = i
    ·subst e
     have : oj = o := Option.some.inj (h3.symm.trans ho)
     subst this
     simp only [if_true]
     rw [hr.old t (fun k ok g1 g2 g3 g4 => absurd (hk.dst j oj k ok t h2 h3 g2 g3 g4 h5) (by omega)), h5, Ybj _ _ _ h6]
    ·simp only [if_neg e]; exact hr.new j oj t (by omega) h2 h3 h4 h4f h5 (by rw [Yp]; exact h6)
  ·obtain ⟨vs, dead', free', F, hf, hr, hdi, hdn, hfi, hfn⟩ := Ybm hk l (i + 1) dead (i :: free) a hl' (by omega) hd1 (Ye0 hfr) h
   obtain ⟨hmem, hfi'⟩ := Ydw hfi
   have hmed : i ∉ dead' := fun hm => by have := hd i ((hdi i (by omega)).1 hm); omega
   have hs := fun r => Yau (hk.sel i o ho) (hstay F _ dead' free' vs r hr (fun _ _ => rfl) rfl hfi' hfn)
   refine ⟨vs, dead', free', F, hf, ⟨?_, ?_, ?_, hr.defers, hr.size, ?_, ?_⟩, fun d hlt => hdi d (by omega), hdn, hfi', hfn⟩
   ·intro j oj h1 h2 h3 h4 h5
    by_cases e : j = i
    ·subst e; exact absurd hmem h5
    ·exact hr.live j oj (by omega) h2 h3 h4 h5
   ·intro j oj h1 h2 h3 h4
    by_cases e : j = i
    ·subst e; exact absurd h4 hmed
    ·exact hr.died j oj (by omega) h2 h3 h4
   ·intro j oj h1 h2 h3 h4
    by_cases e : j = i
    ·subst e
     have : oj = o := Option.some.inj (h3.symm.trans ho)
     subst this
     obtain ⟨t, ht1, ht2⟩ := htt
     refine ⟨hmed, fun r => by rw [← (hs r).2]; exact hw r, ⟨t, ht1, ht2⟩, fun d r w hd0 hdep hB => ?_⟩
     rw [← Yam (hs r).1]
     exact Yf4 ht1 (by rw [Yba]; exact ht2) (hv d r w hd0 hdep hB)
    ·exact hr.freed j oj (by omega) h2 h3 h4
   ·intro t ht; exact hr.old t (fun j oj h1 => ht j oj (by omega))
   ·intro j oj t h1 h2 h3 h4 h5
    by_cases e : j = i
    ·subst e; exact absurd hmem h5
    ·exact hr.new j oj t (by omega) h2 h3 h4 h5
structure Ydv (ops : Array Oper) (B : (Nat → Bool) → (Nat → Value) → World → Prop) (n : Nat) (dead free : List Nat) (a0 F : Act) (r : Nat → Value) (listed : Array Bool) (a : Act) (w : World) : Prop where
 head : HeadInv .any ops n listed
 world : B (Ybo listed) r w
 defers : a.defers = a0.defers
 size : a.tmps.size = a0.tmps.size
 live : ∀ (j : Nat), j < n → listed.getD j false = true → j ∉ dead
 old : ∀ t, (∀ (j : Nat) (oj : Oper), j < n → ops[j]? = some oj → oj.dst = some t → listed.getD j false = false) → a.tmps[t]? = a0.tmps[t]?
 new : ∀ (j : Nat) (oj : Oper) t, j < n → ops[j]? = some oj → j ∉ free → listed.getD j false = true → oj.dst = some t → a.tmps[t]? = F.tmps[t]?
 newf : ∀ (j : Nat) (oj : Oper) t, j < n → ops[j]? = some oj → j ∈ free → listed.getD j false = true → oj.dst = some t → a.tmps[t]? = some (r j)
theorem Yci {P : Program} {ops : Array Oper} {B : (Nat → Bool) → (Nat → Value) → World → Prop} {X : List PanicEntry → World → Prop} {Q : Exit → Act → World → Prop} {n : Nat} {dead free : List Nat} {a0 F : Act} {vs : Nat → Value}
  (hk : Ych ops n) (hr : Ydy P ops B X 0 n dead free a0 F vs) (hdn : ∀ d, d ∈ dead → d < n) (hfn : ∀ d, d ∈ free → d < n)
  (hwait : ∀ listed, HeadInv .any ops n listed → ∀ i, i < n → listed.getD i true = false → ∀ t, n ≤ t → t ∉ Region.ready .any ops listed)
  (hX : ∀ c a' w', X c w' → a'.defers = a0.defers → a'.tmps.size = a0.tmps.size → (∀ t, (∀ (j : Nat) (oj : Oper), j < n → ops[j]? = some oj → oj.dst ≠ some t) → a'.tmps[t]? = a0.tmps[t]?) → Q (.panic c) a' w')
  (hfin : ∀ listed r w, HeadInv .any ops n listed → (∀ i, i < n → listed.getD i true = true) → dead = [] → B (Ybo listed) r w → wpAny P .any ops Q (ops.size - n) listed (Yg ops r free F) w) :
  ∀ (m : Nat) (r : Nat → Value) (listed : Array Bool) (a : Act) (w : World), Ya8 n listed = m → Ydv ops B n dead free a0 F r listed a w → wpAny P .any ops Q (m + (ops.size - n)) listed a w
 |0, r, listed, a, w, hm, inv => by
  have hall := Ydn hm
  have hall' : ∀ i, i < n → listed.getD i false = true := fun i hi => by
   have h1 := hall i hi
   have h2 : i < listed.size := by rw [inv.head.size]; have := hk.le; omega
   simp [h2] at h1 ⊢; exact h1
  have hdead : dead = [] := by
   cases hde : dead with
   |nil => rfl
   |cons d r =>
    have hd : d ∈ dead := by rw [hde]; simp
    exact absurd hd (inv.live d (hdn d hd) (hall' d (hdn d hd)))
  have hF : a = Yg ops r free F := by
   have h1 : a.tmps = (Yg ops r free F).tmps := by
    apply Array.ext_getElem?
    intro t
    by_cases h : ∃ (j : Nat) (oj : Oper), j < n ∧ ops[j]? = some oj ∧ oj.dst = some t
    ·obtain ⟨j, oj, h1, h2, h3⟩ := h
     have hu : ∀ k, k ∈ free → (ops[k]?).bind (·.dst) = some t → k = j := by
      intro k hkf hkd
      cases hok : ops[k]? with
      |none => rw [hok] at hkd; cases hkd
      |some ok =>
       rw [hok] at hkd
       exact hk.dst k ok j oj t (hfn k hkf) hok h1 h2 h3 hkd
     by_cases hf : j ∈ free
     ·obtain ⟨_, _, ⟨t', ht1, ht2⟩, _⟩ := hr.freed j oj (Nat.zero_le _) h1 h2 hf
      have : t' = t := by rw [ht1] at h3; injection h3
      subst this
      rw [inv.newf j oj t' h1 h2 hf (hall' j h1) h3, Ycb ops r F t' (by rw [hr.size]; exact ht2) j (by rw [h2]; exact h3) free hf hu]
     ·rw [inv.new j oj t h1 h2 hf (hall' j h1) h3, Ya7 ops r F t free (fun k hkf hkd => hf (by rw [← hu k hkf hkd]; exact hkf))]
    ·rw [inv.old t (fun j oj h1 h2 h3 => absurd ⟨j, oj, h1, h2, h3⟩ h), Ya7 ops r F t free (fun k hkf hkd => ?_), hr.old t (fun j oj _ h1 h2 h3 => absurd ⟨j, oj, h1, h2, h3⟩ h)]
     cases hok : ops[k]? with
     |none => rw [hok] at hkd; cases hkd
     |some ok => rw [hok] at hkd; exact h ⟨k, ok, hfn k hkf, hok, hkd⟩
   have h2 : a.defers = (Yg ops r free F).defers := by rw [inv.defers, Yc2, hr.defers]
   revert h1 h2
   generalize Yg ops r free F = G
   intro h1 h2
   cases a; cases G; simp_all
  rw [Nat.zero_add, hF]
  exact hfin listed r w inv.head hall hdead inv.world
 |m + 1, r, listed, a, w, hm, inv => by
  rw [show m + 1 + (ops.size - n) = (m + (ops.size - n)) + 1 by omega]
  obtain ⟨i0, hi0, hun0⟩ : ∃ i, i < n ∧ listed.getD i true = false := by
   have : (List.range n).countP (fun i => !listed.getD i true) ≠ 0 := by
    show Ya8 n listed ≠ 0
    omega
   rw [Ne, List.countP_eq_zero] at this
   simp only [Classical.not_forall] at this
   obtain ⟨i, hi, h⟩ := this
   exact ⟨i, List.mem_range.1 hi, by simpa using h⟩
  have hrd := Yd5 hk inv.head.size i0 hi0 hun0
  refine ⟨fun h0 => ?_, fun i hi => ?_⟩
  ·obtain ⟨j, _, hj⟩ := hrd
   rw [h0] at hj; cases hj
  ·have hin : i < n := by
    rcases Nat.lt_or_ge i n with h | h
    ·exact h
    ·exact absurd hi (hwait listed inv.head i0 hi0 hun0 i h)
   obtain ⟨hun, o, ho, hall⟩ := mem_ready.1 hi
   have hunf : listed.getD i false = false := getD_both hun
   have hm' := Yed hin hun
   have hlt : i < listed.size := by rw [inv.head.size]; have := hk.le; omega
   -- what the operation looks at is as in the frame at the head's end
   have hlook : ∀ t, t ∈ o.looksAt ops → a.tmps[t]? = (Yg ops r free F).tmps[t]? := by
    intro t ht
    by_cases h : ∃ (j : Nat) (oj : Oper), j < n ∧ ops[j]? = some oj ∧ oj.dst = some t
    ·obtain ⟨j, oj, h1, h2, h3⟩ := h
     obtain ⟨_, e, he, hb, hon⟩ := hk.looks i o j oj t hin ho h1 h2 h3 ht
     have hlj : listed.getD j false = true := by rw [← hon]; exact hall e he hb
     have hu : ∀ k, k ∈ free → (ops[k]?).bind (·.dst) = some t → k = j := by
      intro k hkf hkd
      cases hok : ops[k]? with
      |none => rw [hok] at hkd; cases hkd
      |some ok =>
       rw [hok] at hkd
       exact hk.dst k ok j oj t (hfn k hkf) hok h1 h2 h3 hkd
     by_cases hf : j ∈ free
     ·obtain ⟨_, _, ⟨t', ht1, ht2⟩, _⟩ := hr.freed j oj (Nat.zero_le _) h1 h2 hf
      have : t' = t := by rw [ht1] at h3; injection h3
      subst this
      rw [inv.newf j oj t' h1 h2 hf hlj h3, Ycb ops r F t' (by rw [hr.size]; exact ht2) j (by rw [h2]; exact h3) free hf hu]
     ·rw [inv.new j oj t h1 h2 hf hlj h3, Ya7 ops r F t free (fun k hkf hkd => hf (by rw [← hu k hkf hkd]; exact hkf))]
    ·rw [inv.old t (fun j oj h1 h2 h3 => absurd ⟨j, oj, h1, h2, h3⟩ h), Ya7 ops r F t free (fun k hkf hkd => ?_), hr.old t (fun j oj _ h1 h2 h3 => absurd ⟨j, oj, h1, h2, h3⟩ h)]
     cases hok : ops[k]? with
     |none => rw [hok] at hkd; cases hkd
     |some ok => rw [hok] at hkd; exact h ⟨k, ok, hfn k hkf, hok, hkd⟩
   have hs := Yau (hk.sel i o ho) hlook
   have hnd : Yo dead o = false := by
    rw [Bool.eq_false_iff]
    intro hd
    simp only [Yo, List.any_eq_true, Bool.and_eq_true, List.contains_iff_mem, Array.mem_toList_iff] at hd
    obtain ⟨e, he, hb, hm⟩ := hd
    exact inv.live e.on (hdn _ hm) (hall e he hb) hm
   have hd0 : Ybo listed i = false := hunf
   have hold : ∀ (v : Value) t, (∀ (j : Nat) (oj : Oper), j < n → ops[j]? = some oj → oj.dst = some t → (listed.setIfInBounds i true).getD j false = false) → (a.put o.dst v).tmps[t]? = a0.tmps[t]? := by
    intro v t ht
    have hne : o.dst ≠ some t := fun he => by
     have := ht i o hin ho he
     simp [hlt] at this
    rw [Yz _ _ _ _ hne]
    refine inv.old t fun j oj h1 h2 h3 => ?_
    have := ht j oj h1 h2 h3
    by_cases e : i = j
    ·subst e; exact hunf
    ·rwa [getD_set_ne false e] at this
   -- the next frame
   have hnext : ∀ (v : Value) (w' : World), B (Yab (Ybo listed) i) r w' → i ∉ dead → i ∉ free → same o.dst a0.tmps.size v (vs i) → Ydv ops B n dead free a0 F r (listed.setIfInBounds i true) (a.put o.dst v) w' := by
    intro v w' hB hnot hnf hv
    refine ⟨inv.head.set hi hin, by rw [Ye5 hlt]; exact hB, by rw [Yan, inv.defers], by rw [Yp, inv.size], ?_, hold v, ?_, ?_⟩
    ·intro j hj hl
     by_cases e : i = j
     ·subst e; exact hnot
     ·rw [getD_set_ne false e] at hl; exact inv.live j hj hl
    ·intro j oj t h1 h2 h2f h3 h4
     by_cases e : i = j
     ·subst e
      have : oj = o := Option.some.inj (h2.symm.trans ho)
      subst this
      rcases Nat.lt_or_ge t a.tmps.size with ht | ht
      ·rw [h4, Ybj _ _ _ ht, hr.new i oj t (Nat.zero_le _) hin ho hnot hnf h4 (by rw [← inv.size]; exact ht), hv t h4 (by rw [← inv.size]; exact ht)]
      ·rw [Array.getElem?_eq_none (by rw [Yp]; exact ht), Array.getElem?_eq_none (by rw [hr.size, ← inv.size]; exact ht)]
     ·rw [getD_set_ne false e] at h3
      have hne : o.dst ≠ some t := fun he => e (hk.dst i o j oj t hin ho h1 h2 h4 he)
      rw [Yz _ _ _ _ hne]
      exact inv.new j oj t h1 h2 h2f h3 h4
    ·intro j oj t h1 h2 h2f h3 h4
     by_cases e : i = j
     ·subst e; exact absurd h2f hnf
     ·rw [getD_set_ne false e] at h3
      have hne : o.dst ≠ some t := fun he => e (hk.dst i o j oj t hin ho h1 h2 h4 he)
      rw [Yz _ _ _ _ hne]
      exact inv.newf j oj t h1 h2 h2f h3 h4
   have hnextf : ∀ (v : Value) (w' : World), B (Yab (Ybo listed) i) (Ybz r i v) w' → i ∉ dead → i ∈ free → Ydv ops B n dead free a0 F (Ybz r i v) (listed.setIfInBounds i true) (a.put o.dst v) w' := by
    intro v w' hB hnot hnf
    obtain ⟨_, _, ⟨t0, ht1, ht2⟩, _⟩ := hr.freed i o (Nat.zero_le _) hin ho hnf
    refine ⟨inv.head.set hi hin, by rw [Ye5 hlt]; exact hB, by rw [Yan, inv.defers], by rw [Yp, inv.size], ?_, hold v, ?_, ?_⟩
    ·intro j hj hl
     by_cases e : i = j
     ·subst e; exact hnot
     ·rw [getD_set_ne false e] at hl; exact inv.live j hj hl
    ·intro j oj t h1 h2 h2f h3 h4
     by_cases e : i = j
     ·subst e; exact absurd hnf h2f
     ·rw [getD_set_ne false e] at h3
      have hne : o.dst ≠ some t := fun he => e (hk.dst i o j oj t hin ho h1 h2 h4 he)
      rw [Yz _ _ _ _ hne]
      exact inv.new j oj t h1 h2 h2f h3 h4
    ·intro j oj t h1 h2 h2f h3 h4
     by_cases e : i = j
     ·subst e
      have : oj = o := Option.some.inj (h2.symm.trans ho)
      subst this
      have : t0 = t := by rw [ht1] at h4; injection h4
      subst this
      rw [h4, Ybj _ _ _ (by rw [inv.size]; exact ht2)]
      simp [Ybz]
     ·rw [getD_set_ne false e] at h3
      have hne : o.dst ≠ some t := fun he => e (hk.dst i o j oj t hin ho h1 h2 h4 he)
      rw [Yz _ _ _ _ hne, inv.newf j oj t h1 h2 h2f h3 h4]
      simp only [Ybz]
      rw [if_neg (fun h => e h.symm)]
   have hpan : ∀ c w', X c w' → Q (.panic c) a w' := fun c w' hx =>
    hX c a w' hx inv.defers inv.size fun t ht => inv.old t fun j oj h1 h2 h3 => absurd h3 (ht j oj h1 h2)
   unfold wpOp
   simp only [ho]
   by_cases hde : i ∈ dead
   ·rcases hr.died i o (Nat.zero_le _) hin ho hde with h | ⟨hw, h⟩
    ·rw [h] at hnd; cases hnd
    ·rw [if_pos (by rw [hs.2]; exact hw r)]
     refine .inl (Ybp ?_)
     rw [Yam hs.1]
     exact Ybx (h _ r w hd0 hall inv.world) (fun _ _ hf => hf.elim) hpan
   ·by_cases hfe : i ∈ free
    ·obtain ⟨_, hw, _, h⟩ := hr.freed i o (Nat.zero_le _) hin ho hfe
     rw [if_pos (by rw [hs.2]; exact hw r)]
     refine .inl (Ybp ?_)
     rw [Yam hs.1]
     refine Ybx (h _ r w hd0 hall inv.world) (fun v w' hv => ?_) hpan
     exact Yci hk hr hdn hfn hwait hX hfin m _ _ _ _ (by omega) (hnextf v w' hv hde hfe)
    ·obtain ⟨_, ⟨hw, h⟩ | ⟨hw, h, hsk⟩⟩ := hr.live i o (Nat.zero_le _) hin ho hde hfe
     ·rw [if_pos (by rw [hs.2]; exact hw r)]
      refine .inl (Ybp ?_)
      rw [Yam hs.1]
      refine Ybx (h _ r w hd0 hall inv.world) (fun v w' hv => ?_) hpan
      exact Yci hk hr hdn hfn hwait hX hfin m _ _ _ _ (by omega) (hnext v w' hv.2 hde hfe hv.1)
     ·rw [if_neg (by rw [hs.2, hw r]; simp)]
      exact Yci hk hr hdn hfn hwait hX hfin m _ _ _ _ (by omega) (hnext undef w (hsk _ r w hd0 inv.world) hde hfe (fun _ _ _ => h.symm))
theorem Yaq {P : Program} {id : Nat} {Q : Exit → Act → World → Prop} {a : Act} {w : World} {l : List Oper} (n : Nat) (B : (Nat → Bool) → (Nat → Value) → World → Prop) (X : List PanicEntry → World → Prop) (hm : P.follows .mixedOrders = true) (hok : Yd9 l.toArray n = true)
  (hB : ∀ r, B (fun _ => false) r w.drew)
  (hX : ∀ c a' w', X c w' → a'.defers = a.defers → a'.tmps.size = a.tmps.size → (∀ t, noDst l n t = true → a'.tmps[t]? = a.tmps[t]?) → Q (.panic c) a' w')
  (h : Ya4 P l.toArray B X n (fun dead free F => dead = [] → ∀ r w1 d, (∀ j, j < n → d j = true) → B d r w1 → wpList P l.toArray Q (l.drop n) (Yg l.toArray r free F) w1) [] [] 0 (l.take n) a) : (Code.region id l.toArray true).wp P Q a w := by
 simp only [Yd9, Bool.and_eq_true, Bool.or_eq_true, decide_eq_true_eq] at hok
 obtain ⟨⟨hh, ht⟩, hq⟩ := hok
 have hk := Ydp hh
 have hle : n ≤ l.length := by simpa using hk.le
 have htl : (l.take n).length = n := by simp; omega
 obtain ⟨vs, dead, free, F, hf, hr, _, hdn, _, hfn⟩ := Ybm hk (l.take n) 0 [] [] a (fun j hj => by
  have hj' : j < n := by rw [htl] at hj; exact hj
  simp [hj']) (by simpa using htl) (by simp) (by simp) h
 have hun : Ya8 n (Array.replicate l.toArray.size false) = n := by
  have : ∀ i, i ∈ List.range n → (!(Array.replicate l.toArray.size false).getD i true) = true := fun i hi => by
   have hi' : i < l.toArray.size := by have := List.mem_range.1 hi; simp; omega
   have hi'' : i < l.length := by simpa using hi'
   simp [hi'']
  unfold Ya8
  rw [List.countP_eq_length.2 this, List.length_range]
 have inv0 : HeadInv .any l.toArray n (Array.replicate l.toArray.size false) :=
  ⟨by simp, fun j oj _ hl => (by rw [getD_replicate_false] at hl; cases hl), fun t _ ht => getD_in (by simpa using ht) (getD_replicate_false _ _)⟩
 have hgo := Yci (Q := Q) hk hr hdn hfn ?_ (fun c a' w' hx h1 h2 h3 => hX c a' w' hx h1 h2 fun t ht' => h3 t fun j oj g1 g2 => Yeb ht' j oj g1 (by simpa using g2)) ?_ n (fun _ => undef) _ a w.drew hun
  ⟨inv0, by rw [Ygd]; exact hB _, rfl, rfl, fun j _ hl => (by rw [getD_replicate_false] at hl; cases hl), fun _ _ => rfl, fun j oj t _ _ _ hl => (by rw [getD_replicate_false] at hl; cases hl), fun j oj t _ _ _ hl => (by rw [getD_replicate_false] at hl; cases hl)⟩
 ·refine wp_region_any hm ?_
  rw [show n + (l.toArray.size - n) = l.toArray.size by simp; omega] at hgo
  exact hgo
 ·intro listed inv i hi hun t hnt
  rcases ht with ht | ⟨⟨h1, h2⟩, h3⟩
  ·intro hrd
   obtain ⟨_, o, ho, _⟩ := mem_ready.1 hrd
   have := (Array.getElem?_eq_some_iff.1 ho).1
   omega
  ·exact tail_waits h2 h3 h1 inv _ i rfl hi hun t hnt
 ·intro listed r w1 inv hall hd hBw
  have hlst : listed = Array.replicate n true ++ Array.replicate (l.toArray.size - n) false := by
   apply Array.ext
   ·rw [inv.size]; simp; omega
   ·intro i h1 h2
    by_cases hi : i < n
    ·have := hall i hi
     simp [h1] at this
     rw [this, Array.getElem_append_left (by simpa using hi)]
     simp
    ·have := inv.tail i (by omega) (by rw [← inv.size]; exact h1)
     simp [h1] at this
     rw [this, Array.getElem_append_right (by simpa using hi)]
     simp
  have hdl : (l.drop n).length = l.toArray.size - n := by simp
  have := wpAny_of_seq (md := .any) (P := P) (ops := l.toArray) (Q' := Q) (l.drop n) n listed (Yg l.toArray r free F) w1 (fun j => by simp [List.getElem?_drop]) (by rw [hdl, hlst]; exact hq) (hf hd r w1 (Ybo listed) (fun j hj => by
   have h1 := hall j hj
   have h2 : j < listed.size := by rw [inv.size]; have := hk.le; omega
   simp only [Ybo]
   simp [h2] at h1 ⊢; exact h1) hBw)
  rwa [hdl] at this
end
structure BArg (w : World) (v : Value) (L : List Int) (g : Nat) : Prop where
 b : Ya3 w v L g
 n : L.length ≤ maxLen
 r : BOk L
 c : ∀ b n c, v = .slice b n c → n ≤ c
 g : g ≤ w.heap.size
section
open Go.WideShapes Go.ChangeShapes
theorem wf_byte {z : Int} (h : (Lit.int .u8 z).wf = true) : 0 ≤ z ∧ z ≤ 255 := by
 simp [Lit.wf, IntKind.min, IntKind.max, IntKind.signed, IntKind.bits] at h
 omega
theorem cells_u8 : Try.prog.cellsOf 5 = 1 := by kernel_rfl
theorem Ygp {H : Type} {enc : TypeId × Value → H} {w : World} {t : TypeId} (ht : Try.prog.underlying t = some (.slice 5)) {b0 : Nat} {v : Value} {d : DataW H} {p : List MemPlace}
  (hval : Value.okWide Try.prog w .any b0 t v) (h : DataW.Trod enc Try.prog w 0 (fun _ => true) true t v d p) : ∃ L g, BArg w v L g := by
 obtain ⟨a1, len, cap, rfl⟩ := okWide_slice ht hval
 obtain ⟨fuel, hf⟩ := h
 rcases open_ints ht Try.underlying5 cells_u8 hf with ⟨hcs, hx⟩ | ⟨a, len', cap', zs, hcs, _, hl, hm, hz, hx, hcell, hwz⟩
 ·simp [Value.cells] at hcs
  obtain ⟨rfl, rfl, rfl⟩ := hcs
  exact ⟨[], 0, .inl ⟨rfl, rfl⟩, Nat.zero_le _, fun i => by simp, fun b n c e => by injection e; omega, Nat.zero_le _⟩
 ·simp [Value.cells] at hcs
  obtain ⟨rfl, rfl, rfl⟩ := hcs
  simp only [if_true] at hz
  simp only [Value.okWide, ht, Cell.okWide, Cell.ok, World.has] at hval
  obtain ⟨_, _, _, hsp, row, cells, hsh, _⟩ := hval
  obtain ⟨ab, ao, spot⟩ := a
  simp only at hsp
  subst hsp
  have hb : ∃ C f, w.heap[ab]? = some (.cells C row f) := by
   unfold World.shape? at hsh
   split at hsh
   ·rename_i c e f hh
    injection hsh with hsh
    injection hsh with h1 _
    subst h1
    exact ⟨c, f, hh⟩
   ·cases hsh
  obtain ⟨C, f, hb⟩ := hb
  have hlen : (zs.take len).length = len := by rw [List.length_take]; omega
  refine ⟨zs.take len, ab, .inr ⟨ao, cap, C, row, f, by rw [hlen], hb, fun i hi => ?_⟩, by omega, fun i => ?_, fun b n c e => by injection e; omega, Nat.le_of_lt (Yj hb)⟩
  ·rw [hlen] at hi
   have hc := hcell i (by omega)
   rw [Addr.add_lit, Ya hb] at hc
   rw [hc, List.getD_eq_getElem?_getD, List.getD_eq_getElem?_getD, List.getElem?_take, if_pos hi]
  ·rw [List.getD_eq_getElem?_getD, List.getElem?_take]
   split
   ·by_cases hi : i < zs.length
    ·rw [List.getElem?_eq_getElem hi, Option.getD_some]; exact wf_byte (hwz _ (List.getElem_mem hi))
    ·rw [List.getElem?_eq_none (by omega)]; simp
   ·simp
theorem BOk.take {L : List Int} (h : BOk L) (n : Nat) : BOk (L.take n) := by
 intro i
 rw [List.getD_eq_getElem?_getD, List.getElem?_take]
 split
 ·rw [← List.getD_eq_getElem?_getD]; exact h i
 ·simp
theorem BArg.keep {w w' : World} {v : Value} {L : List Int} {g : Nat} (h : BArg w v L g) (u : Upd [] w w') : BArg w' v L g :=
 ⟨h.b.keep u (by simp), h.n, h.r, h.c, Nat.le_trans h.g u.size⟩
def Own (w : World) (base : Nat) (v : Value) (L : List Int) : Prop := w.ownsRow base 5 1 v L.length (L.map (Value.int .u8))
theorem own_nil (w : World) (base : Nat) : Own w base (.slice none 0 0) [] := ⟨rfl, .inl ⟨rfl, rfl⟩⟩
theorem Own.keep {w w' : World} {base : Nat} {v : Value} {L : List Int} {S : List Nat} (h : Own w base v L) (u : Upd S w w') (hS : ∀ g, v.ownBlock = some g → g ∉ S) : Own w' base v L := by
 refine ⟨h.1, ?_⟩
 rcases h.2 with h0 | ⟨g, cap, cur, rfl, hb, hg, hr⟩
 ·exact .inl h0
 ·exact .inr ⟨g, cap, cur, rfl, hb, u.get hg (hS g rfl), hr⟩
theorem Own.block {w : World} {base : Nat} {v : Value} {L : List Int} (h : Own w base v L) : ∀ g, v.ownBlock = some g → base ≤ g ∧ g < w.heap.size := by
 intro g e
 rcases h.2 with ⟨rfl, _⟩ | ⟨g', cap, cur, rfl, hb, hg, hr⟩
 ·cases e
 ·simp only [Value.ownBlock, Option.some.injEq] at e
  subst e
  exact ⟨hb, Yj hg⟩
structure Grew (w : World) (base : Nat) (v : Value) (L : List Int) (v' : Value) (w' : World) : Prop where
 o : Own w' base v' L
 u : Upd v.ownBlock.toList w w'
 b : v'.ownBlock = v.ownBlock ∨ v'.ownBlock = some w.heap.size
theorem Yfg (w : World) (base : Nat) (ty : TypeId) (v : Value) (L : List Int) (hown : Own w base v L) (vb : Value) (M : List Int) (g : Nat) (hb : Ya3 w vb M g) (hn : L.length + M.length ≤ 10000) (hbase : base ≤ w.heap.size) :
  ∃ v' w', (Builtin.append_ #[22, 22] ty #[v, vb]).run Try.prog w = .ok v' w' ∧ Grew w base v (L ++ M) v' w' := by
 obtain ⟨i, hi, hz0, hz1, hz2⟩ := info_parts Yf9
 have key : ∀ (a : Addr) (m c : Nat), M.length = m → (∀ j u, (M.map (Value.int .u8))[j]? = some u → w.cell? (a.add j) = some u) → ∃ v' w', (Builtin.append_ #[22, 22] ty #[v, .slice (some a) m c]).run Try.prog w = .ok v' w' ∧ Grew w base v (L ++ M) v' w' := by
  intro a m c hm hc
  subst hm
  obtain ⟨v', w', h1, h2, h3, _, h5⟩ := run_append_own_at (P := Try.prog) w base 22 ty 5 i _ 1 1 Try.underlying22 hi hz0 hz1 hz2 rfl (by decide) v L.length _ hown a M.length c (M.map (Value.int .u8)) (by simp) hc
   (by intro u hu; simp only [List.mem_map] at hu; obtain ⟨z, _, rfl⟩ := hu; rfl) (by unfold maxLen; omega) (by omega) hbase
  refine ⟨v', w', h1, ?_, Upd.of_grown h3, h5⟩
  unfold Own
  rw [List.length_append, List.map_append]
  exact h2
 rcases hb with ⟨rfl, rfl⟩ | ⟨o, c, C, T, f, rfl, hg, hc⟩
 ·refine ⟨v, w, ?_, ?_, Upd.refl _ _, .inl rfl⟩
  ·rcases hown.2 with ⟨rfl, h0⟩ | ⟨g, cap, cur, rfl, _, _, hnc, _⟩
   ·simp [Builtin.append_, run_underlying Try.underlying22, sizeOf, typeInfo, hi, Builtin.lenOf, Builtin.firstCells]
   ·simp [Builtin.append_, run_underlying Try.underlying22, sizeOf, typeInfo, hi, Builtin.lenOf, Builtin.firstCells, hnc, storeCells]
  ·rw [List.append_nil]; exact hown
 ·refine key _ _ _ rfl fun j u hu => ?_
  have hj : j < M.length := by
   have := (List.getElem?_eq_some_iff.1 hu).1
   simpa using this
  rw [Addr.add_lit, Ya hg, hc j hj]
  rw [List.getElem?_map, List.getElem?_eq_getElem hj] at hu
  simp only [Option.map_some, Option.some.injEq] at hu
  rw [List.getD_eq_getElem?_getD, List.getElem?_eq_getElem hj, Option.getD_some, hu]
theorem Ydx {ops : Array Oper} {rest : List Oper} {o : Oper} {a : Act} {w : World} {Q : Exit → Act → World → Prop} (hgd : o.guard = none) (s x : Operand)
  (ho : o.op = .call { callee := .builtin .append, args := #[s, x], argTypes := #[22, 22] })
  (base : Nat) (v : Value) (L : List Int) (hs : a.eval s = v) (hown : Own w base v L) (vb : Value) (M : List Int) (g : Nat) (hx : a.eval x = vb) (hb : Ya3 w vb M g) (hn : L.length + M.length ≤ 10000) (hbase : base ≤ w.heap.size)
  (h : ∀ v' w', Grew w base v (L ++ M) v' w' → wpList Try.prog ops Q rest (a.put o.dst v') w') : wpList Try.prog ops Q (o :: rest) a w := by
 refine wpList_plain hgd fun _ hK => ?_
 obtain ⟨v', w', hr, h2⟩ := Yfg w base o.type v L hown vb M g hb hn hbase
 unfold Oper.wp execOp
 simp only [ho, resolve, invoke, builtin, Sem.run_bind, Sem.run_pure, Result.andThen_ok, List.map_toArray, List.map_cons, List.map_nil, hs, hx, hr]
 exact hK _ _ (h v' w' h2)
end
theorem Yeh {w : World} {base : Nat} {l : List Int} {v : Value} (h : w.ownsRow base 5 1 v l.length (l.map (Value.int .u8))) :
  (convert 22 9 v).run Try.prog w = .ok (.string (strOfNums l)) w := by
 have hk := h
 obtain ⟨_, ⟨h1, h2⟩ | ⟨g, cap, cur, h1, _⟩⟩ := h
 ·have : l = [] := List.length_eq_zero_iff.1 h2
  subst this
  rw [h1]
  exact run_convert_bytes_nil w 22 5 (by kernel_rfl) (by kernel_rfl) _ _ _ (by kernel_rfl)
 ·rw [h1]
  refine run_convert_bytes_arg w 22 5 (by kernel_rfl) (by kernel_rfl) g 0 _ cap l rfl (fun i hi => ?_) _ (by kernel_rfl)
  have := hk.cells (g := g) (by rw [h1]; rfl) i (.int .u8 (l.getD i 0)) (by rw [List.getElem?_map, List.getD_eq_getElem?_getD, List.getElem?_eq_getElem hi]; rfl)
  rw [Nat.zero_add]
  rcases i with _ | i <;> simpa [Addr.add] using this
theorem Yfv {w : World} {base : Nat} {l : List Int} {v : Value} (h : w.ownsRow base 5 1 v l.length (l.map (Value.int .u8))) : ∃ g, Ya3 w v l g := by
 rcases h.2 with ⟨h1, h0⟩ | ⟨g, cap, cur, h1, hb, hg, hnc, hcm, hs, ht⟩
 ·exact ⟨0, .inl ⟨h1, List.length_eq_zero_iff.1 h0⟩⟩
 ·refine ⟨g, .inr ⟨0, cap, cur, _, _, h1, hg, fun i hi => ?_⟩⟩
  have e : (cur.toList.take (l.length * 1))[i]? = some (.int .u8 (l.getD i 0)) := by
   rw [ht, List.getElem?_map, List.getD_eq_getElem?_getD, List.getElem?_eq_getElem hi]; rfl
  rw [Nat.mul_one, List.getElem?_take, if_pos hi, Array.getElem?_toList] at e
  rw [Nat.zero_add]; exact e
theorem Ydi {w : World} {g : Nat} {l : List Int} {v : Value} (h : Ya3 w v l g) : (convert 22 9 v).run Try.prog w = .ok (.string (strOfNums l)) w := by
 rcases h with ⟨rfl, rfl⟩ | ⟨o, c, C, T, f, rfl, hb, hc⟩
 ·exact run_convert_bytes_nil w 22 5 (by kernel_rfl) (by kernel_rfl) _ _ _ (by kernel_rfl)
 ·refine run_convert_bytes_arg w 22 5 (by kernel_rfl) (by kernel_rfl) g o _ c l rfl (fun i hi => ?_) _ (by kernel_rfl)
  have e := hc i hi
  rw [← Ya hb] at e
  rcases i with _ | i <;> simpa [Addr.add] using e
end Go.Proofs.Ytchoedlinimeaaa
