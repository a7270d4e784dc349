/-
  Parts of the proof (their names shortened by a program). No condition.
-/
import Derived.Test.YteiplidhkelkbaaGreatMg01
import Derived.Test.YteiplidhkelkbaaGreatMg03
import Derived.Test.YteiplidhkelkbaaGreatMg02
import Derived.Outline
import Derived.Laws.IdiomCopy
import Derived.StillTailTactics
namespace Go.Proofs.YteiplidhkelkbaaGreat
open Go Go.RowKit
set_option linter.unusedVariables false
set_option linter.unusedSimpArgs false
set_option maxRecDepth 100000
set_option maxHeartbeats 16000000
theorem Yry : (Tryz.prog.info? 32).map (·.size) = some 4 := by kernel_rfl
theorem Ycx {w : World} {b : Nat} {t : TypeId} {a0 a1 a2 a3 : Value} (h : w.heap[b]? = some (.cells #[a0, a1, a2, a3] t (0, 0))) (u0 u1 u2 u3 : Value) :
  ((((w.setCell ⟨b, 0, none⟩ u0).setCell ⟨b, 0 + 1, none⟩ u1).setCell ⟨b, 0 + 2, none⟩ u2).setCell ⟨b, 0 + 3, none⟩ u3).heap[b]? = some (.cells #[u0, u1, u2, u3] t (0, 0)) :=
 Ys (Ys (Ys (Ys h 0 u0) 1 u1) 2 u2) 3 u3
theorem Yap {S : List Nat} {w0 w : World} {b : Nat} (h : Upd S w0 w) (hb : b ∈ S ∨ w0.heap.size ≤ b) (u0 u1 u2 u3 : Value) :
  Upd S w0 ((((w.setCell ⟨b, 0, none⟩ u0).setCell ⟨b, 0 + 1, none⟩ u1).setCell ⟨b, 0 + 2, none⟩ u2).setCell ⟨b, 0 + 3, none⟩ u3) :=
 (((h.setCell (p := ⟨b, 0, none⟩) hb _).setCell (p := ⟨b, 0 + 1, none⟩) hb _).setCell (p := ⟨b, 0 + 2, none⟩) hb _).setCell (p := ⟨b, 0 + 3, none⟩) hb _
structure Flt where
 k : Int
 pc : Int
 a : Int
 wt : Int
 deriving DecidableEq
def Flt.cells (f : Flt) : Array Value := #[.int .i64 f.k, .int .u32 f.pc, .int .u32 f.a, .int .i64 f.wt]
def Flt.val (f : Flt) : Value := .agg #[.int .i64 f.k, .int .u32 f.pc, .int .u32 f.a, .int .i64 f.wt]
def Flt.zero : Flt := ⟨0, 0, 0, 0⟩
def Mem.rdF (M : Mem) (x bytes right : Int) : Flt := match M.bad x (Ybo right) (Yb3 bytes).toNat with | none => Flt.zero | some i => ⟨1, 0, Yx x i, Ybo right⟩
theorem Mem.readF_val (M : Mem) (x bytes right : Int) : M.readF x bytes right = (M.rdF x bytes right).val := by
 unfold Mem.readF Mem.rdF; cases M.bad x (Ybo right) (Yb3 bytes).toNat <;> rfl
def lowI (l : Int) : Int := bits .and .i64 l (wrap64 (-l))
def Mem.rightAt (M : Mem) (x : Int) : Int := if x < 16384 then M.R (x / 256).toNat else 0
def Mem.lack (M : Mem) (x r : Int) : Int := lowI (bits .andNot .i64 r (M.rightAt x))
theorem Ynn {tmps : Array Value} {w : World} (a : Tmp) (b : Nat) (k : Bool) (ha : tmps.getD a undef = .pointer (some ⟨b, 0, none⟩)) (hb : w.heap[b]? = some (.cells #[.bool k] 4 (0, 0))) : (Yc3 tmps (.cell a 4)).run Tryz.prog w = .ok (.bool k) w := by
 have hc : w.cell? ⟨b, 0, none⟩ = some (.bool k) := by rw [Ya hb]; rfl
 simp only [Yc3, Sem.run_bind, ha]
 simp [asAddr, go_sem, hc]
theorem Ycp {tmps : Array Value} {w : World} (a : Tmp) (b : Nat) (F : Flt) (ha : tmps.getD a undef = .pointer (some ⟨b, 0, none⟩)) (hb : w.heap[b]? = some (.cells #[.int .i64 F.k, .int .u32 F.pc, .int .u32 F.a, .int .i64 F.wt] 32 (0, 0))) :
  (Yc3 tmps (.cell a 32)).run Tryz.prog w = .ok F.val w :=
 Ygv a 32 b _ _ ha hb Tryz.underlying32 rfl Yry
def Mem.canBad (M : Mem) (x : Int) (n : Nat) (r : Int) : Option Nat := (List.range n).find? fun i => M.lack (Yx x i) r != 0
def Mem.canF (M : Mem) (x : Int) (n : Nat) (r : Int) : Flt := match M.canBad x n r with | none => Flt.zero | some i => ⟨1, 0, Yx x i, M.lack (Yx x i) r⟩
def Mem.canK (M : Mem) (x : Int) (n : Nat) (r : Int) : Bool := (M.canBad x n r).isNone
theorem Yqp (M : Mem) (x : Int) (n : Nat) (r : Int) (j : Nat) (hj : j < n) (hc : ∀ t, t < j → M.lack (Yx x t) r = 0) (hb : M.lack (Yx x j) r ≠ 0) : M.canBad x n r = some j := by
 rw [Mem.canBad, List.find?_range_eq_some]
 exact ⟨by simpa using hb, by simpa using hj, fun t ht => by simp [hc t ht]⟩
theorem Yq0 (M : Mem) (x : Int) (n : Nat) (r : Int) (hc : ∀ t, t < n → M.lack (Yx x t) r = 0) : M.canBad x n r = none := by
 rw [Mem.canBad, List.find?_eq_none]
 intro t ht
 simp [hc t (List.mem_range.1 ht)]
theorem lack_can {M : Mem} (hM : M.Ok) (y : Int) (h0 : 0 ≤ y) (r : Int) (hr : r = 1 ∨ r = 2 ∨ r = 4) : (M.lack y r = 0) ↔ (M.can y r = true) := by
 unfold Mem.lack Mem.can Mem.rightAt
 by_cases h : y < 16384
 ·rw [if_pos h, decide_eq_true h, Bool.true_and]
  have hR := hM.R (y / 256).toNat
  generalize M.R (y / 256).toNat = q at *
  obtain ⟨q0, q7⟩ := hR
  have hq : q = 0 ∨ q = 1 ∨ q = 2 ∨ q = 3 ∨ q = 4 ∨ q = 5 ∨ q = 6 ∨ q = 7 := by omega
  rcases hr with rfl | rfl | rfl <;> rcases hq with rfl | rfl | rfl | rfl | rfl | rfl | rfl | rfl <;> decide +kernel
 ·rw [if_neg h, decide_eq_false h, Bool.false_and]
  rcases hr with rfl | rfl | rfl <;> decide +kernel
theorem find?_isNone {p : Nat → Bool} {n : Nat} : ((List.range n).find? p).isNone = true ↔ ∀ t, t < n → p t = false := by
 rw [Option.isNone_iff_eq_none, List.find?_eq_none]
 constructor
 ·intro h t ht
  have := h t (List.mem_range.2 ht)
  simpa using this
 ·intro h t ht
  simp [h t (List.mem_range.1 ht)]
theorem Yrs (M : Mem) (x : Int) (n : Nat) (r : Int) : M.bad x r n = none ↔ ∀ t, t < n → M.can (Yx x t) r = true := by
 rw [← Option.isNone_iff_eq_none, Mem.bad, find?_isNone]
 simp
section
def Ybq (d : Nat → Bool) (i : Nat) : Nat → Bool := fun j => if j = i then true else d j
def Yee (listed : Array Bool) : Nat → Bool := fun j => listed.getD j false
theorem Yjn {listed : Array Bool} {i : Nat} (h : i < listed.size) : Yee (listed.setIfInBounds i true) = Ybq (Yee listed) i := by
 funext j
 simp only [Yee, Ybq]
 by_cases e : j = i
 ·subst e; simp [h]
 ·rw [if_neg e, getD_set_ne false (fun h => e h.symm)]
theorem Yky (n : Nat) : Yee (Array.replicate n false) = fun _ => false := by
 funext j; exact getD_replicate_false _ _
def Ygi (P : Program) (ops : Array Oper) (B : (Nat → Bool) → World → Prop) (X : List PanicEntry → World → Prop) (fin : List Nat → Act → Prop) : List Nat → Nat → List Oper → Act → Prop
 |dead, _, [], a => fin dead a
 |dead, i, o :: rest, a =>
  (Ybe dead o = true ∧ Ygi P ops B X fin (i :: dead) (i + 1) rest a) ∨
  (Ybe dead o = false ∧ Region.wanted o (yielded ops a.tmps) = true ∧ ∃ v, (∀ d w, d i = false → B d w → o.wp P a w (fun a' w' => a' = a.put o.dst v ∧ B (Ybq d i) w') (PX X)) ∧ Ygi P ops B X fin dead (i + 1) rest (a.put o.dst v)) ∨
  (Ybe dead o = false ∧ Region.wanted o (yielded ops a.tmps) = true ∧ (∀ d w, d i = false → B d w → o.wp P a w (fun _ _ => False) (PX X)) ∧ Ygi P ops B X fin (i :: dead) (i + 1) rest a) ∨
  (Ybe dead o = false ∧ Region.wanted o (yielded ops a.tmps) = false ∧ (∀ d w, d i = false → B d w → B (Ybq d i) w) ∧ Ygi P ops B X fin dead (i + 1) rest (a.put o.dst undef))
section
variable {P : Program} {ops : Array Oper} {B : (Nat → Bool) → World → Prop} {X : List PanicEntry → World → Prop} {fin : List Nat → Act → Prop} {dead : List Nat} {i : Nat} {o : Oper} {rest : List Oper} {a : Act}
theorem Yal (h : fin dead a) : Ygi P ops B X fin dead i [] a := h
theorem Yf {a2 : Act} (hd : Ybe dead o = false) (hw : Region.wanted o (yielded ops a.tmps) = true)
  (h : ∀ (d : Nat → Bool) (K : Act → World → Prop), d i = false → (∀ w', B (Ybq d i) w' → K a2 w') → ∀ w, B d w → o.wp P a w K (PX X))
  (hv : ∃ v, a2 = a.put o.dst v) (k : Ygi P ops B X fin dead (i + 1) rest a2) : Ygi P ops B X fin dead i (o :: rest) a := by
 obtain ⟨v, rfl⟩ := hv
 exact .inr (.inl ⟨hd, hw, v, fun d w hdi hB => h d _ hdi (fun w' hB' => ⟨rfl, hB'⟩) w hB, k⟩)
theorem Yet (hd : Ybe dead o = false) (hw : Region.wanted o (yielded ops a.tmps) = false) (hs : ∀ d w, d i = false → B d w → B (Ybq d i) w) (k : Ygi P ops B X fin dead (i + 1) rest (a.put o.dst undef)) : Ygi P ops B X fin dead i (o :: rest) a :=
 .inr (.inr (.inr ⟨hd, hw, hs, k⟩))
end
structure Ykj (P : Program) (ops : Array Oper) (B : (Nat → Bool) → World → Prop) (X : List PanicEntry → World → Prop) (i n : Nat) (dead : List Nat) (a F : Act) (vs : Nat → Value) : Prop where
 live : ∀ (j : Nat) (o : Oper), i ≤ j → j < n → ops[j]? = some o → j ∉ dead →
  Ybe dead o = false ∧ ((Region.wanted o (yielded ops F.tmps) = true ∧ ∀ d w, d j = false → B d w → Yeg P o F w (fun v w' => same o.dst a.tmps.size v (vs j) ∧ B (Ybq d j) w') X) ∨ (Region.wanted o (yielded ops F.tmps) = false ∧ vs j = undef ∧ ∀ d w, d j = false → B d w → B (Ybq d j) w))
 died : ∀ (j : Nat) (o : Oper), i ≤ j → j < n → ops[j]? = some o → j ∈ dead →
  Ybe dead o = true ∨ (Region.wanted o (yielded ops F.tmps) = true ∧ ∀ d w, d j = false → B d w → Yeg P o F w (fun _ _ => False) X)
 defers : F.defers = a.defers
 size : F.tmps.size = a.tmps.size
 old : ∀ t, (∀ (j : Nat) (oj : Oper), i ≤ j → j < n → ops[j]? = some oj → oj.dst = some t → j ∈ dead) → F.tmps[t]? = a.tmps[t]?
 new : ∀ (j : Nat) (oj : Oper) t, i ≤ j → j < n → ops[j]? = some oj → j ∉ dead → oj.dst = some t → t < a.tmps.size → F.tmps[t]? = some (vs j)
theorem Yhd {P : Program} {ops : Array Oper} {B : (Nat → Bool) → World → Prop} {X : List PanicEntry → World → Prop} {fin : List Nat → Act → Prop} {n : Nat} (hk : Yhi ops n) :
  ∀ (l : List Oper) (i : Nat) (dead : List Nat) (a : Act), (∀ j, j < l.length → l[j]? = ops[i + j]?) → i + l.length = n → (∀ d, d ∈ dead → d < i) → Ygi P ops B X fin dead i l a →
  ∃ (vs : Nat → Value) (dead' : List Nat) (F : Act), fin dead' F ∧ Ykj P ops B X i n dead' a F vs ∧ (∀ d, d < i → (d ∈ dead' ↔ d ∈ dead)) ∧ (∀ d, d ∈ dead' → d < n)
 |[], i, dead, a, _, hn, hd, h => by
  have hin : i = n := by simpa using hn
  refine ⟨fun _ => undef, dead, a, h, ⟨?_, ?_, rfl, rfl, fun _ _ => rfl, ?_⟩, fun _ _ => Iff.rfl, fun d hdd => by have := hd d hdd; omega⟩
  ·intro j o h1 h2; omega
  ·intro j o h1 h2; omega
  ·intro j oj t h1 h2; omega
 |o :: l, i, dead, a, hl, hn, hd, h => by
  simp only [List.length_cons] at hn
  have ho : ops[i]? = some o := by simpa using (hl 0 (by simp)).symm
  have hin : i < n := by omega
  have hl' : ∀ j, j < l.length → l[j]? = ops[i + 1 + j]? := fun j hj => by
   have := hl (j + 1) (by simpa using hj)
   simpa [Nat.add_assoc, Nat.add_comm 1 j] using this
  have haft := hk.after i o hin ho
  -- what the operation looks at stands to the end
  have hstay : ∀ (F b : Act) (dead' : List Nat) (vs : Nat → Value), Ykj P ops B X (i + 1) n dead' b F vs → (∀ t, t ∈ o.looksAt ops → b.tmps[t]? = a.tmps[t]?) → ∀ t, t ∈ o.looksAt ops → a.tmps[t]? = F.tmps[t]? := by
   intro F b dead' vs hr hb t ht
   rw [hr.old t (fun j oj h1 h2 h3 h4 => absurd (hk.looks i o j oj t hin ho h2 h3 h4 ht).1 (by omega)), hb t ht]
  have hput : ∀ (v : Value) t, t ∈ o.looksAt ops → (a.put o.dst v).tmps[t]? = a.tmps[t]? := fun v t ht =>
   Ycd _ _ _ _ (fun he => absurd (hk.looks i o i o t hin ho hin ho he ht).1 (by omega))
  rcases h with ⟨hdd, h⟩ | ⟨hdd, hw, v, hv, h⟩ | ⟨hdd, hw, hv, h⟩ | ⟨hdd, hw, hsk, h⟩
  ·obtain ⟨vs, dead', F, hf, hr, hdi, hdn⟩ := Yhd hk l (i + 1) (i :: dead) a hl' (by omega) (fun d hm => by
    rcases List.mem_cons.1 hm with rfl | hm
    ·omega
    ·have := hd d hm; omega) h
   have hmem : i ∈ dead' := (hdi i (by omega)).2 (by simp)
   have hdi' : ∀ d, d < i → (d ∈ dead' ↔ d ∈ dead) := fun d hlt => by
    rw [hdi d (by omega)]
    constructor
    ·intro hm; rcases List.mem_cons.1 hm with rfl | hm
     ·omega
     ·exact hm
    ·intro hm; exact List.mem_cons_of_mem _ hm
   refine ⟨vs, dead', F, hf, ⟨?_, ?_, hr.defers, hr.size, ?_, ?_⟩, hdi', hdn⟩
   ·intro j oj h1 h2 h3 h4
    by_cases e : j = i
    ·subst e; exact absurd hmem h4
    ·exact hr.live j oj (by omega) h2 h3 h4
   ·intro j oj h1 h2 h3 h4
    by_cases e : j = i
    ·subst e
     have : oj = o := Option.some.inj (h3.symm.trans ho)
     subst this
     left; rw [Ydm haft hdi']; exact hdd
    ·exact hr.died j oj (by omega) h2 h3 h4
   ·intro t ht; exact hr.old t (fun j oj h1 => ht j oj (by omega))
   ·intro j oj t h1 h2 h3 h4
    by_cases e : j = i
    ·subst e; exact absurd hmem h4
    ·exact hr.new j oj t (by omega) h2 h3 h4
  ·obtain ⟨vs, dead', F, hf, hr, hdi, hdn⟩ := Yhd hk l (i + 1) dead _ hl' (by omega) (fun d hm => by have := hd d hm; omega) h
   have hmem : i ∉ dead' := fun hm => by have := hd i ((hdi i (by omega)).1 hm); omega
   have hs := Yda (hk.sel i o ho) (hstay F _ dead' vs hr (hput v))
   have hne : ∀ j, i + 1 ≤ j → (if j = i then v else vs j) = vs j := fun j hj => if_neg (by omega)
   refine ⟨fun j => if j = i then v else vs j, dead', F, hf, ⟨?_, ?_, by rw [hr.defers, Yc4], by rw [hr.size, Ybi], ?_, ?_⟩, fun d hlt => hdi d (by omega), hdn⟩
   ·intro j oj h1 h2 h3 h4
    by_cases e : j = i
    ·subst e
     have : oj = o := Option.some.inj (h3.symm.trans ho)
     subst this
     refine ⟨by rw [Ydm haft (fun d hlt => hdi d (by omega))]; exact hdd, .inl ⟨by rw [← hs.2]; exact hw, fun d w hd0 hB => ?_⟩⟩
     rw [← Ycy hs.1]
     simp only [if_true]
     exact Yi3 (hv d w hd0 hB)
    ·simp only [if_neg e]
     have := hr.live j oj (by omega) h2 h3 h4
     rwa [Ybi] at this
   ·intro j oj h1 h2 h3 h4
    by_cases e : j = i
    ·subst e; exact absurd h4 hmem
    ·exact hr.died j oj (by omega) h2 h3 h4
   ·intro t ht
    rw [hr.old t (fun j oj h1 => ht j oj (by omega)), Ycd _ _ _ _ (fun he => hmem (ht i o (Nat.le_refl _) hin ho he))]
   ·intro j oj t h1 h2 h3 h4 h5 h6
    by_cases e : j = i
    ·subst e
     have : oj = o := Option.some.inj (h3.symm.trans ho)
     subst this
     simp only [if_true]
     rw [hr.old t (fun k ok g1 g2 g3 g4 => absurd (hk.dst j oj k ok t h2 h3 g2 g3 g4 h5) (by omega)), h5, Yen _ _ _ h6]
    ·simp only [if_neg e]; exact hr.new j oj t (by omega) h2 h3 h4 h5 (by rw [Ybi]; exact h6)
  ·obtain ⟨vs, dead', F, hf, hr, hdi, hdn⟩ := Yhd hk l (i + 1) (i :: dead) a hl' (by omega) (fun d hm => by
    rcases List.mem_cons.1 hm with rfl | hm
    ·omega
    ·have := hd d hm; omega) h
   have hmem : i ∈ dead' := (hdi i (by omega)).2 (by simp)
   have hdi' : ∀ d, d < i → (d ∈ dead' ↔ d ∈ dead) := fun d hlt => by
    rw [hdi d (by omega)]
    constructor
    ·intro hm; rcases List.mem_cons.1 hm with rfl | hm
     ·omega
     ·exact hm
    ·intro hm; exact List.mem_cons_of_mem _ hm
   have hs := Yda (hk.sel i o ho) (hstay F _ dead' vs hr (fun _ _ => rfl))
   refine ⟨vs, dead', F, hf, ⟨?_, ?_, hr.defers, hr.size, ?_, ?_⟩, hdi', hdn⟩
   ·intro j oj h1 h2 h3 h4
    by_cases e : j = i
    ·subst e; exact absurd hmem h4
    ·exact hr.live j oj (by omega) h2 h3 h4
   ·intro j oj h1 h2 h3 h4
    by_cases e : j = i
    ·subst e
     have : oj = o := Option.some.inj (h3.symm.trans ho)
     subst this
     right
     refine ⟨by rw [← hs.2]; exact hw, fun d w hd0 hB => ?_⟩
     rw [← Ycy hs.1]
     exact Yh7 (hv d w hd0 hB)
    ·exact hr.died j oj (by omega) h2 h3 h4
   ·intro t ht; exact hr.old t (fun j oj h1 => ht j oj (by omega))
   ·intro j oj t h1 h2 h3 h4
    by_cases e : j = i
    ·subst e; exact absurd hmem h4
    ·exact hr.new j oj t (by omega) h2 h3 h4
  ·obtain ⟨vs, dead', F, hf, hr, hdi, hdn⟩ := Yhd hk l (i + 1) dead _ hl' (by omega) (fun d hm => by have := hd d hm; omega) h
   have hmem : i ∉ dead' := fun hm => by have := hd i ((hdi i (by omega)).1 hm); omega
   have hs := Yda (hk.sel i o ho) (hstay F _ dead' vs hr (hput undef))
   refine ⟨fun j => if j = i then undef else vs j, dead', F, hf, ⟨?_, ?_, by rw [hr.defers, Yc4], by rw [hr.size, Ybi], ?_, ?_⟩, fun d hlt => hdi d (by omega), hdn⟩
   ·intro j oj h1 h2 h3 h4
    by_cases e : j = i
    ·subst e
     have : oj = o := Option.some.inj (h3.symm.trans ho)
     subst this
     refine ⟨by rw [Ydm haft (fun d hlt => hdi d (by omega))]; exact hdd, .inr ⟨by rw [← hs.2]; exact hw, by simp, hsk⟩⟩
    ·simp only [if_neg e]
     have := hr.live j oj (by omega) h2 h3 h4
     rwa [Ybi] at this
   ·intro j oj h1 h2 h3 h4
    by_cases e : j = i
    ·subst e; exact absurd h4 hmem
    ·exact hr.died j oj (by omega) h2 h3 h4
   ·intro t ht
    rw [hr.old t (fun j oj h1 => ht j oj (by omega)), Ycd _ _ _ _ (fun he => hmem (ht i o (Nat.le_refl _) hin ho he))]
   ·intro j oj t h1 h2 h3 h4 h5 h6
    by_cases e : j = i
    ·subst e
     have : oj = o := Option.some.inj (h3.symm.trans ho)
     subst this
     simp only [if_true]
     rw [hr.old t (fun k ok g1 g2 g3 g4 => absurd (hk.dst j oj k ok t h2 h3 g2 g3 g4 h5) (by omega)), h5, Yen _ _ _ h6]
    ·simp only [if_neg e]; exact hr.new j oj t (by omega) h2 h3 h4 h5 (by rw [Ybi]; exact h6)
structure Ym3 (ops : Array Oper) (B : (Nat → Bool) → World → Prop) (n : Nat) (dead : List Nat) (a0 F : Act) (listed : Array Bool) (a : Act) (w : World) : Prop where
 head : HeadInv .any ops n listed
 world : B (Yee listed) w
 defers : a.defers = a0.defers
 size : a.tmps.size = a0.tmps.size
 live : ∀ (j : Nat), j < n → listed.getD j false = true → j ∉ dead
 old : ∀ t, (∀ (j : Nat) (oj : Oper), j < n → ops[j]? = some oj → oj.dst = some t → listed.getD j false = false) → a.tmps[t]? = a0.tmps[t]?
 new : ∀ (j : Nat) (oj : Oper) t, j < n → ops[j]? = some oj → listed.getD j false = true → oj.dst = some t → a.tmps[t]? = F.tmps[t]?
theorem Ykf {P : Program} {ops : Array Oper} {B : (Nat → Bool) → World → Prop} {X : List PanicEntry → World → Prop} {Q : Exit → Act → World → Prop} {n : Nat} {dead : List Nat} {a0 F : Act} {vs : Nat → Value}
  (hk : Yhi ops n) (hr : Ykj P ops B X 0 n dead a0 F vs) (hdn : ∀ d, d ∈ dead → d < n)
  (hwait : ∀ listed, HeadInv .any ops n listed → ∀ i, i < n → listed.getD i true = false → ∀ t, n ≤ t → t ∉ Region.ready .any ops listed)
  (hX : ∀ c a' w', X c w' → a'.defers = a0.defers → a'.tmps.size = a0.tmps.size → (∀ t, (∀ (j : Nat) (oj : Oper), j < n → ops[j]? = some oj → oj.dst ≠ some t) → a'.tmps[t]? = a0.tmps[t]?) → Q (.panic c) a' w')
  (hfin : ∀ listed w, HeadInv .any ops n listed → (∀ i, i < n → listed.getD i true = true) → dead = [] → B (Yee listed) w → wpAny P .any ops Q (ops.size - n) listed F w) :
  ∀ (m : Nat) (listed : Array Bool) (a : Act) (w : World), Yd0 n listed = m → Ym3 ops B n dead a0 F listed a w → wpAny P .any ops Q (m + (ops.size - n)) listed a w
 |0, listed, a, w, hm, inv => by
  have hall := Yil hm
  have hall' : ∀ i, i < n → listed.getD i false = true := fun i hi => by
   have h1 := hall i hi
   have h2 : i < listed.size := by rw [inv.head.size]; have := hk.le; omega
   simp [h2] at h1 ⊢; exact h1
  have hdead : dead = [] := by
   cases hde : dead with
   |nil => rfl
   |cons d r =>
    have hd : d ∈ dead := by rw [hde]; simp
    exact absurd hd (inv.live d (hdn d hd) (hall' d (hdn d hd)))
  have hF : a = F := by
   have h1 : a.tmps = F.tmps := by
    apply Array.ext_getElem?
    intro t
    by_cases h : ∃ (j : Nat) (oj : Oper), j < n ∧ ops[j]? = some oj ∧ oj.dst = some t
    ·obtain ⟨j, oj, h1, h2, h3⟩ := h
     exact inv.new j oj t h1 h2 (hall' j h1) h3
    ·rw [inv.old t (fun j oj h1 h2 h3 => absurd ⟨j, oj, h1, h2, h3⟩ h), hr.old t (fun j oj _ h1 h2 h3 => absurd ⟨j, oj, h1, h2, h3⟩ h)]
   have h2 : a.defers = F.defers := by rw [inv.defers, hr.defers]
   cases a; cases F; simp_all
  rw [Nat.zero_add, hF]
  exact hfin listed w inv.head hall hdead inv.world
 |m + 1, listed, a, w, hm, inv => by
  rw [show m + 1 + (ops.size - n) = (m + (ops.size - n)) + 1 by omega]
  obtain ⟨i0, hi0, hun0⟩ : ∃ i, i < n ∧ listed.getD i true = false := by
   have : (List.range n).countP (fun i => !listed.getD i true) ≠ 0 := by
    show Yd0 n listed ≠ 0
    omega
   rw [Ne, List.countP_eq_zero] at this
   simp only [Classical.not_forall] at this
   obtain ⟨i, hi, h⟩ := this
   exact ⟨i, List.mem_range.1 hi, by simpa using h⟩
  have hrd := Yix hk inv.head.size i0 hi0 hun0
  refine ⟨fun h0 => ?_, fun i hi => ?_⟩
  ·obtain ⟨j, _, hj⟩ := hrd
   rw [h0] at hj; cases hj
  ·have hin : i < n := by
    rcases Nat.lt_or_ge i n with h | h
    ·exact h
    ·exact absurd hi (hwait listed inv.head i0 hi0 hun0 i h)
   obtain ⟨hun, o, ho, hall⟩ := mem_ready.1 hi
   have hunf : listed.getD i false = false := getD_both hun
   have hm' := Yi1 hin hun
   -- what the operation looks at is as in the frame at the head's end
   have hlook : ∀ t, t ∈ o.looksAt ops → a.tmps[t]? = F.tmps[t]? := by
    intro t ht
    by_cases h : ∃ (j : Nat) (oj : Oper), j < n ∧ ops[j]? = some oj ∧ oj.dst = some t
    ·obtain ⟨j, oj, h1, h2, h3⟩ := h
     obtain ⟨_, e, he, hb, hon⟩ := hk.looks i o j oj t hin ho h1 h2 h3 ht
     exact inv.new j oj t h1 h2 (by rw [← hon]; exact hall e he hb) h3
    ·rw [inv.old t (fun j oj h1 h2 h3 => absurd ⟨j, oj, h1, h2, h3⟩ h), hr.old t (fun j oj _ h1 h2 h3 => absurd ⟨j, oj, h1, h2, h3⟩ h)]
   have hs := Yda (hk.sel i o ho) hlook
   have hnd : Ybe dead o = false := by
    rw [Bool.eq_false_iff]
    intro hd
    simp only [Ybe, List.any_eq_true, Bool.and_eq_true, List.contains_iff_mem, Array.mem_toList_iff] at hd
    obtain ⟨e, he, hb, hm⟩ := hd
    exact inv.live e.on (hdn _ hm) (hall e he hb) hm
   -- the next frame
   have hd0 : Yee listed i = false := hunf
   have hnext : ∀ (v : Value) (w' : World), B (Ybq (Yee listed) i) w' → i ∉ dead → same o.dst a0.tmps.size v (vs i) → Ym3 ops B n dead a0 F (listed.setIfInBounds i true) (a.put o.dst v) w' := by
    intro v w' hB hnot hv
    have hlt : i < listed.size := by rw [inv.head.size]; have := hk.le; omega
    refine ⟨inv.head.set hi hin, by rw [Yjn hlt]; exact hB, by rw [Yc4, inv.defers], by rw [Ybi, inv.size], ?_, ?_, ?_⟩
    ·intro j hj hl
     by_cases e : i = j
     ·subst e; exact hnot
     ·rw [getD_set_ne false e] at hl; exact inv.live j hj hl
    ·intro t ht
     have hne : o.dst ≠ some t := fun he => by
      have := ht i o hin ho he
      simp [hlt] at this
     rw [Ycd _ _ _ _ hne]
     refine inv.old t fun j oj h1 h2 h3 => ?_
     have := ht j oj h1 h2 h3
     by_cases e : i = j
     ·subst e; exact hunf
     ·rwa [getD_set_ne false e] at this
    ·intro j oj t h1 h2 h3 h4
     by_cases e : i = j
     ·subst e
      have : oj = o := Option.some.inj (h2.symm.trans ho)
      subst this
      rcases Nat.lt_or_ge t a.tmps.size with ht | ht
      ·rw [h4, Yen _ _ _ ht, hr.new i oj t (Nat.zero_le _) hin ho hnot h4 (by rw [← inv.size]; exact ht), hv t h4 (by rw [← inv.size]; exact ht)]
      ·rw [Array.getElem?_eq_none (by rw [Ybi]; exact ht), Array.getElem?_eq_none (by rw [hr.size, ← inv.size]; exact ht)]
     ·rw [getD_set_ne false e] at h3
      have hne : o.dst ≠ some t := fun he => e (hk.dst i o j oj t hin ho h1 h2 h4 he)
      rw [Ycd _ _ _ _ hne]
      exact inv.new j oj t h1 h2 h3 h4
   have hpan : ∀ c w', X c w' → Q (.panic c) a w' := fun c w' hx =>
    hX c a w' hx inv.defers inv.size fun t ht => inv.old t fun j oj h1 h2 h3 => absurd h3 (ht j oj h1 h2)
   unfold wpOp
   simp only [ho]
   by_cases hde : i ∈ dead
   ·rcases hr.died i o (Nat.zero_le _) hin ho hde with h | ⟨hw, h⟩
    ·rw [h] at hnd; cases hnd
    ·rw [if_pos (by rw [hs.2]; exact hw)]
     refine .inl (Yew ?_)
     rw [Ycy hs.1]
     exact Yfl (h _ w hd0 inv.world) (fun _ _ hf => hf.elim) hpan
   ·obtain ⟨_, ⟨hw, h⟩ | ⟨hw, h, hsk⟩⟩ := hr.live i o (Nat.zero_le _) hin ho hde
    ·rw [if_pos (by rw [hs.2]; exact hw)]
     refine .inl (Yew ?_)
     rw [Ycy hs.1]
     refine Yfl (h _ w hd0 inv.world) (fun v w' hv => ?_) hpan
     exact Ykf hk hr hdn hwait hX hfin m _ _ _ (by omega) (hnext v w' hv.2 hde hv.1)
    ·rw [if_neg (by rw [hs.2, hw]; simp)]
     exact Ykf hk hr hdn hwait hX hfin m _ _ _ (by omega) (hnext undef w (hsk _ w hd0 inv.world) hde (fun _ _ _ => h.symm))
theorem Yaq {P : Program} {id : Nat} {Q : Exit → Act → World → Prop} {a : Act} {w : World} {l : List Oper} (n : Nat) (B : (Nat → Bool) → World → Prop) (X : List PanicEntry → World → Prop) (hm : P.follows .mixedOrders = true) (hok : Yim l.toArray n = true)
  (hB : B (fun _ => false) w.drew)
  (hX : ∀ c a' w', X c w' → a'.defers = a.defers → a'.tmps.size = a.tmps.size → (∀ t, noDst l n t = true → a'.tmps[t]? = a.tmps[t]?) → Q (.panic c) a' w')
  (h : Ygi P l.toArray B X (fun dead F => dead = [] → ∀ w1 d, (∀ j, j < n → d j = true) → B d w1 → wpList P l.toArray Q (l.drop n) F w1) [] 0 (l.take n) a) : (Code.region id l.toArray true).wp P Q a w := by
 simp only [Yim, Bool.and_eq_true, Bool.or_eq_true, decide_eq_true_eq] at hok
 obtain ⟨⟨hh, ht⟩, hq⟩ := hok
 have hk := Yik hh
 have hle : n ≤ l.length := by simpa using hk.le
 have htl : (l.take n).length = n := by simp; omega
 obtain ⟨vs, dead, F, hf, hr, _, hdn⟩ := Yhd hk (l.take n) 0 [] a (fun j hj => by
  have hj' : j < n := by rw [htl] at hj; exact hj
  simp [hj']) (by simpa using htl) (by simp) h
 have hun : Yd0 n (Array.replicate l.toArray.size false) = n := by
  have : ∀ i, i ∈ List.range n → (!(Array.replicate l.toArray.size false).getD i true) = true := fun i hi => by
   have hi' : i < l.toArray.size := by have := List.mem_range.1 hi; simp; omega
   have hi'' : i < l.length := by simpa using hi'
   simp [hi'']
  unfold Yd0
  rw [List.countP_eq_length.2 this, List.length_range]
 have inv0 : HeadInv .any l.toArray n (Array.replicate l.toArray.size false) :=
  ⟨by simp, fun j oj _ hl => (by rw [getD_replicate_false] at hl; cases hl), fun t _ ht => getD_in (by simpa using ht) (getD_replicate_false _ _)⟩
 have hgo := Ykf (Q := Q) hk hr hdn ?_ (fun c a' w' hx h1 h2 h3 => hX c a' w' hx h1 h2 fun t ht' => h3 t fun j oj g1 g2 => Yiv ht' j oj g1 (by simpa using g2)) ?_ n _ a w.drew hun
  ⟨inv0, by rw [Yky]; exact hB, rfl, rfl, fun j _ hl => (by rw [getD_replicate_false] at hl; cases hl), fun _ _ => rfl, fun j oj t _ _ hl => (by rw [getD_replicate_false] at hl; cases hl)⟩
 ·refine wp_region_any hm ?_
  rw [show n + (l.toArray.size - n) = l.toArray.size by simp; omega] at hgo
  exact hgo
 ·intro listed inv i hi hun t hnt
  rcases ht with ht | ⟨⟨h1, h2⟩, h3⟩
  ·intro hrd
   obtain ⟨_, o, ho, _⟩ := mem_ready.1 hrd
   have := (Array.getElem?_eq_some_iff.1 ho).1
   omega
  ·exact tail_waits h2 h3 h1 inv _ i rfl hi hun t hnt
 ·intro listed w1 inv hall hd hBw
  have hlst : listed = Array.replicate n true ++ Array.replicate (l.toArray.size - n) false := by
   apply Array.ext
   ·rw [inv.size]; simp; omega
   ·intro i h1 h2
    by_cases hi : i < n
    ·have := hall i hi
     simp [h1] at this
     rw [this, Array.getElem_append_left (by simpa using hi)]
     simp
    ·have := inv.tail i (by omega) (by rw [← inv.size]; exact h1)
     simp [h1] at this
     rw [this, Array.getElem_append_right (by simpa using hi)]
     simp
  have hdl : (l.drop n).length = l.toArray.size - n := by simp
  have := wpAny_of_seq (md := .any) (P := P) (ops := l.toArray) (Q' := Q) (l.drop n) n listed F w1 (fun j => by simp [List.getElem?_drop]) (by rw [hdl, hlst]; exact hq) (hf hd w1 (Yee listed) (fun j hj => by
   have h1 := hall j hj
   have h2 : j < listed.size := by rw [inv.size]; have := hk.le; omega
   simp only [Yee]
   simp [h2] at h1 ⊢; exact h1) hBw)
  rwa [hdl] at this
end
structure CanB (w w1 : World) : Prop where
 f : w1.heap[w.heap.size]? = some (.cells #[.int .i64 0, .int .u32 0, .int .u32 0, .int .i64 0] 32 (0, 0))
 k : w1.heap[w.heap.size + 1]? = some (.cells #[.bool false] 4 (0, 0))
 u : Upd [] w w1
theorem CanB.start (w : World) : CanB w ((w.alloc (.cells #[.int .i64 0, .int .u32 0, .int .u32 0, .int .i64 0] 32)).alloc (.cells #[.bool false] 4)) :=
 ⟨heap_alloc2_old _ _ _, heap_alloc2_new _ _ _, ((Upd.refl _ _).alloc _).alloc _⟩
theorem Yj2 (pc : Int) (fb kb : Nat) (y0 y1 y2 y3 k0 : Value) (x0 x1 x2 x3 : Int) (older : List PanicEntry) (w : World)
  (hf : w.heap[fb]? = some (.cells #[y0, y1, y2, y3] 32 (0, 0))) (hk : w.heap[kb]? = some (.cells #[k0] 4 (0, 0))) (hne : fb ≠ kb) :
  CallsD Tryz.prog 34 #[.int .u32 pc, .pointer (some ⟨fb, 0, none⟩), .pointer (some ⟨kb, 0, none⟩)] (.panicking ({ v := .iface 32 (.agg #[.int .i64 x0, .int .u32 x1, .int .u32 x2, .int .i64 x3]), recovered := false } :: older)) w fun e u' w' =>
   e = .returned (.tuple #[]) ∧ u' = .panicking ({ v := .iface 32 (.agg #[.int .i64 x0, .int .u32 x1, .int .u32 x2, .int .i64 x3]), recovered := true } :: older) ∧
    w'.heap[fb]? = some (.cells #[.int .i64 x0, .int .u32 pc, .int .u32 x2, .int .i64 x3] 32 (0, 0)) ∧ w'.heap[kb]? = some (.cells #[.bool false] 4 (0, 0)) ∧ Upd [fb, kb] w w' := by
 refine callsD_of_wpS Tryz.func34 rfl fun c₀ cs hu => ?_
 simp only [Tryz.ntmps34, List.size_toArray, List.length_cons, List.length_nil, Nat.reduceAdd, Nat.reduceSub, Array.replicate_succ, Array.replicate_zero, List.push_toArray, List.append_toArray, List.nil_append, List.cons_append]
 apply wpS_seq
 apply wpS_region
 simp [wpOpsS, go_sem, recoverD, hu, Tryz.ntmps34, Exit.thenS]
 refine wpS_of_wp ?_
 clear hu
 have hfl := Yv hf
 have hkl := Yv hk
 have hcf : ∀ o, w.cell? ⟨fb, o, none⟩ = #[y0, y1, y2, y3][o]? := Ya hf
 have hck : ∀ o, w.cell? ⟨kb, o, none⟩ = #[k0][o]? := Ya hk
 have hff : ∀ o, w.frozen? ⟨fb, o, none⟩ = false := Yh hf
 have hfk : ∀ o, w.frozen? ⟨kb, o, none⟩ = false := Yh hk
 have HF := Yh_ hf
 have HK := Yh_ hk
 clear hf hk
 have hta := Yjf
 go_wp2_with fail
 refine ⟨rfl, _, rfl, _, results_none rfl _ _ _, rfl, rfl, ?_, ?_, ?_⟩
 ·refine Yc _ (Yq _ hne ?_)
  have h := Ys (Ys (Ys (Ys HF.out 0 (.int .i64 x0)) 1 (.int .u32 pc)) 2 (.int .u32 x2)) 3 (.int .i64 x3)
  exact h
 ·refine Yc _ ?_
  have h := Yq (a := ⟨fb, 3, none⟩) (.int .i64 x3) hne.symm (Yq (a := ⟨fb, 2, none⟩) (.int .u32 x2) hne.symm (Yq (a := ⟨fb, 1, none⟩) (.int .u32 pc) hne.symm (Yq (a := ⟨fb, 0, none⟩) (.int .i64 x0) hne.symm HK.out)))
  exact Ys h 0 (.bool false)
 ·exact ((((((Upd.refl _ _).setCell (by simp) _).setCell (by simp) _).setCell (by simp) _).setCell (by simp) _).setCell (by simp) _).alloc _
theorem Ynb (pc : Int) (fb kb : Nat) (w : World) :
  CallsD Tryz.prog 34 #[.int .u32 pc, .pointer (some ⟨fb, 0, none⟩), .pointer (some ⟨kb, 0, none⟩)] .returning w fun e u' w' => e = .returned (.tuple #[]) ∧ u' = .returning ∧ w = w' := by
 refine callsD_of_wpS Tryz.func34 rfl fun c₀ cs hu => ?_
 simp only [Tryz.ntmps34, List.size_toArray, List.length_cons, List.length_nil, Nat.reduceAdd, Nat.reduceSub, Array.replicate_succ, Array.replicate_zero, List.push_toArray, List.append_toArray, List.nil_append, List.cons_append]
 apply wpS_seq
 apply wpS_region
 simp [wpOpsS, go_sem, recoverD, hu, Tryz.ntmps34, Exit.thenS]
 refine wpS_of_wp ?_
 have HU := Yh_ hu
 clear hu
 go_wp2_with fail
 refine ⟨rfl, .returning, ?_, _, results_none rfl _ _ _, rfl, rfl, rfl⟩
 rw [← HU.out]
def Yll (pc : Int) (fb kb : Nat) : List Deferred :=
 [{ target := .fn (.func 34) #[], args := #[.int .u32 pc, .pointer (some ⟨fb, 0, none⟩), .pointer (some ⟨kb, 0, none⟩)] }]
theorem Ypz {fn : Func} {tmps : Array Value} {R : Ending → World → Prop} {w1 : World} {pc : Int} {fb kb : Nat} {y0 y1 y2 y3 k0 : Value} (F : Flt) (V : Value)
  (hres : ∀ w2, w2.heap[fb]? = some (.cells #[.int .i64 F.k, .int .u32 pc, .int .u32 F.a, .int .i64 F.wt] 32 (0, 0)) → w2.heap[kb]? = some (.cells #[.bool false] 4 (0, 0)) → Upd [fb, kb] w1 w2 → (results fn tmps).run Tryz.prog w2 = .ok V w2)
  (hf : w1.heap[fb]? = some (.cells #[y0, y1, y2, y3] 32 (0, 0))) (hk : w1.heap[kb]? = some (.cells #[k0] 4 (0, 0))) (hne : fb ≠ kb)
  (hR : ∀ w2, Upd [fb, kb] w1 w2 → R (.returned V) w2) :
  Leaves Tryz.prog fn tmps R (Yll pc fb kb) (.panicking [{ v := .iface 32 F.val, recovered := false }]) w1 := by
 refine leaves_cons (f := 34) (args := #[.int .u32 pc, .pointer (some ⟨fb, 0, none⟩), .pointer (some ⟨kb, 0, none⟩)]) (by simp) (by simp [go_sem]) ?_
 refine (Yj2 pc fb kb _ _ _ _ _ _ _ _ _ [] w1 hf hk hne).mono ?_
 rintro e u' w2 ⟨rfl, rfl, hf, hk, hU⟩
 simp only [settle, List.dropWhile_nil]
 exact ⟨_, hres w2 hf hk hU, hR _ hU⟩
theorem Yuz {fn : Func} {tmps : Array Value} {R : Ending → World → Prop} {w1 : World} {pc : Int} {fb kb : Nat} (V : Value) (hres : (results fn tmps).run Tryz.prog w1 = .ok V w1) (hR : R (.returned V) w1) :
  Leaves Tryz.prog fn tmps R (Yll pc fb kb) .returning w1 := by
 refine leaves_cons (f := 34) (args := #[.int .u32 pc, .pointer (some ⟨fb, 0, none⟩), .pointer (some ⟨kb, 0, none⟩)]) (by simp) (by simp [go_sem]) ?_
 refine (Ynb _ _ _ w1).mono ?_
 rintro e u' w2 ⟨rfl, rfl, rfl⟩
 simp only [settle]
 exact ⟨_, hres, hR⟩
theorem Yqq (x : Int) (w : World) (h0 : 0 ≤ x) (h1 : x < 4294967296) :
  Calls Tryz.prog 97 #[.int .u32 x, .int .i64 8] w fun e w' => e = .returned (.int .i32 (if x % 256 < 128 then x % 256 else x % 256 - 256)) ∧ w = w' := by
 obtain ⟨r, hr⟩ : ∃ r : Int, (if x % 256 < 128 then x % 256 else x % 256 - 256) = r := ⟨_, rfl⟩
 have e1 : wrap32 (x * 16777216 % 4294967296) / 16777216 = r := by
  rw [← hr]
  unfold wrap32
  split <;> omega
 rw [hr]
 clear hr h0 h1
 go_enter Tryz.func97, Tryz.ntmps97
 go_wp2
 go_ret
 exact ⟨rfl, rfl⟩
def Yla (x : Int) : Int := if x % 256 < 128 then x % 256 else x % 256 + 4294967040
theorem Yif (x : Int) (w : World) (h0 : 0 ≤ x) (h1 : x < 4294967296) :
  Calls Tryz.prog 89 #[.int .u32 x] w fun e w' => e = .returned (.int .u32 (Yla x)) ∧ w = w' := by
 obtain ⟨r, hr⟩ : ∃ r : Int, (if x % 256 < 128 then x % 256 else x % 256 - 256) = r := ⟨_, rfl⟩
 have e1 : r % 4294967296 = Yla x := by
  rw [← hr]
  unfold Yla
  split <;> omega
 have HX := Yh_ (And.intro h0 h1)
 have HR := Yh_ hr
 clear h0 h1 hr
 go_enter Tryz.func89, Tryz.ntmps89
 go_wp2_with (go_at_call 97; refine (Yqq x _ HX.out.1 HX.out.2).mono ?_; rintro e w' ⟨rfl, rfl⟩; rw [HR.out])
 go_ret
 exact ⟨Yk4 (congrArg (Value.int .u32) (by first | rfl | exact e1)), rfl⟩
theorem Yk2 {w : World} {p : Addr} {v : Value} (o : Obj) (h : w.cell? p = some v) (hp : p.block < w.heap.size) : (w.alloc o).cell? p = some v := by
 rw [World.cell?, heap_alloc_old _ _ hp]
 exact h
theorem Ytw (a b c d : Int) (ha : 0 ≤ a ∧ a ≤ 255) (hb : 0 ≤ b ∧ b ≤ 255) (hc : 0 ≤ c ∧ c ≤ 255) (hd : 0 ≤ d ∧ d ≤ 255) :
  bits .or .u32 (bits .or .u32 (bits .or .u32 a (b * 256)) (c * 65536)) (d * 16777216) = a + b * 256 + c * 65536 + d * 16777216 := by
 obtain ⟨a, rfl⟩ := Int.eq_ofNat_of_zero_le ha.1
 obtain ⟨b, rfl⟩ := Int.eq_ofNat_of_zero_le hb.1
 obtain ⟨c, rfl⟩ := Int.eq_ofNat_of_zero_le hc.1
 obtain ⟨d, rfl⟩ := Int.eq_ofNat_of_zero_le hd.1
 have q1 := u32_or_nat a (b * 256) (by omega) (by omega)
 have q2 := u32_or_nat (b * 256 + a) (c * 65536) (by omega) (by omega)
 have q3 := u32_or_nat (c * 65536 + (b * 256 + a)) (d * 16777216) (by omega) (by omega)
 rw [Nat.or_comm, nat_join 8 _ _ (by omega) (by omega)] at q1
 rw [Nat.or_comm, nat_join 16 _ _ (by omega) (by omega)] at q2
 rw [Nat.or_comm, nat_join 24 _ _ (by omega) (by omega)] at q3
 have e1 : (b : Int) * 256 = ((b * 256 : Nat) : Int) := by omega
 have e2 : (c : Int) * 65536 = ((c * 65536 : Nat) : Int) := by omega
 have e3 : (d : Int) * 16777216 = ((d * 16777216 : Nat) : Int) := by omega
 rw [e1, q1, e2, q2, e3, q3]
 omega
theorem Word_any (g o c : Nat) (f : Nat → Int) (w : World) (hf : ∀ i, i < 4 → w.cell? ⟨g, o + i, none⟩ = some (.int .u8 (f i))) (hr : ∀ i, 0 ≤ f i ∧ f i ≤ 255) (hg : g < w.heap.size) :
  Calls Tryz.prog 90 #[.slice (some ⟨g, o, none⟩) 4 c] w fun e w' => e = .returned (.int .u32 (f 0 + f 1 * 256 + f 2 * 65536 + f 3 * 16777216)) ∧ Upd [] w w' := by
 have hn := heap_alloc_new w (.cells #[Value.int .u8 0, .int .u8 0, .int .u8 0, .int .u8 0] 140)
 have hcp := run_copy_cells (P := Tryz.prog) (w.alloc (.cells #[Value.int .u8 0, .int .u8 0, .int .u8 0, .int .u8 0] 140)) 45 45 3 5 w.heap.size 0 4 4 ⟨g, o, none⟩ 4 c [.int .u8 (f 0), .int .u8 (f 1), .int .u8 (f 2), .int .u8 (f 3)]
  Tryz.underlying45 (by kernel_rfl) (by rfl) (by
   intro j v hv
   rw [Addr.add_mid]
   refine Yk2 _ ?_ hg
   rcases j with _ | _ | _ | _ | j
   ·rw [List.getElem?_cons_zero, Option.some.injEq] at hv; subst hv; exact hf 0 (by decide)
   ·rw [List.getElem?_cons_succ, List.getElem?_cons_zero, Option.some.injEq] at hv; subst hv; exact hf 1 (by decide)
   ·rw [List.getElem?_cons_succ, List.getElem?_cons_succ, List.getElem?_cons_zero, Option.some.injEq] at hv; subst hv; exact hf 2 (by decide)
   ·rw [List.getElem?_cons_succ, List.getElem?_cons_succ, List.getElem?_cons_succ, List.getElem?_cons_zero, Option.some.injEq] at hv; subst hv; exact hf 3 (by decide)
   ·simp at hv) (by intro j hj; rw [Ya hn]; simp at hj ⊢; omega) (by intro j hj; rw [Yh hn]) (by simp [Value.oneCell'])
 obtain ⟨w2, hw2⟩ : ∃ w2, (w.alloc (.cells #[Value.int .u8 0, .int .u8 0, .int .u8 0, .int .u8 0] 140)).setCells w.heap.size 0 [.int .u8 (f 0), .int .u8 (f 1), .int .u8 (f 2), .int .u8 (f 3)] = w2 := ⟨_, rfl⟩
 rw [hw2] at hcp
 have h2 : w2.heap[w.heap.size]? = some (.cells #[.int .u8 (f 0), .int .u8 (f 1), .int .u8 (f 2), .int .u8 (f 3)] 140 (0, 0)) := by
  rw [← hw2, Ybw _ _ _ _ hn]
  rfl
 have HU := Yh_ (show Upd [] w w2 by rw [← hw2]; exact ((Upd.refl [] w).alloc _).setCells (.inr (Nat.le_refl _)) _ _)
 have hc2 := Ya h2
 have hj := Ytw (f 0) (f 1) (f 2) (f 3) (hr 0) (hr 1) (hr 2) (hr 3)
 have r0 := hr 0
 have r1 := hr 1
 have r2 := hr 2
 have r3 := hr 3
 have s0 : f 0 % 4294967296 = f 0 := by omega
 have s1 : f 1 * 256 % 4294967296 = f 1 * 256 := by omega
 have s2 : f 2 * 65536 % 4294967296 = f 2 * 65536 := by omega
 have s3 : f 3 * 16777216 % 4294967296 = f 3 * 16777216 := by omega
 clear hf hr hn hg r0 r1 r2 r3 hw2 h2
 go_enter Tryz.func90, Tryz.ntmps90
 go_wp2_with fail
 go_ret
 exact ⟨Yk4 (congrArg (Value.int .u32) (by first | rfl | exact hj)), HU.out⟩
inductive DR (α : Type) where
 |ok (v : α) (k : Nat)
 |err (c : Int)
def DR.bind {α β : Type} (r : DR α) (f : α → Nat → DR β) : DR β :=
 match r with
 |.ok v k => f v k
 |.err c => .err c
theorem DR.bind_ok {α β : Type} (v : α) (k : Nat) (f : α → Nat → DR β) : (DR.ok v k).bind f = f v k := rfl
theorem DR.bind_err {α β : Type} (c : Int) (f : α → Nat → DR β) : (DR.err c : DR α).bind f = .err c := rfl
def Yz (L : List Int) (k : Nat) : DR Int := if k < L.length then .ok (L.getD k 0) (k + 1) else .err 10
def Yb0 (L : List Int) (k : Nat) : Int := L.getD k 0 + L.getD (k + 1) 0 * 256 + L.getD (k + 2) 0 * 65536 + L.getD (k + 3) 0 * 16777216
def Ycl (L : List Int) (k : Nat) : DR Int := if k + 4 ≤ L.length then .ok (Yb0 L k) (k + 4) else .err 10
def sx8 (b : Int) : Int := if b < 128 then b else b + 4294967040
def Yce (L : List Int) (k : Nat) : DR Opd := (Yz L k).bind fun b k => .ok (Yac (sx8 b)) k
def Ybu (L : List Int) (k : Nat) : DR Opd := (Yz L k).bind fun b k => .ok (Yac b) k
def Yas (L : List Int) (k : Nat) : DR Opd := (Ycl L k).bind fun v k => .ok (Yac v) k
structure Mrm where
 mod : Int
 reg : Int
 rm : Int
def Mrm.cells (m : Mrm) : Array Value := #[.int .i64 m.mod, .int .i64 m.reg, .int .i64 m.rm]
def Ycm (b : Int) : Mrm := ⟨b / 64, b / 8 % 8, b % 8⟩
def Yai (L : List Int) (k : Nat) : DR Mrm := (Yz L k).bind fun b k => .ok (Ycm b) k
def Yak (L : List Int) (mod base x sc : Int) (k : Nat) : DR Opd :=
 if mod = 1 then (Yz L k).bind fun b k => .ok ⟨3, 0, sx8 b, base, x, sc⟩ k
 else if mod = 2 then (Ycl L k).bind fun v k => .ok ⟨3, 0, v, base, x, sc⟩ k
 else if base = 5 then (Ycl L k).bind fun v k => .ok ⟨3, 0, v, -1, x, sc⟩ k
 else .ok ⟨3, 0, 0, base, x, sc⟩ k
def Ya6 (L : List Int) (m : Mrm) (k : Nat) : DR Opd :=
 if m.mod = 3 then .ok (Yn m.rm) k
 else if m.rm = 4 then (Yz L k).bind fun s k => Yak L m.mod (s % 8) (if s / 8 % 8 = 4 then -1 else s / 8 % 8) (if s / 8 % 8 = 4 then 1 else 2 ^ (s / 64).toNat) k
 else Yak L m.mod m.rm (-1) 1 k
def Yag (n : Int) : Int := n + 3
def Yaa (n : Int) : Int := if n = 0 then 21 else if n = 1 then 22 else if n = 4 then 23 else if n = 5 then 24 else if n = 7 then 25 else 0
def Ybd (n : Int) : Int := if n = 2 then 14 else if n = 3 then 15 else if n = 4 then 16 else if n = 5 then 17 else if n = 6 then 19 else if n = 7 then 20 else 0
def Yar (n : Int) : Int := if n = 0 then 47 else if n = 1 then 48 else if n = 2 then 53 else if n = 4 then 49 else if n = 6 then 50 else 0
def Yf7 (n : Int) : Int := if n = 0 then 45 else if n = 3 then 46 else 0
def Ycn (n : Int) : Int := if n = 0 then 12 else if n = 1 then 13 else if n = 2 then 30 else if n = 4 then 32 else if n = 6 then 28 else 0
def Yaz (L : List Int) (op : Int) (toReg : Bool) (k : Nat) : DR Ins :=
 (Yai L k).bind fun m k => (Ya6 L m k).bind fun o k => .ok (if toReg = true then ⟨op, 0, Yn m.reg, o, false, 0⟩ else ⟨op, 0, o, Yn m.reg, false, 0⟩) k
def Ybb (L : List Int) (op : Int) (m : Mrm) (k : Nat) : DR Ins := (Ya6 L m k).bind fun o k => .ok ⟨op, 0, o, Opd.none, false, 0⟩ k
def Yf4 (L : List Int) (c : Int) (k : Nat) : DR Ins :=
 if c % 8 = 1 then Yaz L (Yag (c / 8)) false k
 else if c % 8 = 3 then Yaz L (Yag (c / 8)) true k
 else if c % 8 = 5 then (Yas L k).bind fun o k => .ok ⟨Yag (c / 8), 0, Yn 0, o, false, 0⟩ k
 else .err 12
def Yhq (L : List Int) (k : Nat) : DR Ins :=
 (Yai L k).bind fun m k => if m.mod = 3 then .err 90 else (Ya6 L m k).bind fun o k => .ok ⟨26, 0, Yn m.reg, o, false, 0⟩ k
def Yea (L : List Int) (c : Int) (k : Nat) : DR Ins :=
 (Yai L k).bind fun m k => if m.reg ≠ 0 then .err 90 else (Ya6 L m k).bind fun o k =>
  if c = 199 then (Yas L k).bind fun i k => .ok ⟨1, 0, o, i, false, 0⟩ k
  else (Ybu L k).bind fun i k => .ok ⟨2, 0, o, i, false, 0⟩ k
def Yc2 (L : List Int) (c : Int) (k : Nat) : DR Ins :=
 (Yai L k).bind fun m k => if Yaa m.reg = 0 then .err 12 else (Ya6 L m k).bind fun o k =>
  if c = 193 then (Ybu L k).bind fun i k => .ok ⟨Yaa m.reg, 0, o, i, false, 0⟩ k
  else if c = 209 then .ok ⟨Yaa m.reg, 0, o, Yac 1, false, 0⟩ k
  else .ok ⟨Yaa m.reg, 0, o, Yn 1, false, 0⟩ k
def Yd3 (c : Int) (m : Mrm) : Int := if c = 221 then Yf7 m.reg else Yar m.reg
def Yc7 (L : List Int) (c : Int) (k : Nat) : DR Ins :=
 (Yai L k).bind fun m k => if Yd3 c m = 0 ∨ m.mod = 3 then .err 12 else Ybb L (Yd3 c m) m k
def Ye9 (L : List Int) (k : Nat) : DR Ins :=
 (Yai L k).bind fun m k =>
  if m.reg = 0 then (Ya6 L m k).bind fun o k => (Yas L k).bind fun i k => .ok ⟨11, 0, o, i, false, 0⟩ k
  else if Ybd m.reg ≠ 0 then Ybb L (Ybd m.reg) m k
  else .err 12
def Yf2 (L : List Int) (k : Nat) : DR Ins :=
 (Yai L k).bind fun m k => if Ycn m.reg ≠ 0 then Ybb L (Ycn m.reg) m k else if m.reg = 7 then .err 90 else .err 12
def Yaj (op : Int) : Ins := ⟨op, 0, Opd.none, Opd.none, false, 0⟩
def Yb7 (L : List Int) (c : Int) (k : Nat) : DR Ins :=
 if c = 193 ∨ c = 209 ∨ c = 211 then Yc2 L c k
 else if c = 205 then (Ybu L k).bind fun o k => if o.imm = 128 then .ok ⟨43, 0, o, Opd.none, false, 0⟩ k else .err 12
 else if c = 217 then (Yz L k).bind fun x k => if x = 224 then .ok (Yaj 51) k else if x = 225 then .ok (Yaj 52) k else .err 12
 else if c = 220 ∨ c = 221 then Yc7 L c k
 else if c = 243 then (Yz L k).bind fun x k => if x = 165 then .ok ⟨41, 0, Opd.none, Opd.none, true, 0⟩ k else if x = 171 then .ok ⟨42, 0, Opd.none, Opd.none, true, 0⟩ k else .err 12
 else if c = 247 then Ye9 L k
 else if c = 255 then Yf2 L k
 else .err 12
def Ycg (L : List Int) (c : Int) (k : Nat) : DR Ins :=
 if c = 144 then .ok (Yaj 44) k
 else if c = 153 then .ok (Yaj 38) k
 else if c = 165 then .ok (Yaj 41) k
 else if c = 171 then .ok (Yaj 42) k
 else if c = 195 then .ok (Yaj 31) k
 else if c = 252 then .ok (Yaj 39) k
 else if c = 253 then .ok (Yaj 40) k
 else if c = 232 then (Yas L k).bind fun o k => .ok ⟨30, 0, o, Opd.none, false, 0⟩ k
 else if c = 233 then (Yas L k).bind fun o k => .ok ⟨32, 0, o, Opd.none, false, 0⟩ k
 else if c = 235 then (Yce L k).bind fun o k => .ok ⟨32, 0, o, Opd.none, false, 0⟩ k
 else Yb7 L c k
def Ya2 (L : List Int) (c : Int) (k : Nat) : DR Ins :=
 if c = 104 then (Yas L k).bind fun o k => .ok ⟨28, 0, o, Opd.none, false, 0⟩ k
 else if c = 106 then (Yce L k).bind fun o k => .ok ⟨28, 0, o, Opd.none, false, 0⟩ k
 else if c = 129 then (Yai L k).bind fun m k => (Ya6 L m k).bind fun o k => (Yas L k).bind fun i k => .ok ⟨Yag m.reg, 0, o, i, false, 0⟩ k
 else if c = 131 then (Yai L k).bind fun m k => (Ya6 L m k).bind fun o k => (Yce L k).bind fun i k => .ok ⟨Yag m.reg, 0, o, i, false, 0⟩ k
 else if c = 133 then Yaz L 11 false k
 else if c = 135 then Yaz L 27 false k
 else if c = 136 then Yaz L 2 false k
 else if c = 138 then Yaz L 2 true k
 else if c = 137 then Yaz L 1 false k
 else if c = 139 then Yaz L 1 true k
 else if c = 141 then Yhq L k
 else if c = 169 then (Yas L k).bind fun o k => .ok ⟨11, 0, Yn 0, o, false, 0⟩ k
 else if c = 198 ∨ c = 199 then Yea L c k
 else Ycg L c k
def Yeh (L : List Int) (k : Nat) : DR Ins :=
 (Yz L k).bind fun c k =>
  if c = 11 then .err 90
  else if 64 ≤ c ∧ c < 80 then (Yaz L 35 true k).bind fun i k => .ok { i with cond := c % 16 } k
  else if 128 ≤ c ∧ c < 144 then (Yas L k).bind fun o k => .ok ⟨33, c % 16, o, Opd.none, false, 0⟩ k
  else if 144 ≤ c ∧ c < 160 then (Yai L k).bind fun m k => if m.reg ≠ 0 then .err 12 else (Ya6 L m k).bind fun o k => .ok ⟨34, c % 16, o, Opd.none, false, 0⟩ k
  else if c = 175 then Yaz L 18 true k
  else if c = 182 then Yaz L 36 true k
  else if c = 190 then Yaz L 37 true k
  else .err 12
def Yde (L : List Int) (c : Int) (k : Nat) : DR Ins :=
 if c = 15 then Yeh L k
 else if c < 64 then Yf4 L c k
 else if c < 72 then .ok ⟨12, 0, Yn (c % 8), Opd.none, false, 0⟩ k
 else if c < 80 then .ok ⟨13, 0, Yn (c % 8), Opd.none, false, 0⟩ k
 else if c < 88 then .ok ⟨28, 0, Yn (c % 8), Opd.none, false, 0⟩ k
 else if c < 96 then .ok ⟨29, 0, Yn (c % 8), Opd.none, false, 0⟩ k
 else if 112 ≤ c ∧ c < 128 then (Yce L k).bind fun o k => .ok ⟨33, c % 16, o, Opd.none, false, 0⟩ k
 else if 176 ≤ c ∧ c < 184 then (Ybu L k).bind fun o k => .ok ⟨2, 0, Yn (c % 8), o, false, 0⟩ k
 else if 184 ≤ c ∧ c < 192 then (Yas L k).bind fun o k => .ok ⟨1, 0, Yn (c % 8), o, false, 0⟩ k
 else Ya2 L c k
def Ydh (L : List Int) (k : Nat) : DR Ins := (Yz L k).bind fun c k => Yde L c k
def Ygr (L : List Int) : Ins := match Ydh L 0 with | .ok i k => { i with len := k } | .err _ => Ins.zero
def Ygs (L : List Int) : Int := match Ydh L 0 with | .ok _ k => k | .err _ => 0
def Ycv (L : List Int) : Int := match Ydh L 0 with | .ok _ _ => 0 | .err c => c
def BOk (L : List Int) : Prop := ∀ i, 0 ≤ L.getD i 0 ∧ L.getD i 0 ≤ 255
structure Yd (w : World) (d : Nat) (v : Value) (L : List Int) (g k : Nat) : Prop where
 h : w.heap[d]? = some (.cells #[v, .int .i64 k] 106 (0, 0))
 b : Ybz w v L g
 k : k ≤ L.length
 n : L.length ≤ maxLen
 gd : g ≠ d
 r : BOk L
 c : ∀ b n c, v = .slice b n c → n ≤ c
theorem Yd.step {w w' : World} {d : Nat} {v : Value} {L : List Int} {g k : Nat} (h : Yd w d v L g k) (u : Upd [] w w') : Yd w' d v L g k :=
 ⟨u.get h.h (by simp), h.b.keep u (by simp), h.k, h.n, h.gd, h.r, h.c⟩
def Yp {α : Type} (d : Nat) (v : Value) (L : List Int) (g : Nat) (w : World) (r : DR α) (val : α → Value) (e : Ending) (w' : World) : Prop :=
 match r with
 |.ok x k => e = .returned (val x) ∧ Yd w' d v L g k ∧ Upd [d] w w'
 |.err c => e = .panicked [{ v := .iface 52 (.int .i64 c), recovered := false }] ∧ Upd [d] w w'
structure DecB (w : World) (d : Nat) (v : Value) (L : List Int) (g k : Nat) (w1 : World) : Prop where
 d : Yd w1 d v L g k
 u : Upd [] w w1
theorem DecB.cells {w w1 : World} {d : Nat} {v : Value} {L : List Int} {g k : Nat} (h : DecB w d v L g k w1) : w1.cell? ⟨d, 0, none⟩ = some v ∧ w1.cell? ⟨d, 1, none⟩ = some (.int .i64 k) := by
 rw [Ya h.d.h, Ya h.d.h]; exact ⟨rfl, rfl⟩
theorem Ygc (d g k n : Nat) (v : Value) (L : List Int) (w : World) (hD : Yd w d v L g k) (hn : n ≤ 4) (h : L.length < k + n) :
  Calls Tryz.prog 83 #[.pointer (some ⟨d, 0, none⟩), .int .i64 n] w fun e w' => e = .panicked [{ v := .iface 52 (.int .i64 10), recovered := false }] ∧ Upd [d] w w' := by
 have hmo : Tryz.prog.follows .mixedOrders = true := by kernel_rfl
 obtain ⟨sb, sc, rfl⟩ := hD.b.form
 have hk := hD.k
 have hl := hD.n
 unfold maxLen at hl
 have e1 : wrap64 ((L.length : Int) - k) = L.length - k := by unfold wrap64; omega
 have e2 : decide ((L.length : Int) - k < n) = true := by simp; omega
 have HD := Yh_ hD
 clear hD hk hl h
 go_enter Tryz.func83, Tryz.ntmps83
 go_wp2_with fail
 refine Ybc 12 (DecB w d (.slice sb L.length sc) L g k) (fun _ _ => False) (by kernel_rfl) (by kernel_rfl) ⟨HD.out.step (Upd.refl [] w).drew, (Upd.refl [] w).drew⟩ (fun _ _ _ h => h.elim) ?_
 simp only [List.take_succ_cons, List.take_zero, List.drop_succ_cons, List.drop_zero]
 repeat
  apply Yao rfl rfl
  ·intro K hK w1 hB1
   obtain ⟨c0, c1⟩ := hB1.cells
   have HB := Yh_ hB1
   clear hB1
   go_wp2_with fail
   first
   |exact hK _ HB.out
   |exact HB.out
  ·exact ⟨_, rfl⟩
 refine Yaw (fun _ w1 hB1 => ?_)
 have HB := Yh_ hB1
 clear hB1
 go_wp2_with fail
 exact ⟨rfl, rfl, HB.out.u.mono (by simp)⟩
def Cut (w : World) (u : Value) (L : List Int) (g k n : Nat) : Prop :=
 ∃ o c, u = .slice (some ⟨g, o, none⟩) n c ∧ n ≤ c ∧ (∀ i, i < n → w.cell? ⟨g, o + i, none⟩ = some (.int .u8 (L.getD (k + i) 0)))
theorem Yd.set {w : World} {d : Nat} {v : Value} {L : List Int} {g k : Nat} (h : Yd w d v L g k) (j : Nat) (hj : j ≤ L.length) : Yd (w.setCell ⟨d, 1, none⟩ (.int .i64 j)) d v L g j := by
 have h1 := Ys h.h 1 (.int .i64 j)
 exact ⟨h1, h.b.keep ((Upd.refl [d] w).setCell (by simp) _) (by simpa using h.gd), hj, h.n, h.gd, h.r, h.c⟩
theorem Ynj (d g k n : Nat) (v : Value) (L : List Int) (w : World) (hD : Yd w d v L g k) (hn : 1 ≤ n ∧ n ≤ 4) (h : k + n ≤ L.length) :
  Calls Tryz.prog 83 #[.pointer (some ⟨d, 0, none⟩), .int .i64 n] w fun e w' => ∃ u, e = .returned u ∧ Cut w' u L g k n ∧ Yd w' d v L g (k + n) ∧ Upd [d] w w' := by
 have hmo : Tryz.prog.follows .mixedOrders = true := by kernel_rfl
 obtain ⟨o, sc, rfl, hsc⟩ : ∃ o c, v = .slice (some ⟨g, o, none⟩) L.length c ∧ L.length ≤ c := by
  rcases hD.b with ⟨_, h1⟩ | ⟨o, c, _, _, _, h1, _⟩
  ·rw [h1] at h; simp at h; omega
  ·exact ⟨o, c, h1, hD.c _ _ _ h1⟩
 have hk := hD.k
 have hl := hD.n
 unfold maxLen at hl
 have e1 : wrap64 ((L.length : Int) - k) = L.length - k := by unfold wrap64; omega
 have e2 : decide ((L.length : Int) - k < n) = false := by simp; omega
 obtain ⟨z, hz⟩ : ∃ z : Int, ((k + n : Nat) : Int) = z := ⟨_, rfl⟩
 have e3 : wrap64 ((k : Int) + n) = z := by unfold wrap64; omega
 have e6 : wrap64 (z - n) = k := by unfold wrap64; omega
 have e7 : z.toNat = k + n := by omega
 have q1 : 0 ≤ z := by omega
 have q2 : z ≤ (sc : Int) := by omega
 have q3 : ¬ sc = k := by omega
 have q4 : k ≤ k + n := by omega
 have q5 : k + n - k = n := by omega
 have HZ := Yh_ hz
 clear hz
 have HD := Yh_ hD
 have HN := Yh_ (And.intro hn (And.intro h hsc))
 clear hD hk hl h hn hsc
 go_enter Tryz.func83, Tryz.ntmps83
 go_wp2_with fail
 refine Ybc 12 (DecB w d (.slice (some ⟨g, o, none⟩) L.length sc) L g k) (fun _ _ => False) (by kernel_rfl) (by kernel_rfl) ⟨HD.out.step (Upd.refl [] w).drew, (Upd.refl [] w).drew⟩ (fun _ _ _ h => h.elim) ?_
 simp only [List.take_succ_cons, List.take_zero, List.drop_succ_cons, List.drop_zero]
 repeat
  apply Yao rfl rfl
  ·intro K hK w1 hB1
   obtain ⟨c0, c1⟩ := hB1.cells
   have HB := Yh_ hB1
   clear hB1
   go_wp2_with fail
   first
   |exact hK _ HB.out
   |exact HB.out
  ·exact ⟨_, rfl⟩
 refine Yaw (fun _ w1 hB1 => ?_)
 obtain ⟨c0, c1⟩ := hB1.cells
 have f1 := Yh hB1.d.h
 have HB := Yh_ hB1
 clear hB1
 go_wp2_with fail
 have hS := HB.out.d.set (k + n) HN.out.2.1
 rw [HZ.out] at hS
 have hU : Upd [d] w (w1.setCell ⟨d, 1, none⟩ (.int .i64 z)) := (HB.out.u.mono (by simp)).setCell (by simp) _
 generalize w1.setCell ⟨d, 1, none⟩ (.int .i64 z) = w2 at hS hU
 have HU := Yh_ hU
 have HS := Yh_ hS
 clear hU hS c0 c1 f1
 refine Ybc 15 (DecB w2 d (.slice (some ⟨g, o, none⟩) L.length sc) L g (k + n)) (fun _ _ => False) (by kernel_rfl) (by kernel_rfl) ⟨HS.out.step (Upd.refl [] w2).drew, (Upd.refl [] w2).drew⟩ (fun _ _ _ h => h.elim) ?_
 simp only [List.take_succ_cons, List.take_zero, List.drop_succ_cons, List.drop_zero]
 iterate 14
  apply Yao rfl rfl
  ·intro K hK w3 hB1
   obtain ⟨c0, c1⟩ := hB1.cells
   rw [HZ.out] at c1
   have HB := Yh_ hB1
   clear hB1
   go_wp2_with fail
   first
   |exact hK _ HB.out
   |exact HB.out
  ·exact ⟨_, rfl⟩
 apply Yao rfl rfl
 ·intro K hK w3 hB1
  have HB := Yh_ hB1
  clear hB1
  go_wp2_with fail
  first
  |exact hK _ HB.out
  |exact HB.out
 ·exact ⟨_, rfl⟩
 refine Yaw (fun _ w3 hB1 => ?_)
 have HB := Yh_ hB1
 clear hB1
 go_wp2_with fail
 go_ret
 have hb := HB.out.d.b
 refine ⟨_, rfl, ⟨o + k, sc - k, rfl, by have := HN.out; omega, fun i hi => ?_⟩, HB.out.d, HU.out.also (HB.out.u) (by simp)⟩
 rcases hb with ⟨h1, _⟩ | ⟨o', c', C, T, f, h1, h2, h3⟩
 ·cases h1
 ·injection h1 with h1 h4 h5
  injection h1 with h1
  injection h1 with h1 h6
  subst h6
  rw [Ya h2, Nat.add_assoc]
  exact h3 (k + i) (by have := HN.out; omega)
theorem Yd.frame {w w' : World} {d : Nat} {v : Value} {L : List Int} {g k : Nat} (h : Yd w d v L g k) (hd : w'.heap[d]? = w.heap[d]?) (u : Upd [d] w w') : Yd w' d v L g k :=
 ⟨by rw [hd]; exact h.h, h.b.keep u (by simpa using h.gd), h.k, h.n, h.gd, h.r, h.c⟩
theorem Yah (d g k : Nat) (v : Value) (L : List Int) (w : World) (hD : Yd w d v L g k) :
  Calls Tryz.prog 64 #[.pointer (some ⟨d, 0, none⟩)] w (Yp d v L g w (Yz L k) (.int .u8 ·)) := by
 unfold Yz
 have HD := Yh_ hD
 by_cases h : k < L.length
 ·rw [if_pos h]
  clear hD
  have HL := Yh_ h
  clear h
  go_enter Tryz.func64, Tryz.ntmps64
  go_wp2_with (go_at_call 83; refine (Ynj d g k 1 v L _ HD.out (by decide) HL.out).mono ?_; rintro e w2 ⟨u, rfl, ⟨o, c, rfl, hc, hcell⟩, hD2, hu⟩; have h0 := hcell 0 (by decide); simp only [Nat.add_zero] at h0; have H2 := Yh_ (And.intro hD2 hu); clear hcell hD2 hu)
  go_ret
  exact ⟨rfl, H2.out.1, H2.out.2⟩
 ·rw [if_neg h]
  clear hD
  have HL := Yh_ (show L.length < k + 1 by omega)
  clear h
  go_enter Tryz.func64, Tryz.ntmps64
  go_wp2_with (go_at_call 83; refine (Ygc d g k 1 v L _ HD.out (by decide) HL.out).mono ?_; rintro e w2 ⟨rfl, hu⟩)
  exact ⟨rfl, rfl, hu⟩
end Go.Proofs.YteiplidhkelkbaaGreat
