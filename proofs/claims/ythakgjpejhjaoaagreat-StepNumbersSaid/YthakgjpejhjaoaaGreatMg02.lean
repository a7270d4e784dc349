/-
  Parts of the proof (their names shortened by a program). No condition.
-/
import Derived.Test.YthakgjpejhjaoaaGreatMg01
import Derived.Test.YthakgjpejhjaoaaGreatProg
import Derived.Laws.FloatArith
import Derived.Laws.Externs
import Derived.WalkSpells
import Derived.Test.YthakgjpejhjaoaaGreatRows
import Derived.WalkLawsBesides
import Derived.Lib.Hide
import Derived.Deep.MidRow
import Derived.Laws.Build
namespace Go.Proofs.YthakgjpejhjaoaaGreat
open Go Go.RowKit
set_option linter.unusedVariables false
set_option linter.unusedSimpArgs false
set_option maxRecDepth 100000
set_option maxHeartbeats 16000000
section
def Yah (d : Nat → Bool) (i : Nat) : Nat → Bool := fun j => if j = i then true else d j
def Yc0 (listed : Array Bool) : Nat → Bool := fun j => listed.getD j false
theorem Ygy {listed : Array Bool} {i : Nat} (h : i < listed.size) : Yc0 (listed.setIfInBounds i true) = Yah (Yc0 listed) i := by
 funext j
 simp only [Yc0, Yah]
 by_cases e : j = i
 ·subst e; simp [h]
 ·rw [if_neg e, getD_set_ne false (fun h => e h.symm)]
theorem Yig (n : Nat) : Yc0 (Array.replicate n false) = fun _ => false := by
 funext j; exact getD_replicate_false _ _
def Yd9 (P : Program) (ops : Array Oper) (B : (Nat → Bool) → World → Prop) (X : List PanicEntry → World → Prop) (fin : List Nat → Act → Prop) : List Nat → Nat → List Oper → Act → Prop
 |dead, _, [], a => fin dead a
 |dead, i, o :: rest, a =>
  (Yaq dead o = true ∧ Yd9 P ops B X fin (i :: dead) (i + 1) rest a) ∨
  (Yaq dead o = false ∧ Region.wanted o (yielded ops a.tmps) = true ∧ ∃ v, (∀ d w, d i = false → B d w → o.wp P a w (fun a' w' => a' = a.put o.dst v ∧ B (Yah d i) w') (PX X)) ∧ Yd9 P ops B X fin dead (i + 1) rest (a.put o.dst v)) ∨
  (Yaq dead o = false ∧ Region.wanted o (yielded ops a.tmps) = true ∧ (∀ d w, d i = false → B d w → o.wp P a w (fun _ _ => False) (PX X)) ∧ Yd9 P ops B X fin (i :: dead) (i + 1) rest a) ∨
  (Yaq dead o = false ∧ Region.wanted o (yielded ops a.tmps) = false ∧ (∀ d w, d i = false → B d w → B (Yah d i) w) ∧ Yd9 P ops B X fin dead (i + 1) rest (a.put o.dst undef))
section
variable {P : Program} {ops : Array Oper} {B : (Nat → Bool) → World → Prop} {X : List PanicEntry → World → Prop} {fin : List Nat → Act → Prop} {dead : List Nat} {i : Nat} {o : Oper} {rest : List Oper} {a : Act}
theorem Yfx (h : fin dead a) : Yd9 P ops B X fin dead i [] a := h
theorem Yaw {a2 : Act} (hd : Yaq dead o = false) (hw : Region.wanted o (yielded ops a.tmps) = true)
  (h : ∀ (d : Nat → Bool) (K : Act → World → Prop), d i = false → (∀ w', B (Yah d i) w' → K a2 w') → ∀ w, B d w → o.wp P a w K (PX X))
  (hv : ∃ v, a2 = a.put o.dst v) (k : Yd9 P ops B X fin dead (i + 1) rest a2) : Yd9 P ops B X fin dead i (o :: rest) a := by
 obtain ⟨v, rfl⟩ := hv
 exact .inr (.inl ⟨hd, hw, v, fun d w hdi hB => h d _ hdi (fun w' hB' => ⟨rfl, hB'⟩) w hB, k⟩)
theorem Yof (hd : Yaq dead o = false) (hw : Region.wanted o (yielded ops a.tmps) = false) (hs : ∀ d w, d i = false → B d w → B (Yah d i) w) (k : Yd9 P ops B X fin dead (i + 1) rest (a.put o.dst undef)) : Yd9 P ops B X fin dead i (o :: rest) a :=
 .inr (.inr (.inr ⟨hd, hw, hs, k⟩))
end
structure Yht (P : Program) (ops : Array Oper) (B : (Nat → Bool) → World → Prop) (X : List PanicEntry → World → Prop) (i n : Nat) (dead : List Nat) (a F : Act) (vs : Nat → Value) : Prop where
 live : ∀ (j : Nat) (o : Oper), i ≤ j → j < n → ops[j]? = some o → j ∉ dead →
  Yaq dead o = false ∧ ((Region.wanted o (yielded ops F.tmps) = true ∧ ∀ d w, d j = false → B d w → Yc3 P o F w (fun v w' => same o.dst a.tmps.size v (vs j) ∧ B (Yah d j) w') X) ∨ (Region.wanted o (yielded ops F.tmps) = false ∧ vs j = undef ∧ ∀ d w, d j = false → B d w → B (Yah d j) w))
 died : ∀ (j : Nat) (o : Oper), i ≤ j → j < n → ops[j]? = some o → j ∈ dead →
  Yaq dead o = true ∨ (Region.wanted o (yielded ops F.tmps) = true ∧ ∀ d w, d j = false → B d w → Yc3 P o F w (fun _ _ => False) X)
 defers : F.defers = a.defers
 size : F.tmps.size = a.tmps.size
 old : ∀ t, (∀ (j : Nat) (oj : Oper), i ≤ j → j < n → ops[j]? = some oj → oj.dst = some t → j ∈ dead) → F.tmps[t]? = a.tmps[t]?
 new : ∀ (j : Nat) (oj : Oper) t, i ≤ j → j < n → ops[j]? = some oj → j ∉ dead → oj.dst = some t → t < a.tmps.size → F.tmps[t]? = some (vs j)
theorem Yew {P : Program} {ops : Array Oper} {B : (Nat → Bool) → World → Prop} {X : List PanicEntry → World → Prop} {fin : List Nat → Act → Prop} {n : Nat} (hk : Yev ops n) :
  ∀ (l : List Oper) (i : Nat) (dead : List Nat) (a : Act), (∀ j, j < l.length → l[j]? = ops[i + j]?) → i + l.length = n → (∀ d, d ∈ dead → d < i) → Yd9 P ops B X fin dead i l a →
  ∃ (vs : Nat → Value) (dead' : List Nat) (F : Act), fin dead' F ∧ Yht P ops B X i n dead' a F vs ∧ (∀ d, d < i → (d ∈ dead' ↔ d ∈ dead)) ∧ (∀ d, d ∈ dead' → d < n)
 |[], i, dead, a, _, hn, hd, h => by
  have hin : i = n := by simpa using hn
  refine ⟨fun _ => undef, dead, a, h, ⟨?_, ?_, rfl, rfl, fun _ _ => rfl, ?_⟩, fun _ _ => Iff.rfl, fun d hdd => by have := hd d hdd; omega⟩
  ·intro j o h1 h2; omega
  ·intro j o h1 h2; omega
  ·intro j oj t h1 h2; omega
 |o :: l, i, dead, a, hl, hn, hd, h => by
  simp only [List.length_cons] at hn
  have ho : ops[i]? = some o := by simpa using (hl 0 (by simp)).symm
  have hin : i < n := by omega
  have hl' : ∀ j, j < l.length → l[j]? = ops[i + 1 + j]? := fun j hj => by
   have := hl (j + 1) (by simpa using hj)
   simpa [Nat.add_assoc, Nat.add_comm 1 j] using this
  have haft := hk.after i o hin ho
  -- what the operation looks at stands to the end
  have hstay : ∀ (F b : Act) (dead' : List Nat) (vs : Nat → Value), Yht P ops B X (i + 1) n dead' b F vs → (∀ t, t ∈ o.looksAt ops → b.tmps[t]? = a.tmps[t]?) → ∀ t, t ∈ o.looksAt ops → a.tmps[t]? = F.tmps[t]? := by
   intro F b dead' vs hr hb t ht
   rw [hr.old t (fun j oj h1 h2 h3 h4 => absurd (hk.looks i o j oj t hin ho h2 h3 h4 ht).1 (by omega)), hb t ht]
  have hput : ∀ (v : Value) t, t ∈ o.looksAt ops → (a.put o.dst v).tmps[t]? = a.tmps[t]? := fun v t ht =>
   Ybk _ _ _ _ (fun he => absurd (hk.looks i o i o t hin ho hin ho he ht).1 (by omega))
  rcases h with ⟨hdd, h⟩ | ⟨hdd, hw, v, hv, h⟩ | ⟨hdd, hw, hv, h⟩ | ⟨hdd, hw, hsk, h⟩
  ·obtain ⟨vs, dead', F, hf, hr, hdi, hdn⟩ := Yew hk l (i + 1) (i :: dead) a hl' (by omega) (fun d hm => by
    rcases List.mem_cons.1 hm with rfl | hm
    ·omega
    ·have := hd d hm; omega) h
   have hmem : i ∈ dead' := (hdi i (by omega)).2 (by simp)
   have hdi' : ∀ d, d < i → (d ∈ dead' ↔ d ∈ dead) := fun d hlt => by
    rw [hdi d (by omega)]
    constructor
    ·intro hm; rcases List.mem_cons.1 hm with rfl | hm
     ·omega
     ·exact hm
    ·intro hm; exact List.mem_cons_of_mem _ hm
   refine ⟨vs, dead', F, hf, ⟨?_, ?_, hr.defers, hr.size, ?_, ?_⟩, hdi', hdn⟩
   ·intro j oj h1 h2 h3 h4
    by_cases e : j = i
    ·subst e; exact absurd hmem h4
    ·exact hr.live j oj (by omega) h2 h3 h4
   ·intro j oj h1 h2 h3 h4
    by_cases e : j = i
    ·subst e
     have : oj = o := Option.some.inj (h3.symm.trans ho)
     subst this
     left; rw [Ycb haft hdi']; exact hdd
    ·exact hr.died j oj (by omega) h2 h3 h4
   ·intro t ht; exact hr.old t (fun j oj h1 => ht j oj (by omega))
   ·intro j oj t h1 h2 h3 h4
    by_cases e : j = i
    ·subst e; exact absurd hmem h4
    ·exact hr.new j oj t (by omega) h2 h3 h4
  ·obtain ⟨vs, dead', F, hf, hr, hdi, hdn⟩ := Yew hk l (i + 1) dead _ hl' (by omega) (fun d hm => by have := hd d hm; omega) h
   have hmem : i ∉ dead' := fun hm => by have := hd i ((hdi i (by omega)).1 hm); omega
   have hs := Yb3 (hk.sel i o ho) (hstay F _ dead' vs hr (hput v))
   have hne : ∀ j, i + 1 ≤ j → (if j = i then v else vs j) = vs j := fun j hj => if_neg (by omega)
   refine ⟨fun j => if j = i then v else vs j, dead', F, hf, ⟨?_, ?_, by rw [hr.defers, Yb0], by rw [hr.size, Yat], ?_, ?_⟩, fun d hlt => hdi d (by omega), hdn⟩
   ·intro j oj h1 h2 h3 h4
    by_cases e : j = i
    ·subst e
     have : oj = o := Option.some.inj (h3.symm.trans ho)
     subst this
     refine ⟨by rw [Ycb haft (fun d hlt => hdi d (by omega))]; exact hdd, .inl ⟨by rw [← hs.2]; exact hw, fun d w hd0 hB => ?_⟩⟩
     rw [← Ybx hs.1]
     simp only [if_true]
     exact Ygj (hv d w hd0 hB)
    ·simp only [if_neg e]
     have := hr.live j oj (by omega) h2 h3 h4
     rwa [Yat] at this
   ·intro j oj h1 h2 h3 h4
    by_cases e : j = i
    ·subst e; exact absurd h4 hmem
    ·exact hr.died j oj (by omega) h2 h3 h4
   ·intro t ht
    rw [hr.old t (fun j oj h1 => ht j oj (by omega)), Ybk _ _ _ _ (fun he => hmem (ht i o (Nat.le_refl _) hin ho he))]
   ·intro j oj t h1 h2 h3 h4 h5 h6
    by_cases e : j = i
    ·subst e
     have : oj = o := Option.some.inj (h3.symm.trans ho)
     subst this
     simp only [if_true]
     rw [hr.old t (fun k ok g1 g2 g3 g4 => absurd (hk.dst j oj k ok t h2 h3 g2 g3 g4 h5) (by omega)), h5, Yc6 _ _ _ h6]
    ·simp only [if_neg e]; exact hr.new j oj t (by omega) h2 h3 h4 h5 (by rw [Yat]; exact h6)
  ·obtain ⟨vs, dead', F, hf, hr, hdi, hdn⟩ := Yew hk l (i + 1) (i :: dead) a hl' (by omega) (fun d hm => by
    rcases List.mem_cons.1 hm with rfl | hm
    ·omega
    ·have := hd d hm; omega) h
   have hmem : i ∈ dead' := (hdi i (by omega)).2 (by simp)
   have hdi' : ∀ d, d < i → (d ∈ dead' ↔ d ∈ dead) := fun d hlt => by
    rw [hdi d (by omega)]
    constructor
    ·intro hm; rcases List.mem_cons.1 hm with rfl | hm
     ·omega
     ·exact hm
    ·intro hm; exact List.mem_cons_of_mem _ hm
   have hs := Yb3 (hk.sel i o ho) (hstay F _ dead' vs hr (fun _ _ => rfl))
   refine ⟨vs, dead', F, hf, ⟨?_, ?_, hr.defers, hr.size, ?_, ?_⟩, hdi', hdn⟩
   ·intro j oj h1 h2 h3 h4
    by_cases e : j = i
    ·subst e; exact absurd hmem h4
    ·exact hr.live j oj (by omega) h2 h3 h4
   ·intro j oj h1 h2 h3 h4
    by_cases e : j = i
    ·subst e
     have : oj = o := Option.some.inj (h3.symm.trans ho)
     subst this
     right
     refine ⟨by rw [← hs.2]; exact hw, fun d w hd0 hB => ?_⟩
     rw [← Ybx hs.1]
     exact Yfh (hv d w hd0 hB)
    ·exact hr.died j oj (by omega) h2 h3 h4
   ·intro t ht; exact hr.old t (fun j oj h1 => ht j oj (by omega))
   ·intro j oj t h1 h2 h3 h4
    by_cases e : j = i
    ·subst e; exact absurd hmem h4
    ·exact hr.new j oj t (by omega) h2 h3 h4
  ·obtain ⟨vs, dead', F, hf, hr, hdi, hdn⟩ := Yew hk l (i + 1) dead _ hl' (by omega) (fun d hm => by have := hd d hm; omega) h
   have hmem : i ∉ dead' := fun hm => by have := hd i ((hdi i (by omega)).1 hm); omega
   have hs := Yb3 (hk.sel i o ho) (hstay F _ dead' vs hr (hput undef))
   refine ⟨fun j => if j = i then undef else vs j, dead', F, hf, ⟨?_, ?_, by rw [hr.defers, Yb0], by rw [hr.size, Yat], ?_, ?_⟩, fun d hlt => hdi d (by omega), hdn⟩
   ·intro j oj h1 h2 h3 h4
    by_cases e : j = i
    ·subst e
     have : oj = o := Option.some.inj (h3.symm.trans ho)
     subst this
     refine ⟨by rw [Ycb haft (fun d hlt => hdi d (by omega))]; exact hdd, .inr ⟨by rw [← hs.2]; exact hw, by simp, hsk⟩⟩
    ·simp only [if_neg e]
     have := hr.live j oj (by omega) h2 h3 h4
     rwa [Yat] at this
   ·intro j oj h1 h2 h3 h4
    by_cases e : j = i
    ·subst e; exact absurd h4 hmem
    ·exact hr.died j oj (by omega) h2 h3 h4
   ·intro t ht
    rw [hr.old t (fun j oj h1 => ht j oj (by omega)), Ybk _ _ _ _ (fun he => hmem (ht i o (Nat.le_refl _) hin ho he))]
   ·intro j oj t h1 h2 h3 h4 h5 h6
    by_cases e : j = i
    ·subst e
     have : oj = o := Option.some.inj (h3.symm.trans ho)
     subst this
     simp only [if_true]
     rw [hr.old t (fun k ok g1 g2 g3 g4 => absurd (hk.dst j oj k ok t h2 h3 g2 g3 g4 h5) (by omega)), h5, Yc6 _ _ _ h6]
    ·simp only [if_neg e]; exact hr.new j oj t (by omega) h2 h3 h4 h5 (by rw [Yat]; exact h6)
structure Yk8 (ops : Array Oper) (B : (Nat → Bool) → World → Prop) (n : Nat) (dead : List Nat) (a0 F : Act) (listed : Array Bool) (a : Act) (w : World) : Prop where
 head : HeadInv .any ops n listed
 world : B (Yc0 listed) w
 defers : a.defers = a0.defers
 size : a.tmps.size = a0.tmps.size
 live : ∀ (j : Nat), j < n → listed.getD j false = true → j ∉ dead
 old : ∀ t, (∀ (j : Nat) (oj : Oper), j < n → ops[j]? = some oj → oj.dst = some t → listed.getD j false = false) → a.tmps[t]? = a0.tmps[t]?
 new : ∀ (j : Nat) (oj : Oper) t, j < n → ops[j]? = some oj → listed.getD j false = true → oj.dst = some t → a.tmps[t]? = F.tmps[t]?
theorem Yhq {P : Program} {ops : Array Oper} {B : (Nat → Bool) → World → Prop} {X : List PanicEntry → World → Prop} {Q : Exit → Act → World → Prop} {n : Nat} {dead : List Nat} {a0 F : Act} {vs : Nat → Value}
  (hk : Yev ops n) (hr : Yht P ops B X 0 n dead a0 F vs) (hdn : ∀ d, d ∈ dead → d < n)
  (hwait : ∀ listed, HeadInv .any ops n listed → ∀ i, i < n → listed.getD i true = false → ∀ t, n ≤ t → t ∉ Region.ready .any ops listed)
  (hX : ∀ c a' w', X c w' → a'.defers = a0.defers → a'.tmps.size = a0.tmps.size → (∀ t, (∀ (j : Nat) (oj : Oper), j < n → ops[j]? = some oj → oj.dst ≠ some t) → a'.tmps[t]? = a0.tmps[t]?) → Q (.panic c) a' w')
  (hfin : ∀ listed w, HeadInv .any ops n listed → (∀ i, i < n → listed.getD i true = true) → dead = [] → B (Yc0 listed) w → wpAny P .any ops Q (ops.size - n) listed F w) :
  ∀ (m : Nat) (listed : Array Bool) (a : Act) (w : World), Ycp n listed = m → Yk8 ops B n dead a0 F listed a w → wpAny P .any ops Q (m + (ops.size - n)) listed a w
 |0, listed, a, w, hm, inv => by
  have hall := Yf0 hm
  have hall' : ∀ i, i < n → listed.getD i false = true := fun i hi => by
   have h1 := hall i hi
   have h2 : i < listed.size := by rw [inv.head.size]; have := hk.le; omega
   simp [h2] at h1 ⊢; exact h1
  have hdead : dead = [] := by
   cases hde : dead with
   |nil => rfl
   |cons d r =>
    have hd : d ∈ dead := by rw [hde]; simp
    exact absurd hd (inv.live d (hdn d hd) (hall' d (hdn d hd)))
  have hF : a = F := by
   have h1 : a.tmps = F.tmps := by
    apply Array.ext_getElem?
    intro t
    by_cases h : ∃ (j : Nat) (oj : Oper), j < n ∧ ops[j]? = some oj ∧ oj.dst = some t
    ·obtain ⟨j, oj, h1, h2, h3⟩ := h
     exact inv.new j oj t h1 h2 (hall' j h1) h3
    ·rw [inv.old t (fun j oj h1 h2 h3 => absurd ⟨j, oj, h1, h2, h3⟩ h), hr.old t (fun j oj _ h1 h2 h3 => absurd ⟨j, oj, h1, h2, h3⟩ h)]
   have h2 : a.defers = F.defers := by rw [inv.defers, hr.defers]
   cases a; cases F; simp_all
  rw [Nat.zero_add, hF]
  exact hfin listed w inv.head hall hdead inv.world
 |m + 1, listed, a, w, hm, inv => by
  rw [show m + 1 + (ops.size - n) = (m + (ops.size - n)) + 1 by omega]
  obtain ⟨i0, hi0, hun0⟩ : ∃ i, i < n ∧ listed.getD i true = false := by
   have : (List.range n).countP (fun i => !listed.getD i true) ≠ 0 := by
    show Ycp n listed ≠ 0
    omega
   rw [Ne, List.countP_eq_zero] at this
   simp only [Classical.not_forall] at this
   obtain ⟨i, hi, h⟩ := this
   exact ⟨i, List.mem_range.1 hi, by simpa using h⟩
  have hrd := Ygg hk inv.head.size i0 hi0 hun0
  refine ⟨fun h0 => ?_, fun i hi => ?_⟩
  ·obtain ⟨j, _, hj⟩ := hrd
   rw [h0] at hj; cases hj
  ·have hin : i < n := by
    rcases Nat.lt_or_ge i n with h | h
    ·exact h
    ·exact absurd hi (hwait listed inv.head i0 hi0 hun0 i h)
   obtain ⟨hun, o, ho, hall⟩ := mem_ready.1 hi
   have hunf : listed.getD i false = false := getD_both hun
   have hm' := Yf8 hin hun
   -- what the operation looks at is as in the frame at the head's end
   have hlook : ∀ t, t ∈ o.looksAt ops → a.tmps[t]? = F.tmps[t]? := by
    intro t ht
    by_cases h : ∃ (j : Nat) (oj : Oper), j < n ∧ ops[j]? = some oj ∧ oj.dst = some t
    ·obtain ⟨j, oj, h1, h2, h3⟩ := h
     obtain ⟨_, e, he, hb, hon⟩ := hk.looks i o j oj t hin ho h1 h2 h3 ht
     exact inv.new j oj t h1 h2 (by rw [← hon]; exact hall e he hb) h3
    ·rw [inv.old t (fun j oj h1 h2 h3 => absurd ⟨j, oj, h1, h2, h3⟩ h), hr.old t (fun j oj _ h1 h2 h3 => absurd ⟨j, oj, h1, h2, h3⟩ h)]
   have hs := Yb3 (hk.sel i o ho) hlook
   have hnd : Yaq dead o = false := by
    rw [Bool.eq_false_iff]
    intro hd
    simp only [Yaq, List.any_eq_true, Bool.and_eq_true, List.contains_iff_mem, Array.mem_toList_iff] at hd
    obtain ⟨e, he, hb, hm⟩ := hd
    exact inv.live e.on (hdn _ hm) (hall e he hb) hm
   -- the next frame
   have hd0 : Yc0 listed i = false := hunf
   have hnext : ∀ (v : Value) (w' : World), B (Yah (Yc0 listed) i) w' → i ∉ dead → same o.dst a0.tmps.size v (vs i) → Yk8 ops B n dead a0 F (listed.setIfInBounds i true) (a.put o.dst v) w' := by
    intro v w' hB hnot hv
    have hlt : i < listed.size := by rw [inv.head.size]; have := hk.le; omega
    refine ⟨inv.head.set hi hin, by rw [Ygy hlt]; exact hB, by rw [Yb0, inv.defers], by rw [Yat, inv.size], ?_, ?_, ?_⟩
    ·intro j hj hl
     by_cases e : i = j
     ·subst e; exact hnot
     ·rw [getD_set_ne false e] at hl; exact inv.live j hj hl
    ·intro t ht
     have hne : o.dst ≠ some t := fun he => by
      have := ht i o hin ho he
      simp [hlt] at this
     rw [Ybk _ _ _ _ hne]
     refine inv.old t fun j oj h1 h2 h3 => ?_
     have := ht j oj h1 h2 h3
     by_cases e : i = j
     ·subst e; exact hunf
     ·rwa [getD_set_ne false e] at this
    ·intro j oj t h1 h2 h3 h4
     by_cases e : i = j
     ·subst e
      have : oj = o := Option.some.inj (h2.symm.trans ho)
      subst this
      rcases Nat.lt_or_ge t a.tmps.size with ht | ht
      ·rw [h4, Yc6 _ _ _ ht, hr.new i oj t (Nat.zero_le _) hin ho hnot h4 (by rw [← inv.size]; exact ht), hv t h4 (by rw [← inv.size]; exact ht)]
      ·rw [Array.getElem?_eq_none (by rw [Yat]; exact ht), Array.getElem?_eq_none (by rw [hr.size, ← inv.size]; exact ht)]
     ·rw [getD_set_ne false e] at h3
      have hne : o.dst ≠ some t := fun he => e (hk.dst i o j oj t hin ho h1 h2 h4 he)
      rw [Ybk _ _ _ _ hne]
      exact inv.new j oj t h1 h2 h3 h4
   have hpan : ∀ c w', X c w' → Q (.panic c) a w' := fun c w' hx =>
    hX c a w' hx inv.defers inv.size fun t ht => inv.old t fun j oj h1 h2 h3 => absurd h3 (ht j oj h1 h2)
   unfold wpOp
   simp only [ho]
   by_cases hde : i ∈ dead
   ·rcases hr.died i o (Nat.zero_le _) hin ho hde with h | ⟨hw, h⟩
    ·rw [h] at hnd; cases hnd
    ·rw [if_pos (by rw [hs.2]; exact hw)]
     refine .inl (Yc7 ?_)
     rw [Ybx hs.1]
     exact Ydi (h _ w hd0 inv.world) (fun _ _ hf => hf.elim) hpan
   ·obtain ⟨_, ⟨hw, h⟩ | ⟨hw, h, hsk⟩⟩ := hr.live i o (Nat.zero_le _) hin ho hde
    ·rw [if_pos (by rw [hs.2]; exact hw)]
     refine .inl (Yc7 ?_)
     rw [Ybx hs.1]
     refine Ydi (h _ w hd0 inv.world) (fun v w' hv => ?_) hpan
     exact Yhq hk hr hdn hwait hX hfin m _ _ _ (by omega) (hnext v w' hv.2 hde hv.1)
    ·rw [if_neg (by rw [hs.2, hw]; simp)]
     exact Yhq hk hr hdn hwait hX hfin m _ _ _ (by omega) (hnext undef w (hsk _ w hd0 inv.world) hde (fun _ _ _ => h.symm))
theorem Yf9 {P : Program} {id : Nat} {Q : Exit → Act → World → Prop} {a : Act} {w : World} {l : List Oper} (n : Nat) (B : (Nat → Bool) → World → Prop) (X : List PanicEntry → World → Prop) (hm : P.follows .mixedOrders = true) (hok : Yf7 l.toArray n = true)
  (hB : B (fun _ => false) w.drew)
  (hX : ∀ c a' w', X c w' → a'.defers = a.defers → a'.tmps.size = a.tmps.size → (∀ t, noDst l n t = true → a'.tmps[t]? = a.tmps[t]?) → Q (.panic c) a' w')
  (h : Yd9 P l.toArray B X (fun dead F => dead = [] → ∀ w1 d, (∀ j, j < n → d j = true) → B d w1 → wpList P l.toArray Q (l.drop n) F w1) [] 0 (l.take n) a) : (Code.region id l.toArray true).wp P Q a w := by
 simp only [Yf7, Bool.and_eq_true, Bool.or_eq_true, decide_eq_true_eq] at hok
 obtain ⟨⟨hh, ht⟩, hq⟩ := hok
 have hk := Yfy hh
 have hle : n ≤ l.length := by simpa using hk.le
 have htl : (l.take n).length = n := by simp; omega
 obtain ⟨vs, dead, F, hf, hr, _, hdn⟩ := Yew hk (l.take n) 0 [] a (fun j hj => by
  have hj' : j < n := by rw [htl] at hj; exact hj
  simp [hj']) (by simpa using htl) (by simp) h
 have hun : Ycp n (Array.replicate l.toArray.size false) = n := by
  have : ∀ i, i ∈ List.range n → (!(Array.replicate l.toArray.size false).getD i true) = true := fun i hi => by
   have hi' : i < l.toArray.size := by have := List.mem_range.1 hi; simp; omega
   have hi'' : i < l.length := by simpa using hi'
   simp [hi'']
  unfold Ycp
  rw [List.countP_eq_length.2 this, List.length_range]
 have inv0 : HeadInv .any l.toArray n (Array.replicate l.toArray.size false) :=
  ⟨by simp, fun j oj _ hl => (by rw [getD_replicate_false] at hl; cases hl), fun t _ ht => getD_in (by simpa using ht) (getD_replicate_false _ _)⟩
 have hgo := Yhq (Q := Q) hk hr hdn ?_ (fun c a' w' hx h1 h2 h3 => hX c a' w' hx h1 h2 fun t ht' => h3 t fun j oj g1 g2 => Ygi ht' j oj g1 (by simpa using g2)) ?_ n _ a w.drew hun
  ⟨inv0, by rw [Yig]; exact hB, rfl, rfl, fun j _ hl => (by rw [getD_replicate_false] at hl; cases hl), fun _ _ => rfl, fun j oj t _ _ hl => (by rw [getD_replicate_false] at hl; cases hl)⟩
 ·refine wp_region_any hm ?_
  rw [show n + (l.toArray.size - n) = l.toArray.size by simp; omega] at hgo
  exact hgo
 ·intro listed inv i hi hun t hnt
  rcases ht with ht | ⟨⟨h1, h2⟩, h3⟩
  ·intro hrd
   obtain ⟨_, o, ho, _⟩ := mem_ready.1 hrd
   have := (Array.getElem?_eq_some_iff.1 ho).1
   omega
  ·exact tail_waits h2 h3 h1 inv _ i rfl hi hun t hnt
 ·intro listed w1 inv hall hd hBw
  have hlst : listed = Array.replicate n true ++ Array.replicate (l.toArray.size - n) false := by
   apply Array.ext
   ·rw [inv.size]; simp; omega
   ·intro i h1 h2
    by_cases hi : i < n
    ·have := hall i hi
     simp [h1] at this
     rw [this, Array.getElem_append_left (by simpa using hi)]
     simp
    ·have := inv.tail i (by omega) (by rw [← inv.size]; exact h1)
     simp [h1] at this
     rw [this, Array.getElem_append_right (by simpa using hi)]
     simp
  have hdl : (l.drop n).length = l.toArray.size - n := by simp
  have := wpAny_of_seq (md := .any) (P := P) (ops := l.toArray) (Q' := Q) (l.drop n) n listed F w1 (fun j => by simp [List.getElem?_drop]) (by rw [hdl, hlst]; exact hq) (hf hd w1 (Yc0 listed) (fun j hj => by
   have h1 := hall j hj
   have h2 : j < listed.size := by rw [inv.size]; have := hk.le; omega
   simp only [Yc0]
   simp [h2] at h1 ⊢; exact h1) hBw)
  rwa [hdl] at this
end
def Yhc (n : Nat) : Bool := FloatKind.f64.format.order n n == some .eq
def Yeg (n : Nat) : Int := if Yhc n then n else 9221120237041090560
def Ydy (op : BinOp) (x y : Nat) : Int :=
 match floatBits op .f64 x y with | some r => Yeg r | none => 9221120237041090560
theorem fl_drawn (t : Nat) : Yhc ((t % 2) * 2 ^ 63 + 0x7ff0000000000000 + 1 + (t / 2) % (2 ^ 52 - 1)) = false := by
 have hs : (t / 2) % (2 ^ 52 - 1) < 2 ^ 52 - 1 := Nat.mod_lt _ (by decide)
 generalize hq : (t / 2) % (2 ^ 52 - 1) = s at hs
 have hr : ((t % 2) * 2 ^ 63 + 0x7ff0000000000000 + 1 + s) % 9223372036854775808 = 0x7ff0000000000000 + 1 + s := by omega
 unfold Yhc Ieee.Format.order Ieee.Format.read
 have e1 : FloatKind.f64.format.signWeight = 9223372036854775808 := by decide
 have e2 : FloatKind.f64.format.binade = 4503599627370496 := by decide
 have e3 : FloatKind.f64.format.infRung = 9218868437227405312 := by decide
 rw [e1, e2, e3]
 dsimp only
 rw [hr, if_neg (by omega), if_neg (by omega), if_neg (by omega)]
 rfl
theorem fl_run (op : BinOp) (hop : op = .add ∨ op = .sub ∨ op = .mul ∨ op = .quo) (t : TypeId) (x y : Nat) (w : World) :
  ∃ v w', (binOp op t (.float .f64 x) (.float .f64 y)).run Tryz.prog w = .ok (.float .f64 v) w' ∧ Upd [] w w' ∧ Yeg v = Ydy op x y := by
 unfold Ydy
 cases h : floatBits op .f64 x y with
 |some r => exact ⟨r, w, run_float_arith w op t .f64 x y r h, Upd.refl _ _, rfl⟩
 |none =>
  have hd := fl_drawn (w.tape w.drawn (.nanBits .f64 x y))
  generalize hv : (w.tape w.drawn (.nanBits .f64 x y) % 2) * 2 ^ 63 + 0x7ff0000000000000 + 1 + (w.tape w.drawn (.nanBits .f64 x y) / 2) % (2 ^ 52 - 1) = v at hd
  refine ⟨v, w.drew, ?_, (Upd.refl _ _).drew, ?_⟩
  ·unfold floatBits at h
   rcases hop with rfl | rfl | rfl | rfl <;> simp only at h <;> simp [binOp, Op.floatArith, h, run_choose_drew, Question.forced, Question.cut, ← hv]
  ·unfold Yeg
   rw [hd]
   rfl
theorem Yo6 (n : Int) (w : World) : (callFunc 132 #[.int .u64 n]).run Tryz.prog w = .ok (.value (.float .f64 n.toNat)) w := by
 rw [run_callFunc_extern Tryz.func132 (by kernel_rfl) (by kernel_rfl) (by kernel_rfl) (e := Extern.MathFloatBits.float64frombits) (by kernel_rfl)]
 rfl
theorem Ymy (n : Nat) (w : World) : (callFunc 131 #[.float .f64 n]).run Tryz.prog w = .ok (.value (.int .u64 n)) w := by
 rw [run_callFunc_extern Tryz.func131 (by kernel_rfl) (by kernel_rfl) (by kernel_rfl) (e := Extern.MathFloatBits.float64bits) (by kernel_rfl)]
 rfl
theorem fl_of (n : Int) (w : World) : Calls Tryz.prog 113 #[.int .u64 n] w fun e w' => e = .returned (.float .f64 n.toNat) ∧ w = w' := by
 have h := fun w => Yo6 n w
 go_enter Tryz.func113, Tryz.ntmps113
 go_wp2
 go_ret
 exact ⟨rfl, rfl⟩
theorem fl_bits (n : Nat) (w : World) : Calls Tryz.prog 112 #[.float .f64 n] w fun e w' => e = .returned (.int .u64 (Yeg n)) ∧ w = w' := by
 have h := fun w => Ymy n w
 unfold Yeg
 cases hn : Yhc n
 ·have h1 : (FloatKind.f64.format.order n n != some .eq) = true := by simpa [Yhc, bne] using hn
  clear hn
  go_enter Tryz.func112, Tryz.ntmps112
  go_wp2
  go_ret
  exact ⟨rfl, rfl⟩
 ·have h1 : (FloatKind.f64.format.order n n != some .eq) = false := by simpa [Yhc, bne] using hn
  clear hn
  go_enter Tryz.func112, Tryz.ntmps112
  go_wp2
  go_ret
  exact ⟨rfl, rfl⟩
theorem Upd.of_grown {w w' : World} {row : Option Nat} (h : w.grownBy w' row) : Upd row.toList w w' :=
 ⟨h.os, h.tape, h.output, h.size, fun k hk hn => h.block k hk (fun e => hn (by rw [← e]; simp))⟩
theorem Yk9 {w : World} {base e size : Nat} {v : Value} {n : Nat} {xs : List Value} (h : w.ownsRow base e size v n xs) : ∃ b c, v = .slice b n c := by
 obtain ⟨_, ⟨h1, h2⟩ | ⟨g, cap, cur, h1, _⟩⟩ := h
 ·exact ⟨none, 0, by rw [h1, h2]⟩
 ·exact ⟨_, _, h1⟩
def Yei (w : World) (v : Value) (l : List Int) (g : Nat) : Prop :=
 (v = .slice none 0 0 ∧ l = []) ∨ ∃ o c C T f, v = .slice (some ⟨g, o, none⟩) l.length c ∧ w.heap[g]? = some (.cells C T f) ∧ ∀ i, i < l.length → C[o + i]? = some (.int .u8 (l.getD i 0))
theorem Yei.form {w : World} {v : Value} {l : List Int} {g : Nat} (h : Yei w v l g) : ∃ b c, v = .slice b l.length c := by
 rcases h with ⟨h1, h2⟩ | ⟨o, c, _, _, _, h1, _⟩
 ·exact ⟨none, 0, by rw [h1, h2]; rfl⟩
 ·exact ⟨_, _, h1⟩
theorem Yei.keep {w w' : World} {v : Value} {l : List Int} {g : Nat} {S : List Nat} (h : Yei w v l g) (u : Upd S w w') (hg : g ∉ S) : Yei w' v l g := by
 rcases h with h | ⟨o, c, C, T, f, h1, h2, h3⟩
 ·exact .inl h
 ·exact .inr ⟨o, c, C, T, f, h1, u.get h2 hg, h3⟩
theorem Yec {v : Value} {v' : Value} (h : v = v') : Ending.returned v = .returned v' := by rw [h]
structure Ym (w : World) (a pb : Nat) (M : Mem) : Prop where
 hd : ∃ c, 64 ≤ c ∧ w.heap[a]? = some (.cells #[.slice (some ⟨pb, 0, none⟩) 64 c] 73 (0, 0))
 pg : ∃ C, Ydf C M ∧ w.heap[pb]? = some (.cells C 80 (0, 0))
 ok : M.Ok
theorem Ym.ne {w : World} {a pb : Nat} {M : Mem} (h : Ym w a pb M) : a ≠ pb := by
 intro e; subst e
 obtain ⟨c, _, h1⟩ := h.hd
 obtain ⟨C, h2, h3⟩ := h.pg
 have := h1.symm.trans h3
 simp only [Option.some.injEq, Obj.cells.injEq] at this
 have h4 := h2.size
 rw [← this.1] at h4
 simp at h4
theorem Ym.al {w : World} {a pb : Nat} {M : Mem} (h : Ym w a pb M) : a < w.heap.size := by
 obtain ⟨c, _, h1⟩ := h.hd; exact Yk h1
theorem Ym.pl {w : World} {a pb : Nat} {M : Mem} (h : Ym w a pb M) : pb < w.heap.size := by
 obtain ⟨c, _, h1⟩ := h.pg; exact Yk h1
theorem Ym.keep {w w' : World} {a pb : Nat} {M : Mem} {S : List Nat} (h : Ym w a pb M) (u : Upd S w w') (ha : a ∉ S) (hp : pb ∉ S) : Ym w' a pb M := by
 obtain ⟨c, h0, h1⟩ := h.hd
 obtain ⟨C, h2, h3⟩ := h.pg
 exact ⟨⟨c, h0, u.get h1 ha⟩, ⟨C, h2, u.get h3 hp⟩, h.ok⟩
theorem Ym.drew {w : World} {a pb : Nat} {M : Mem} (h : Ym w a pb M) : Ym w.drew a pb M := ⟨h.hd, h.pg, h.ok⟩
theorem Ym.c0 {w : World} {a pb : Nat} {M : Mem} (h : Ym w a pb M) : ∃ c : Nat, 64 ≤ (c : Int) ∧ w.cell? ⟨a, 0, none⟩ = some (.slice (some ⟨pb, 0, none⟩) 64 c) := by
 obtain ⟨c, h0, h1⟩ := h.hd
 exact ⟨c, by omega, by rw [Ya h1]; rfl⟩
theorem Ym.cR {w : World} {a pb : Nat} {M : Mem} (h : Ym w a pb M) (p : Nat) (hp : p < 64) : w.cell? ⟨pb, p * 257, none⟩ = some (.int .i64 (M.R p)) := by
 obtain ⟨C, h2, h3⟩ := h.pg
 rw [Ya h3, h2.R p hp]
theorem Ym.cB {w : World} {a pb : Nat} {M : Mem} (h : Ym w a pb M) (p o : Nat) (hp : p < 64) (ho : o < 256) : w.cell? ⟨pb, p * 257 + 1 + o, none⟩ = some (.int .u8 (M.B (p * 256 + o))) := by
 obtain ⟨C, h2, h3⟩ := h.pg
 rw [Ya h3, h2.B p o hp ho]
theorem Ym.free {w : World} {a pb : Nat} {M : Mem} (h : Ym w a pb M) (o : Nat) : w.frozen? ⟨pb, o, none⟩ = false := by
 obtain ⟨C, h2, h3⟩ := h.pg
 exact Yg h3 o
theorem Ym.set {w : World} {a pb : Nat} {M M' : Mem} (h : Ym w a pb M) (i : Nat) (v : Value) (hi : i < 16448) (e : M.cells.setIfInBounds i v = M'.cells) (hok : M'.Ok) : Ym (w.setCell ⟨pb, i, none⟩ v) a pb M' := by
 obtain ⟨c, h0, h1⟩ := h.hd
 obtain ⟨C, h2, h3⟩ := h.pg
 exact ⟨⟨c, h0, Yh _ h.ne h1⟩, ⟨_, h2.set i v hi e, Yi h3 i v⟩, hok⟩
theorem Ym.wr {w : World} {a pb : Nat} {M M' : Mem} (h : Ym w a pb M) (o : Nat) (vs : List Value) (ho : o + vs.length ≤ 16448) (e : Go.Proofs.YthakgjpejhjaoaaGreat.wr M.cells o vs = M'.cells) (hok : M'.Ok) : Ym (w.setCells pb o vs) a pb M' := by
 obtain ⟨c, h0, h1⟩ := h.hd
 obtain ⟨C, h2, h3⟩ := h.pg
 exact ⟨⟨c, h0, by rw [Ygo h.ne]; exact h1⟩, ⟨_, h2.wr o vs ho e, Yai _ _ _ _ h3⟩, hok⟩
theorem Ym.there {w : World} {a pb : Nat} {M : Mem} (h : Ym w a pb M) (o n : Nat) (hn : o + n ≤ 16448) : w.there pb o n := by
 obtain ⟨C, h2, h3⟩ := h.pg
 exact Yd0 h3 o n (by have := h2.size; omega)
def Ye8 (r : Int) : Bool := decide (1 ≤ r) && decide (r ≤ 7)
theorem Ylk (r : Int) : Ye8 r = true ↔ 1 ≤ r ∧ r ≤ 7 := by simp [Ye8]
theorem Yfi (r : Int) (w : World) :
  Calls Tryz.prog 27 #[.int .i64 r] w fun e w' => e = .returned (.bool (Ye8 r)) ∧ w = w' := by
 by_cases h1 : 1 ≤ r
 all_goals
  go_enter Tryz.func27, Tryz.ntmps27
  go_wp2
  go_ret
  refine ⟨?_, rfl⟩
  simp [Ye8, h1]
  try omega
def Yao (n : Int) : Int := if n = 1 ∨ n = 2 then n else 4
theorem Yfu (n : Int) (w : World) :
  Calls Tryz.prog 34 #[.int .i64 n] w fun e w' => e = .returned (.int .i64 (Yao n)) ∧ w = w' := by
 by_cases h1 : n = 1
 ·subst h1
  go_enter Tryz.func34, Tryz.ntmps34
  go_wp2
  go_ret
  exact ⟨rfl, rfl⟩
 ·by_cases h2 : n = 2
  ·subst h2
   go_enter Tryz.func34, Tryz.ntmps34
   go_wp2
   go_ret
   exact ⟨rfl, rfl⟩
  ·have e1 : (n == 1) = false := by simpa using h1
   have e2 : (n == 2) = false := by simpa using h2
   go_enter Tryz.func34, Tryz.ntmps34
   go_wp2
   go_ret
   refine ⟨?_, rfl⟩
   simp [Yao, h1, h2]
def rowB (at_ n : Int) : Bool := decide (0 ≤ at_) && (decide (1 ≤ n) && (decide (n ≤ 64) && decide (at_ ≤ 64 - n)))
theorem Ygf (at_ n : Int) : rowB at_ n = true ↔ 0 ≤ at_ ∧ 1 ≤ n ∧ n ≤ 64 ∧ at_ ≤ 64 - n := by
 simp [rowB]
theorem Yno (a pb : Nat) (at_ n : Int) (w : World) (M : Mem) (hM : Ym w a pb M) (h : rowB at_ n = true) :
  Calls Tryz.prog 29 #[.pointer (some ⟨a, 0, none⟩), .int .i64 at_, .int .i64 n] w fun e w' =>
   ∃ c, e = .returned (.tuple #[.slice (some ⟨pb, at_.toNat * 257, none⟩) n.toNat c, .bool true]) ∧ w = w' := by
 obtain ⟨h1, h2, h3, h4⟩ := (Ygf at_ n).1 h
 clear h
 obtain ⟨c, hc, c0⟩ := hM.c0
 have hcp : ¬ c = at_.toNat := by omega
 clear hM
 go_enter Tryz.func29, Tryz.ntmps29
 go_wp2
 go_ret2
 refine ⟨c - at_.toNat, ?_, rfl⟩
 have e : (at_ + n).toNat - at_.toNat = n.toNat := by omega
 simp [e]
theorem row_no (a pb : Nat) (at_ n : Int) (w : World) (M : Mem) (hM : Ym w a pb M) (h : rowB at_ n = false) (hn : -9223372036854775808 ≤ n) :
  Calls Tryz.prog 29 #[.pointer (some ⟨a, 0, none⟩), .int .i64 at_, .int .i64 n] w fun e w' =>
   e = .returned (.tuple #[.slice none 0 0, .bool false]) ∧ w = w' := by
 clear hM
 by_cases h1 : at_ < 0
 ·clear h
  go_enter Tryz.func29, Tryz.ntmps29
  go_wp2
  go_ret2
  exact ⟨rfl, rfl⟩
 ·by_cases h2 : n < 1
  ·clear h
   go_enter Tryz.func29, Tryz.ntmps29
   go_wp2
   go_ret2
   exact ⟨rfl, rfl⟩
  ·by_cases h3 : 64 < n
   ·clear h
    go_enter Tryz.func29, Tryz.ntmps29
    go_wp2
    go_ret2
    exact ⟨rfl, rfl⟩
   ·have h4 : 64 - n < at_ := by
     have : ¬ rowB at_ n = true := by simp [h]
     rw [Ygf] at this
     omega
    clear h
    go_enter Tryz.func29, Tryz.ntmps29
    go_wp2
    go_ret2
    exact ⟨rfl, rfl⟩
def Mem.rights (M : Mem) (p : Int) : Int := if p < 0 ∨ 64 ≤ p then 0 else M.R p.toNat
def Mem.can (M : Mem) (a right : Int) : Bool := decide (a < 16384) && !(bits .and .i64 (M.R (a / 256).toNat) right == 0)
def Ycq (a : Int) : Nat := (a / 256).toNat * 257 + 1 + (a % 256).toNat
theorem at_ok (a pb : Nat) (x right : Int) (w : World) (M : Mem) (hM : Ym w a pb M) (h0 : 0 ≤ x) (h : M.can x right = true) :
  Calls Tryz.prog 35 #[.pointer (some ⟨a, 0, none⟩), .int .u32 x, .int .i64 right] w fun e w' => e = .returned (.pointer (some ⟨pb, Ycq x, none⟩)) ∧ w = w' := by
 simp only [Mem.can, Bool.and_eq_true, decide_eq_true_eq, Bool.not_eq_true'] at h
 obtain ⟨h1, h2⟩ := h
 obtain ⟨c, hc, c0⟩ := hM.c0
 have cR := hM.cR (x / 256).toNat (by omega)
 clear hM
 go_enter Tryz.func35, Tryz.ntmps35
 go_wp2
 go_ret
 exact ⟨rfl, rfl⟩
def Yb8 (x right : Int) : Value := .agg #[.int .i64 1, .int .u32 0, .int .u32 x, .int .i64 right]
theorem Yis (a pb : Nat) (x right : Int) (w : World) (M : Mem) (hM : Ym w a pb M) (h0 : 0 ≤ x) (h : M.can x right = false) :
  Calls Tryz.prog 35 #[.pointer (some ⟨a, 0, none⟩), .int .u32 x, .int .i64 right] w fun e w' => e = .panicked [{ v := .iface 35 (Yb8 x right), recovered := false }] ∧ w = w' := by
 by_cases h1 : 16384 ≤ x
 ·clear hM h
  go_enter Tryz.func35, Tryz.ntmps35
  go_wp2
  exact ⟨rfl, rfl, rfl⟩
 ·have h2 : (bits .and .i64 (M.R (x / 256).toNat) right == 0) = true := by
   simpa [Mem.can, show x < 16384 by omega] using h
  obtain ⟨c, hc, c0⟩ := hM.c0
  have cR := hM.cR (x / 256).toNat (by omega)
  clear hM h
  go_enter Tryz.func35, Tryz.ntmps35
  go_wp2
  exact ⟨rfl, rfl, rfl⟩
def Mem.mappedB (M : Mem) (x : Int) : Bool := decide (x < 16384) && (M.R (x / 256).toNat != 0)
theorem Yie (a pb : Nat) (x : Int) (w : World) (M : Mem) (hM : Ym w a pb M) (h0 : 0 ≤ x) :
  Calls Tryz.prog 36 #[.pointer (some ⟨a, 0, none⟩), .int .u32 x] w fun e w' => e = .returned (.bool (M.mappedB x)) ∧ w = w' := by
 by_cases h1 : x < 16384
 ·obtain ⟨c, hc, c0⟩ := hM.c0
  have cR := hM.cR (x / 256).toNat (by omega)
  clear hM
  go_enter Tryz.func36, Tryz.ntmps36
  go_wp2
  go_ret
  refine ⟨?_, rfl⟩
  rw [Mem.mappedB, decide_eq_true h1, Bool.true_and]
  rfl
 ·clear hM
  go_enter Tryz.func36, Tryz.ntmps36
  go_wp2
  go_ret
  refine ⟨?_, rfl⟩
  rw [Mem.mappedB, decide_eq_false (by omega)]
  rfl
def Ybv : Array Value := #[Value.int .i64 0] ++ Array.replicate 256 (Value.int .u8 0)
theorem Ydd : Ybv.size = 257 := by simp [Ybv]
theorem Yjf : Tryz.t80.zero = some (.agg Ybv) := by kernel_rfl
theorem Ykv (k : Nat) : Ybv[k % Ybv.size]! = Mem.zero.at_ k := by
 have hm := Nat.mod_lt k (show 257 > 0 by decide)
 rw [Ydd, getElem!_pos _ _ (by rw [Ydd]; exact hm)]
 by_cases e : k % 257 = 0
 ·simp [e, Mem.at_, Mem.zero, Ybv]
 ·simp only [Mem.at_, e, if_false, Mem.zero, Ybv]
  rw [Array.getElem_append_right (by simp; omega)]
  simp
theorem Ypb (n : Nat) (hn : n = 16448) : madeCells Ybv n = Mem.zero.cells := by
 have h : madeCells Ybv n = (Array.range n).map Mem.zero.at_ := congrArg (fun f => (Array.range n).map f) (funext Ykv)
 rw [h, hn, Mem.cells]
theorem Ypi : Tryz.prog.info? 80 = some Tryz.t80 := by kernel_rfl
theorem Yi3 (w : World) : (Instr.makeSlice 71 (.int .i64 64) (.int .i64 64)).run Tryz.prog w = .ok (.slice (some ⟨w.heap.size, 0, none⟩) 64 64) (w.alloc (.cells Mem.zero.cells 80 (0, 0))) := by
 have h := run_make (P := Tryz.prog) w 71 80 Tryz.t80 (.agg Ybv) Tryz.underlying71 Ypi Yjf .i64 .i64 64 64 (by decide) (by decide) (by decide) (by decide)
 have hz : (Value.agg Ybv).cells = Ybv := rfl
 rw [hz, Ypb _ (by decide)] at h
 exact h
theorem Yit (w : World) :
  Calls Tryz.prog 13 #[] w fun e w' => ∃ a pb, e = .returned (.pointer (some ⟨a, 0, none⟩)) ∧ w.heap.size ≤ a ∧ w.heap.size ≤ pb ∧ Ym w' a pb Mem.zero ∧ Upd [] w w' := by
 have hmk := Yi3
 go_enter Tryz.func13, Tryz.ntmps13
 go_wp2
 go_ret
 refine ⟨w.heap.size + 1, w.heap.size, rfl, ?_, ?_, ?_, ?_⟩
 ·omega
 ·omega
 ·exact ⟨⟨64, Nat.le_refl _, heap_alloc2_new _ _ _⟩, ⟨_, Ydf.cells _, heap_alloc2_old _ _ _⟩, Mem.zero_ok⟩
 ·exact ((Upd.refl _ _).alloc _).alloc _
theorem Mem.page0 (M : Mem) (p : Nat) : (M.page p)[0]? = some (.int .i64 (M.R p)) := by
 simp [Mem.page, Mem.at_]
theorem Yn5 {w : World} {a pb : Nat} {M : Mem} (h : Ym w a pb M) (p : Nat) (hp : p < 64) : w.rangeAt pb (p * 257) (M.page p).toList := by
 intro j v hv
 have hj : j < 257 := by
  by_cases hl : j < 257
  ·exact hl
  ·have : (M.page p).toList.length ≤ j := by simp [Mem.size_page]; omega
   rw [List.getElem?_eq_none this] at hv; cases hv
 obtain ⟨C, h2, h3⟩ := h.pg
 rw [Ya h3, h2.get _ (by omega)]
 simp [Mem.page, hj] at hv
 rw [hv]
theorem Yi9 : (Tryz.prog.info? 80).map (·.size) = some 257 := by kernel_rfl
theorem all1_any (M : Mem) (p bb : Nat) (mapped : Bool) (w : World) (hb : w.heap[bb]? = some (.cells #[.bool mapped] 4 (0, 0))) :
  Calls Tryz.prog 44 #[.agg (M.page p), .pointer (some ⟨bb, 0, none⟩)] w fun e w' => e = .returned (.bool ((M.R p != 0) != mapped)) ∧ Upd [] w w' := by
 have hlt := Yk hb
 have hc : w.cell? ⟨bb, 0, none⟩ = some (.bool mapped) := by rw [Ya hb]; rfl
 clear hb
 have h0 := M.page0 p
 go_enter Tryz.func44, Tryz.ntmps44
 go_wp2
 go_ret
 refine ⟨?_, (Upd.refl _ _).alloc _⟩
 simp [bne]
def Mem.odd (M : Mem) (mapped : Bool) (p : Nat) : Bool := (M.R p != 0) != mapped
theorem Yjl (M : Mem) (a pb p n c bb : Nat) (mapped : Bool) (w : World) (hM : Ym w a pb M) (hb : w.heap[bb]? = some (.cells #[.bool mapped] 4 (0, 0))) (hn : p + n ≤ 64) :
  Calls Tryz.prog 59 #[.slice (some ⟨pb, p * 257, none⟩) n c, .func (.func 44) #[] #[.pointer (some ⟨bb, 0, none⟩)]] w fun e w' =>
   ∃ k : Int, e = .returned (.int .i64 k) ∧ decide (0 ≤ k) = (List.range n).any (fun i => M.odd mapped (p + i)) ∧ Upd [] w w' := by
 go_enter Tryz.func59, Tryz.ntmps59
 go_wp2
 go_loopw [5, 8] (fun _ i wr => ∃ k : Nat, k ≤ n ∧ i = .int .i64 k ∧ (∀ j, j < k → M.odd mapped (p + j) = false) ∧ Upd [] w wr) (fun _ i _ => n - (intOf i).toNat)
 case atStart => exact ⟨0, Nat.zero_le _, rfl, by simp, Upd.refl _ _⟩
 case round =>
  obtain ⟨k, hk, rfl, hno, hU⟩ := hrel
  have hM' := hM.keep hU (by simp) (by simp)
  have hb' := hU.get hb (by simp)
  have HN := Yh_ hno
  clear hno hb
  by_cases hlt : k < n
  ·have hr := Yn5 hM' (p + k) (by omega)
   rw [Nat.add_mul] at hr
   have HR := Yh_ hr
   clear hr
   go_wp2_with (first | (refine Yfq rfl 80 _ rfl pb (p * 257 + k * 257) rfl (M.page (p + k)) _ HR.out Tryz.underlying80 rfl (by rw [M.size_page]; exact Yi9) ?_) | (go_at_call 44; refine (all1_any M (p + k) bb mapped wr hb').mono ?_; rintro e w1 ⟨rfl, hU1⟩))
   ·rename_i ht
    go_ret
    refine ⟨k, rfl, ?_, hU.trans hU1 (by simp) (by simp)⟩
    symm
    simp only [Int.natCast_nonneg, decide_true, List.any_eq_true, List.mem_range]
    exact ⟨k, hlt, ht⟩
   ·rename_i ht
    go_roundw
    case rel =>
     refine ⟨k + 1, by omega, by go_num, ?_, hU.trans hU1 (by simp) (by simp)⟩
     intro j hj
     by_cases e : j = k
     ·subst e; exact ht
     ·exact HN.out j (by omega)
    case measure => simp [intOf]; omega
  ·go_wp2
   go_ret
   refine ⟨-1, rfl, ?_, hU⟩
   symm
   rw [show decide (0 ≤ (-1 : Int)) = false from by decide, List.any_eq_false]
   intro i hi
   rw [HN.out i (by have := List.mem_range.1 hi; omega)]
   simp
theorem Yh4 (M : Mem) (a pb p n c bb : Nat) (mapped : Bool) (w : World) (hM : Ym w a pb M) (hb : w.heap[bb]? = some (.cells #[.bool mapped] 4 (0, 0))) (hn : p + n ≤ 64) :
  Calls Tryz.prog 43 #[.slice (some ⟨pb, p * 257, none⟩) n c, .func (.func 44) #[] #[.pointer (some ⟨bb, 0, none⟩)]] w fun e w' =>
   e = .returned (.bool ((List.range n).any (fun i => M.odd mapped (p + i)))) ∧ Upd [] w w' := by
 go_enter Tryz.func43, Tryz.ntmps43
 go_wp2_with (go_at_call 59; refine (Yjl M a pb p n c bb mapped w hM hb hn).mono ?_; rintro e w' ⟨k, rfl, hk, hU⟩; have HK := Yh_ hk; clear hk)
 go_ret
 refine ⟨?_, hU⟩
 rw [← HK.out]
 rfl
def Mem.all (M : Mem) (at_ n : Int) (mapped : Bool) : Bool :=
 rowB at_ n && !((List.range n.toNat).any (fun i => M.odd mapped (at_.toNat + i)))
theorem Yns (M : Mem) (a pb : Nat) (at_ n : Int) (mapped : Bool) (w : World) (hM : Ym w a pb M) (hn : -9223372036854775808 ≤ n) :
  Calls Tryz.prog 28 #[.pointer (some ⟨a, 0, none⟩), .int .i64 at_, .int .i64 n, .bool mapped] w fun e w' =>
   e = .returned (.bool (M.all at_ n mapped)) ∧ Upd [] w w' := by
 have hmf : ∀ (fn : Fn) (first cap : Array Value) (w : World), (Instr.makeFunc fn first cap).run Tryz.prog w = .ok (.func fn first cap) w := fun _ _ _ _ => rfl
 cases hb : rowB at_ n
 ·have HB := Yh_ hb
  clear hb
  go_enter Tryz.func28, Tryz.ntmps28
  go_wp2_with (first | (go_at_call 29; refine (row_no a pb at_ n _ M (hM.keep ((Upd.refl [] _).alloc _) (by simp) (by simp)) HB.out hn).mono ?_; rintro e w' ⟨rfl, rfl⟩))
  go_ret
  refine ⟨?_, (Upd.refl _ _).alloc _⟩
  rw [Mem.all, HB.out]
  rfl
 ·have h4 := (Ygf at_ n).1 hb
  obtain ⟨g1, g2, g3, g4⟩ := h4
  have HB := Yh_ hb
  clear hb
  have hM1 : Ym (w.alloc (.cells #[.bool mapped] 4 (0, 0))) a pb M := hM.keep ((Upd.refl [] _).alloc _) (by simp) (by simp)
  have hb1 : (w.alloc (.cells #[.bool mapped] 4 (0, 0))).heap[w.heap.size]? = some (.cells #[.bool mapped] 4 (0, 0)) := heap_alloc_new _ _
  have HB1 := Yh_ hb1
  clear hb1
  go_enter Tryz.func28, Tryz.ntmps28
  go_wp2_with (first | (go_at_call 29; refine (Yno a pb at_ n _ M hM1 HB.out).mono ?_; rintro e w' ⟨cc, rfl, rfl⟩) | (go_at_call 43; refine (Yh4 M a pb at_.toNat n.toNat _ w.heap.size mapped _ hM1 HB1.out (by omega)).mono ?_; rintro e w' ⟨rfl, hU⟩))
  go_ret
  refine ⟨?_, ((Upd.refl [] _).alloc _).trans hU (by simp) (by simp)⟩
  rw [Mem.all, HB.out]
  rfl
def Mem.mapN (M : Mem) (p k : Nat) (r : Int) : Mem :=
 ⟨fun q => if p ≤ q ∧ q < p + k then r else M.R q, fun x => if p ≤ x / 256 ∧ x / 256 < p + k then 0 else M.B x⟩
theorem Mem.mapN_zero (M : Mem) (p : Nat) (r : Int) : M.mapN p 0 r = M := by
 apply Mem.ext'
 ·funext q; simp only [Mem.mapN]; rw [if_neg (by omega)]
 ·funext x; simp only [Mem.mapN]; rw [if_neg (by omega)]
theorem Mem.mapN_succ (M : Mem) (p k : Nat) (r : Int) : (M.mapN p k r).setPage (p + k) ⟨fun _ => r, fun _ => 0⟩ = M.mapN p (k + 1) r := by
 apply Mem.ext'
 ·funext q
  simp only [Mem.mapN, Mem.setPage]
  by_cases e : q = p + k
  ·rw [if_pos e, if_pos (by omega)]
  ·rw [if_neg e]
   by_cases h : p ≤ q ∧ q < p + k
   ·rw [if_pos h, if_pos (by omega)]
   ·rw [if_neg h, if_neg (by omega)]
 ·funext x
  simp only [Mem.mapN, Mem.setPage]
  by_cases e : x / 256 = p + k
  ·rw [if_pos e, if_pos (by omega)]
  ·rw [if_neg e]
   by_cases h : p ≤ x / 256 ∧ x / 256 < p + k
   ·rw [if_pos h, if_pos (by omega)]
   ·rw [if_neg h, if_neg (by omega)]
def Mem.mapB (M : Mem) (at_ n r : Int) : Bool := Ye8 r && M.all at_ n false
def Yce (r : Int) : Mem := ⟨fun _ => r, fun _ => 0⟩
theorem Ynb (r : Int) : Ybv.setIfInBounds 0 (.int .i64 r) = (Yce r).page 0 := by
 apply Array.ext_getElem?
 intro k
 rw [Array.getElem?_setIfInBounds, Ydd]
 by_cases hk : k < 257
 ·rw [Mem.page, Array.getElem?_map, Array.getElem?_range, if_pos hk]
  by_cases e : k = 0
  ·subst e; simp [Mem.at_, Yce]
  ·rw [if_neg (by omega), Ybv, Array.getElem?_append_right (by simp; omega), Array.getElem?_replicate, if_pos (by simp; omega)]
   have : ¬ (0 * 257 + k) % 257 = 0 := by omega
   simp [Mem.at_, Yce, this]
   omega
 ·rw [if_neg (by omega), Array.getElem?_eq_none (by rw [Ydd]; omega), Array.getElem?_eq_none (by rw [Mem.size_page]; omega)]
theorem Yoi (r : Int) (w : World) : (Instr.build 80 #[(0, .int .i64 r)]).run Tryz.prog w = .ok (.agg ((Yce r).page 0)) w := by
 rw [← Ynb]
 have hz : (zeroValue 80).run Tryz.prog w = .ok (.agg Ybv) w := by
  simp [zeroValue, Yjf]
 unfold Instr.build
 simp only [Sem.run_bind, hz, Result.andThen_ok, Tryz.runUnderlying80]
 simp only [Array.mapM_eq_mapM_toList, List.mapM_cons, List.mapM_nil, Sem.run_bind, Sem.run_pure, Result.andThen_ok, Tryz.sizeOf3, Tryz.sizeOf78, Sem.run_map]
 have hf : Instr.fill (fun x => (#[(0, 1), (1, 256)] : Array (Nat × Nat))[x]?) (Value.agg Ybv).cells [(0, Value.int .i64 r)] = some (Ybv.setIfInBounds 0 (Value.int .i64 r)) := by
  simp [Instr.fill, Value.cells, Ydd]
 rw [hf]
 rfl
theorem Map_no (M : Mem) (a pb : Nat) (at_ n r : Int) (w : World) (hM : Ym w a pb M) (hn : -9223372036854775808 ≤ n) (h : M.mapB at_ n r = false) :
  Calls Tryz.prog 14 #[.pointer (some ⟨a, 0, none⟩), .int .i64 at_, .int .i64 n, .int .i64 r] w fun e w' => e = .returned (.int .i64 61) ∧ Upd [] w w' := by
 cases hr : Ye8 r
 ·have HR := Yh_ hr
  clear hr h
  go_enter Tryz.func14, Tryz.ntmps14
  go_wp2_with (first | (go_at_call 27; refine (Yfi r _).mono ?_; rintro e w' ⟨rfl, rfl⟩; rw [HR.out]))
  go_ret
  exact ⟨rfl, Upd.refl _ _⟩
 ·have ha : M.all at_ n false = false := by simpa [Mem.mapB, hr] using h
  have HR := Yh_ hr
  have HA := Yh_ ha
  clear hr h ha
  go_enter Tryz.func14, Tryz.ntmps14
  go_wp2_with (first | (go_at_call 27; refine (Yfi r _).mono ?_; rintro e w' ⟨rfl, rfl⟩; rw [HR.out]) | (go_at_call 28; refine (Yns M a pb at_ n false _ hM hn).mono ?_; rintro e w' ⟨rfl, hU⟩; rw [HA.out]))
  go_ret
  exact ⟨rfl, hU⟩
theorem Ym.setPage {w : World} {a pb : Nat} {M : Mem} (h : Ym w a pb M) (p : Nat) (N : Mem) (q : Nat) (hp : p < 64) (hN : N.page q = (N.page p)) (hok : N.Ok) :
  Ym (w.setCells pb (p * 257) (N.page q).toList) a pb (M.setPage p N) := by
 refine h.wr _ _ ?_ ?_ ⟨fun q => by simp only [Mem.setPage]; split; exact hok.R p; exact h.ok.R q, fun x => by simp only [Mem.setPage]; split; exact hok.B x; exact h.ok.B x⟩
 ·rw [Array.length_toList, Mem.size_page]; omega
 ·rw [hN, Mem.wr_page _ _ _ hp]
theorem Yoa {r : Int} (h : 1 ≤ r ∧ r ≤ 7) : (Yce r).Ok := ⟨fun _ => by simp only [Yce]; omega, fun _ => by simp [Yce]⟩
theorem Yk5 (r : Int) (q p : Nat) : (Yce r).page q = (Yce r).page p := by
 unfold Mem.page
 have h : (fun j => (Yce r).at_ (q * 257 + j)) = (fun j => (Yce r).at_ (p * 257 + j)) := by
  funext j
  have h1 : ∀ i, (i * 257 + j) % 257 = j % 257 := fun i => by rw [Nat.mul_comm]; exact Nat.mul_add_mod _ _ _
  simp only [Mem.at_, Yce, h1]
 rw [h]
theorem Map_yes (M : Mem) (a pb : Nat) (at_ n r : Int) (w : World) (hM : Ym w a pb M) (hn : -9223372036854775808 ≤ n) (h : M.mapB at_ n r = true) :
  Calls Tryz.prog 14 #[.pointer (some ⟨a, 0, none⟩), .int .i64 at_, .int .i64 n, .int .i64 r] w fun e w' => e = .returned (.int .i64 0) ∧ Ym w' a pb (M.mapN at_.toNat n.toNat r) ∧ Upd [pb] w w' := by
 simp only [Mem.mapB, Bool.and_eq_true] at h
 obtain ⟨hr, ha⟩ := h
 have hrow : rowB at_ n = true := by
  simp only [Mem.all, Bool.and_eq_true] at ha; exact ha.1
 obtain ⟨g1, g2, g3, g4⟩ := (Ygf at_ n).1 hrow
 have HR := Yh_ hr
 have HA := Yh_ ha
 have HW := Yh_ hrow
 clear hr ha hrow
 obtain ⟨p, rfl⟩ := Int.eq_ofNat_of_zero_le g1
 obtain ⟨k, rfl⟩ := Int.eq_ofNat_of_zero_le (show 0 ≤ n by omega)
 rw [Int.toNat_natCast, Int.toNat_natCast]
 go_enter Tryz.func14, Tryz.ntmps14
 go_wp2_with (first | (go_at_call 27; refine (Yfi r _).mono ?_; rintro e w' ⟨rfl, rfl⟩; rw [HR.out]) | (go_at_call 28; refine (Yns M a pb p k false _ hM hn).mono ?_; rintro e w1 ⟨rfl, hU⟩; rw [HA.out]; have hM1 := hM.keep hU (by simp) (by simp); have HU := Yh_ hU; have HM1 := Yh_ hM1; clear hU hM1) | (go_at_call 29; refine (Yno a pb p k _ M HM1.out HW.out).mono ?_; rintro e w2 ⟨cc, rfl, rfl⟩; rw [Int.toNat_natCast, Int.toNat_natCast]))
 go_loopw [11, 31] (fun _ i wr => ∃ j : Nat, j ≤ k ∧ i = .int .i64 j ∧ Ym wr a pb (M.mapN p j r) ∧ Upd [pb] w wr) (fun _ i _ => k - (intOf i).toNat)
 case atStart => exact ⟨0, Nat.zero_le _, rfl, by rw [Mem.mapN_zero]; exact HM1.out, HU.out.mono (by simp)⟩
 case round =>
  obtain ⟨j, hj, rfl, hMj, hUj⟩ := hrel
  have HMj := Yh_ hMj
  have HUj := Yh_ hUj
  clear hMj hUj
  by_cases hlt : j < k
  ·obtain ⟨CC, hpg1, hpg2⟩ := HMj.out.pg
   have HP1 := Yh_ hpg1
   have HP := Yh_ hpg2
   clear hpg1 hpg2
   go_wp2_with (first | (refine Yjx rfl 80 _ rfl [(0, .int .i64 r)] rfl _ (Yoi r _) ?_) | (refine Ycl rfl 80 _ _ rfl pb (p * 257 + j * 257) ((Yce r).page 0) rfl rfl HP.out (by have := HP1.out.size; rw [Mem.size_page]; omega) (by rw [Mem.size_page]; exact Yi9) (Mem.page_one _ _) ?_))
   go_roundw
   case rel =>
    refine ⟨j + 1, by omega, by go_num, ?_, HUj.out.setCells (by simp) _ _⟩
    have h := HMj.out.setPage (p + j) (Yce r) 0 (by omega) (Yk5 _ _ _) (Yoa ((Ylk r).1 HR.out))
    rw [show (p + j) * 257 = p * 257 + j * 257 from by omega] at h
    rw [← Mem.mapN_succ]
    exact h
   case measure => simp [intOf]; omega
  ·go_wp2
   go_ret
   have e : j = k := by omega
   subst e
   exact ⟨rfl, HMj.out, HUj.out⟩
end Go.Proofs.YthakgjpejhjaoaaGreat
