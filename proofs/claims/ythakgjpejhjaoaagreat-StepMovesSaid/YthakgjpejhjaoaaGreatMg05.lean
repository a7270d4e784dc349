/-
  Parts of the proof (their names shortened by a program). No condition.
-/
import Derived.Test.YthakgjpejhjaoaaGreatMg01
import Derived.Test.YthakgjpejhjaoaaGreatMg02
import Derived.Test.YthakgjpejhjaoaaGreatMg04
import Derived.Outline
namespace Go.Proofs.YthakgjpejhjaoaaGreat
open Go Go.RowKit
set_option linter.unusedVariables false
set_option linter.unusedSimpArgs false
set_option maxRecDepth 100000
set_option maxHeartbeats 16000000
section
def Yah (d : Nat → Bool) (i : Nat) : Nat → Bool := fun j => if j = i then true else d j
def Yc1 (listed : Array Bool) : Nat → Bool := fun j => listed.getD j false
theorem Yhh {listed : Array Bool} {i : Nat} (h : i < listed.size) : Yc1 (listed.setIfInBounds i true) = Yah (Yc1 listed) i := by
 funext j
 simp only [Yc1, Yah]
 by_cases e : j = i
 ·subst e; simp [h]
 ·rw [if_neg e, getD_set_ne false (fun h => e h.symm)]
theorem Yit (n : Nat) : Yc1 (Array.replicate n false) = fun _ => false := by
 funext j; exact getD_replicate_false _ _
def Yep (P : Program) (ops : Array Oper) (B : (Nat → Bool) → World → Prop) (X : List PanicEntry → World → Prop) (fin : List Nat → Act → Prop) : List Nat → Nat → List Oper → Act → Prop
 |dead, _, [], a => fin dead a
 |dead, i, o :: rest, a =>
  (Yaq dead o = true ∧ Yep P ops B X fin (i :: dead) (i + 1) rest a) ∨
  (Yaq dead o = false ∧ Region.wanted o (yielded ops a.tmps) = true ∧ ∃ v, (∀ d w, d i = false → B d w → o.wp P a w (fun a' w' => a' = a.put o.dst v ∧ B (Yah d i) w') (PX X)) ∧ Yep P ops B X fin dead (i + 1) rest (a.put o.dst v)) ∨
  (Yaq dead o = false ∧ Region.wanted o (yielded ops a.tmps) = true ∧ (∀ d w, d i = false → B d w → o.wp P a w (fun _ _ => False) (PX X)) ∧ Yep P ops B X fin (i :: dead) (i + 1) rest a) ∨
  (Yaq dead o = false ∧ Region.wanted o (yielded ops a.tmps) = false ∧ (∀ d w, d i = false → B d w → B (Yah d i) w) ∧ Yep P ops B X fin dead (i + 1) rest (a.put o.dst undef))
section
variable {P : Program} {ops : Array Oper} {B : (Nat → Bool) → World → Prop} {X : List PanicEntry → World → Prop} {fin : List Nat → Act → Prop} {dead : List Nat} {i : Nat} {o : Oper} {rest : List Oper} {a : Act}
theorem Yf7 (h : fin dead a) : Yep P ops B X fin dead i [] a := h
theorem Ya4 {a2 : Act} (hd : Yaq dead o = false) (hw : Region.wanted o (yielded ops a.tmps) = true)
  (h : ∀ (d : Nat → Bool) (K : Act → World → Prop), d i = false → (∀ w', B (Yah d i) w' → K a2 w') → ∀ w, B d w → o.wp P a w K (PX X))
  (hv : ∃ v, a2 = a.put o.dst v) (k : Yep P ops B X fin dead (i + 1) rest a2) : Yep P ops B X fin dead i (o :: rest) a := by
 obtain ⟨v, rfl⟩ := hv
 exact .inr (.inl ⟨hd, hw, v, fun d w hdi hB => h d _ hdi (fun w' hB' => ⟨rfl, hB'⟩) w hB, k⟩)
theorem Yor (hd : Yaq dead o = false) (hw : Region.wanted o (yielded ops a.tmps) = false) (hs : ∀ d w, d i = false → B d w → B (Yah d i) w) (k : Yep P ops B X fin dead (i + 1) rest (a.put o.dst undef)) : Yep P ops B X fin dead i (o :: rest) a :=
 .inr (.inr (.inr ⟨hd, hw, hs, k⟩))
end
structure Yie (P : Program) (ops : Array Oper) (B : (Nat → Bool) → World → Prop) (X : List PanicEntry → World → Prop) (i n : Nat) (dead : List Nat) (a F : Act) (vs : Nat → Value) : Prop where
 live : ∀ (j : Nat) (o : Oper), i ≤ j → j < n → ops[j]? = some o → j ∉ dead →
  Yaq dead o = false ∧ ((Region.wanted o (yielded ops F.tmps) = true ∧ ∀ d w, d j = false → B d w → Ydc P o F w (fun v w' => same o.dst a.tmps.size v (vs j) ∧ B (Yah d j) w') X) ∨ (Region.wanted o (yielded ops F.tmps) = false ∧ vs j = undef ∧ ∀ d w, d j = false → B d w → B (Yah d j) w))
 died : ∀ (j : Nat) (o : Oper), i ≤ j → j < n → ops[j]? = some o → j ∈ dead →
  Yaq dead o = true ∨ (Region.wanted o (yielded ops F.tmps) = true ∧ ∀ d w, d j = false → B d w → Ydc P o F w (fun _ _ => False) X)
 defers : F.defers = a.defers
 size : F.tmps.size = a.tmps.size
 old : ∀ t, (∀ (j : Nat) (oj : Oper), i ≤ j → j < n → ops[j]? = some oj → oj.dst = some t → j ∈ dead) → F.tmps[t]? = a.tmps[t]?
 new : ∀ (j : Nat) (oj : Oper) t, i ≤ j → j < n → ops[j]? = some oj → j ∉ dead → oj.dst = some t → t < a.tmps.size → F.tmps[t]? = some (vs j)
theorem Ye5 {P : Program} {ops : Array Oper} {B : (Nat → Bool) → World → Prop} {X : List PanicEntry → World → Prop} {fin : List Nat → Act → Prop} {n : Nat} (hk : Ye8 ops n) :
  ∀ (l : List Oper) (i : Nat) (dead : List Nat) (a : Act), (∀ j, j < l.length → l[j]? = ops[i + j]?) → i + l.length = n → (∀ d, d ∈ dead → d < i) → Yep P ops B X fin dead i l a →
  ∃ (vs : Nat → Value) (dead' : List Nat) (F : Act), fin dead' F ∧ Yie P ops B X i n dead' a F vs ∧ (∀ d, d < i → (d ∈ dead' ↔ d ∈ dead)) ∧ (∀ d, d ∈ dead' → d < n)
 |[], i, dead, a, _, hn, hd, h => by
  have hin : i = n := by simpa using hn
  refine ⟨fun _ => undef, dead, a, h, ⟨?_, ?_, rfl, rfl, fun _ _ => rfl, ?_⟩, fun _ _ => Iff.rfl, fun d hdd => by have := hd d hdd; omega⟩
  ·intro j o h1 h2; omega
  ·intro j o h1 h2; omega
  ·intro j oj t h1 h2; omega
 |o :: l, i, dead, a, hl, hn, hd, h => by
  simp only [List.length_cons] at hn
  have ho : ops[i]? = some o := by simpa using (hl 0 (by simp)).symm
  have hin : i < n := by omega
  have hl' : ∀ j, j < l.length → l[j]? = ops[i + 1 + j]? := fun j hj => by
   have := hl (j + 1) (by simpa using hj)
   simpa [Nat.add_assoc, Nat.add_comm 1 j] using this
  have haft := hk.after i o hin ho
  -- what the operation looks at stands to the end
  have hstay : ∀ (F b : Act) (dead' : List Nat) (vs : Nat → Value), Yie P ops B X (i + 1) n dead' b F vs → (∀ t, t ∈ o.looksAt ops → b.tmps[t]? = a.tmps[t]?) → ∀ t, t ∈ o.looksAt ops → a.tmps[t]? = F.tmps[t]? := by
   intro F b dead' vs hr hb t ht
   rw [hr.old t (fun j oj h1 h2 h3 h4 => absurd (hk.looks i o j oj t hin ho h2 h3 h4 ht).1 (by omega)), hb t ht]
  have hput : ∀ (v : Value) t, t ∈ o.looksAt ops → (a.put o.dst v).tmps[t]? = a.tmps[t]? := fun v t ht =>
   Ybs _ _ _ _ (fun he => absurd (hk.looks i o i o t hin ho hin ho he ht).1 (by omega))
  rcases h with ⟨hdd, h⟩ | ⟨hdd, hw, v, hv, h⟩ | ⟨hdd, hw, hv, h⟩ | ⟨hdd, hw, hsk, h⟩
  ·obtain ⟨vs, dead', F, hf, hr, hdi, hdn⟩ := Ye5 hk l (i + 1) (i :: dead) a hl' (by omega) (fun d hm => by
    rcases List.mem_cons.1 hm with rfl | hm
    ·omega
    ·have := hd d hm; omega) h
   have hmem : i ∈ dead' := (hdi i (by omega)).2 (by simp)
   have hdi' : ∀ d, d < i → (d ∈ dead' ↔ d ∈ dead) := fun d hlt => by
    rw [hdi d (by omega)]
    constructor
    ·intro hm; rcases List.mem_cons.1 hm with rfl | hm
     ·omega
     ·exact hm
    ·intro hm; exact List.mem_cons_of_mem _ hm
   refine ⟨vs, dead', F, hf, ⟨?_, ?_, hr.defers, hr.size, ?_, ?_⟩, hdi', hdn⟩
   ·intro j oj h1 h2 h3 h4
    by_cases e : j = i
    ·subst e; exact absurd hmem h4
    ·exact hr.live j oj (by omega) h2 h3 h4
   ·intro j oj h1 h2 h3 h4
    by_cases e : j = i
    ·subst e
     have : oj = o := Option.some.inj (h3.symm.trans ho)
     subst this
     left; rw [Ycg haft hdi']; exact hdd
    ·exact hr.died j oj (by omega) h2 h3 h4
   ·intro t ht; exact hr.old t (fun j oj h1 => ht j oj (by omega))
   ·intro j oj t h1 h2 h3 h4
    by_cases e : j = i
    ·subst e; exact absurd hmem h4
    ·exact hr.new j oj t (by omega) h2 h3 h4
  ·obtain ⟨vs, dead', F, hf, hr, hdi, hdn⟩ := Ye5 hk l (i + 1) dead _ hl' (by omega) (fun d hm => by have := hd d hm; omega) h
   have hmem : i ∉ dead' := fun hm => by have := hd i ((hdi i (by omega)).1 hm); omega
   have hs := Yb9 (hk.sel i o ho) (hstay F _ dead' vs hr (hput v))
   have hne : ∀ j, i + 1 ≤ j → (if j = i then v else vs j) = vs j := fun j hj => if_neg (by omega)
   refine ⟨fun j => if j = i then v else vs j, dead', F, hf, ⟨?_, ?_, by rw [hr.defers, Yb6], by rw [hr.size, Ya2], ?_, ?_⟩, fun d hlt => hdi d (by omega), hdn⟩
   ·intro j oj h1 h2 h3 h4
    by_cases e : j = i
    ·subst e
     have : oj = o := Option.some.inj (h3.symm.trans ho)
     subst this
     refine ⟨by rw [Ycg haft (fun d hlt => hdi d (by omega))]; exact hdd, .inl ⟨by rw [← hs.2]; exact hw, fun d w hd0 hB => ?_⟩⟩
     rw [← Yb3 hs.1]
     simp only [if_true]
     exact Ygr (hv d w hd0 hB)
    ·simp only [if_neg e]
     have := hr.live j oj (by omega) h2 h3 h4
     rwa [Ya2] at this
   ·intro j oj h1 h2 h3 h4
    by_cases e : j = i
    ·subst e; exact absurd h4 hmem
    ·exact hr.died j oj (by omega) h2 h3 h4
   ·intro t ht
    rw [hr.old t (fun j oj h1 => ht j oj (by omega)), Ybs _ _ _ _ (fun he => hmem (ht i o (Nat.le_refl _) hin ho he))]
   ·intro j oj t h1 h2 h3 h4 h5 h6
    by_cases e : j = i
    ·subst e
     have : oj = o := Option.some.inj (h3.symm.trans ho)
     subst this
     simp only [if_true]
     rw [hr.old t (fun k ok g1 g2 g3 g4 => absurd (hk.dst j oj k ok t h2 h3 g2 g3 g4 h5) (by omega)), h5, Ydg _ _ _ h6]
    ·simp only [if_neg e]; exact hr.new j oj t (by omega) h2 h3 h4 h5 (by rw [Ya2]; exact h6)
  ·obtain ⟨vs, dead', F, hf, hr, hdi, hdn⟩ := Ye5 hk l (i + 1) (i :: dead) a hl' (by omega) (fun d hm => by
    rcases List.mem_cons.1 hm with rfl | hm
    ·omega
    ·have := hd d hm; omega) h
   have hmem : i ∈ dead' := (hdi i (by omega)).2 (by simp)
   have hdi' : ∀ d, d < i → (d ∈ dead' ↔ d ∈ dead) := fun d hlt => by
    rw [hdi d (by omega)]
    constructor
    ·intro hm; rcases List.mem_cons.1 hm with rfl | hm
     ·omega
     ·exact hm
    ·intro hm; exact List.mem_cons_of_mem _ hm
   have hs := Yb9 (hk.sel i o ho) (hstay F _ dead' vs hr (fun _ _ => rfl))
   refine ⟨vs, dead', F, hf, ⟨?_, ?_, hr.defers, hr.size, ?_, ?_⟩, hdi', hdn⟩
   ·intro j oj h1 h2 h3 h4
    by_cases e : j = i
    ·subst e; exact absurd hmem h4
    ·exact hr.live j oj (by omega) h2 h3 h4
   ·intro j oj h1 h2 h3 h4
    by_cases e : j = i
    ·subst e
     have : oj = o := Option.some.inj (h3.symm.trans ho)
     subst this
     right
     refine ⟨by rw [← hs.2]; exact hw, fun d w hd0 hB => ?_⟩
     rw [← Yb3 hs.1]
     exact Yfw (hv d w hd0 hB)
    ·exact hr.died j oj (by omega) h2 h3 h4
   ·intro t ht; exact hr.old t (fun j oj h1 => ht j oj (by omega))
   ·intro j oj t h1 h2 h3 h4
    by_cases e : j = i
    ·subst e; exact absurd hmem h4
    ·exact hr.new j oj t (by omega) h2 h3 h4
  ·obtain ⟨vs, dead', F, hf, hr, hdi, hdn⟩ := Ye5 hk l (i + 1) dead _ hl' (by omega) (fun d hm => by have := hd d hm; omega) h
   have hmem : i ∉ dead' := fun hm => by have := hd i ((hdi i (by omega)).1 hm); omega
   have hs := Yb9 (hk.sel i o ho) (hstay F _ dead' vs hr (hput undef))
   refine ⟨fun j => if j = i then undef else vs j, dead', F, hf, ⟨?_, ?_, by rw [hr.defers, Yb6], by rw [hr.size, Ya2], ?_, ?_⟩, fun d hlt => hdi d (by omega), hdn⟩
   ·intro j oj h1 h2 h3 h4
    by_cases e : j = i
    ·subst e
     have : oj = o := Option.some.inj (h3.symm.trans ho)
     subst this
     refine ⟨by rw [Ycg haft (fun d hlt => hdi d (by omega))]; exact hdd, .inr ⟨by rw [← hs.2]; exact hw, by simp, hsk⟩⟩
    ·simp only [if_neg e]
     have := hr.live j oj (by omega) h2 h3 h4
     rwa [Ya2] at this
   ·intro j oj h1 h2 h3 h4
    by_cases e : j = i
    ·subst e; exact absurd h4 hmem
    ·exact hr.died j oj (by omega) h2 h3 h4
   ·intro t ht
    rw [hr.old t (fun j oj h1 => ht j oj (by omega)), Ybs _ _ _ _ (fun he => hmem (ht i o (Nat.le_refl _) hin ho he))]
   ·intro j oj t h1 h2 h3 h4 h5 h6
    by_cases e : j = i
    ·subst e
     have : oj = o := Option.some.inj (h3.symm.trans ho)
     subst this
     simp only [if_true]
     rw [hr.old t (fun k ok g1 g2 g3 g4 => absurd (hk.dst j oj k ok t h2 h3 g2 g3 g4 h5) (by omega)), h5, Ydg _ _ _ h6]
    ·simp only [if_neg e]; exact hr.new j oj t (by omega) h2 h3 h4 h5 (by rw [Ya2]; exact h6)
structure Ylr (ops : Array Oper) (B : (Nat → Bool) → World → Prop) (n : Nat) (dead : List Nat) (a0 F : Act) (listed : Array Bool) (a : Act) (w : World) : Prop where
 head : HeadInv .any ops n listed
 world : B (Yc1 listed) w
 defers : a.defers = a0.defers
 size : a.tmps.size = a0.tmps.size
 live : ∀ (j : Nat), j < n → listed.getD j false = true → j ∉ dead
 old : ∀ t, (∀ (j : Nat) (oj : Oper), j < n → ops[j]? = some oj → oj.dst = some t → listed.getD j false = false) → a.tmps[t]? = a0.tmps[t]?
 new : ∀ (j : Nat) (oj : Oper) t, j < n → ops[j]? = some oj → listed.getD j false = true → oj.dst = some t → a.tmps[t]? = F.tmps[t]?
theorem Yh7 {P : Program} {ops : Array Oper} {B : (Nat → Bool) → World → Prop} {X : List PanicEntry → World → Prop} {Q : Exit → Act → World → Prop} {n : Nat} {dead : List Nat} {a0 F : Act} {vs : Nat → Value}
  (hk : Ye8 ops n) (hr : Yie P ops B X 0 n dead a0 F vs) (hdn : ∀ d, d ∈ dead → d < n)
  (hwait : ∀ listed, HeadInv .any ops n listed → ∀ i, i < n → listed.getD i true = false → ∀ t, n ≤ t → t ∉ Region.ready .any ops listed)
  (hX : ∀ c a' w', X c w' → a'.defers = a0.defers → a'.tmps.size = a0.tmps.size → (∀ t, (∀ (j : Nat) (oj : Oper), j < n → ops[j]? = some oj → oj.dst ≠ some t) → a'.tmps[t]? = a0.tmps[t]?) → Q (.panic c) a' w')
  (hfin : ∀ listed w, HeadInv .any ops n listed → (∀ i, i < n → listed.getD i true = true) → dead = [] → B (Yc1 listed) w → wpAny P .any ops Q (ops.size - n) listed F w) :
  ∀ (m : Nat) (listed : Array Bool) (a : Act) (w : World), Yct n listed = m → Ylr ops B n dead a0 F listed a w → wpAny P .any ops Q (m + (ops.size - n)) listed a w
 |0, listed, a, w, hm, inv => by
  have hall := Ygd hm
  have hall' : ∀ i, i < n → listed.getD i false = true := fun i hi => by
   have h1 := hall i hi
   have h2 : i < listed.size := by rw [inv.head.size]; have := hk.le; omega
   simp [h2] at h1 ⊢; exact h1
  have hdead : dead = [] := by
   cases hde : dead with
   |nil => rfl
   |cons d r =>
    have hd : d ∈ dead := by rw [hde]; simp
    exact absurd hd (inv.live d (hdn d hd) (hall' d (hdn d hd)))
  have hF : a = F := by
   have h1 : a.tmps = F.tmps := by
    apply Array.ext_getElem?
    intro t
    by_cases h : ∃ (j : Nat) (oj : Oper), j < n ∧ ops[j]? = some oj ∧ oj.dst = some t
    ·obtain ⟨j, oj, h1, h2, h3⟩ := h
     exact inv.new j oj t h1 h2 (hall' j h1) h3
    ·rw [inv.old t (fun j oj h1 h2 h3 => absurd ⟨j, oj, h1, h2, h3⟩ h), hr.old t (fun j oj _ h1 h2 h3 => absurd ⟨j, oj, h1, h2, h3⟩ h)]
   have h2 : a.defers = F.defers := by rw [inv.defers, hr.defers]
   cases a; cases F; simp_all
  rw [Nat.zero_add, hF]
  exact hfin listed w inv.head hall hdead inv.world
 |m + 1, listed, a, w, hm, inv => by
  rw [show m + 1 + (ops.size - n) = (m + (ops.size - n)) + 1 by omega]
  obtain ⟨i0, hi0, hun0⟩ : ∃ i, i < n ∧ listed.getD i true = false := by
   have : (List.range n).countP (fun i => !listed.getD i true) ≠ 0 := by
    show Yct n listed ≠ 0
    omega
   rw [Ne, List.countP_eq_zero] at this
   simp only [Classical.not_forall] at this
   obtain ⟨i, hi, h⟩ := this
   exact ⟨i, List.mem_range.1 hi, by simpa using h⟩
  have hrd := Ygz hk inv.head.size i0 hi0 hun0
  refine ⟨fun h0 => ?_, fun i hi => ?_⟩
  ·obtain ⟨j, _, hj⟩ := hrd
   rw [h0] at hj; cases hj
  ·have hin : i < n := by
    rcases Nat.lt_or_ge i n with h | h
    ·exact h
    ·exact absurd hi (hwait listed inv.head i0 hi0 hun0 i h)
   obtain ⟨hun, o, ho, hall⟩ := mem_ready.1 hi
   have hunf : listed.getD i false = false := getD_both hun
   have hm' := Ygo hin hun
   -- what the operation looks at is as in the frame at the head's end
   have hlook : ∀ t, t ∈ o.looksAt ops → a.tmps[t]? = F.tmps[t]? := by
    intro t ht
    by_cases h : ∃ (j : Nat) (oj : Oper), j < n ∧ ops[j]? = some oj ∧ oj.dst = some t
    ·obtain ⟨j, oj, h1, h2, h3⟩ := h
     obtain ⟨_, e, he, hb, hon⟩ := hk.looks i o j oj t hin ho h1 h2 h3 ht
     exact inv.new j oj t h1 h2 (by rw [← hon]; exact hall e he hb) h3
    ·rw [inv.old t (fun j oj h1 h2 h3 => absurd ⟨j, oj, h1, h2, h3⟩ h), hr.old t (fun j oj _ h1 h2 h3 => absurd ⟨j, oj, h1, h2, h3⟩ h)]
   have hs := Yb9 (hk.sel i o ho) hlook
   have hnd : Yaq dead o = false := by
    rw [Bool.eq_false_iff]
    intro hd
    simp only [Yaq, List.any_eq_true, Bool.and_eq_true, List.contains_iff_mem, Array.mem_toList_iff] at hd
    obtain ⟨e, he, hb, hm⟩ := hd
    exact inv.live e.on (hdn _ hm) (hall e he hb) hm
   -- the next frame
   have hd0 : Yc1 listed i = false := hunf
   have hnext : ∀ (v : Value) (w' : World), B (Yah (Yc1 listed) i) w' → i ∉ dead → same o.dst a0.tmps.size v (vs i) → Ylr ops B n dead a0 F (listed.setIfInBounds i true) (a.put o.dst v) w' := by
    intro v w' hB hnot hv
    have hlt : i < listed.size := by rw [inv.head.size]; have := hk.le; omega
    refine ⟨inv.head.set hi hin, by rw [Yhh hlt]; exact hB, by rw [Yb6, inv.defers], by rw [Ya2, inv.size], ?_, ?_, ?_⟩
    ·intro j hj hl
     by_cases e : i = j
     ·subst e; exact hnot
     ·rw [getD_set_ne false e] at hl; exact inv.live j hj hl
    ·intro t ht
     have hne : o.dst ≠ some t := fun he => by
      have := ht i o hin ho he
      simp [hlt] at this
     rw [Ybs _ _ _ _ hne]
     refine inv.old t fun j oj h1 h2 h3 => ?_
     have := ht j oj h1 h2 h3
     by_cases e : i = j
     ·subst e; exact hunf
     ·rwa [getD_set_ne false e] at this
    ·intro j oj t h1 h2 h3 h4
     by_cases e : i = j
     ·subst e
      have : oj = o := Option.some.inj (h2.symm.trans ho)
      subst this
      rcases Nat.lt_or_ge t a.tmps.size with ht | ht
      ·rw [h4, Ydg _ _ _ ht, hr.new i oj t (Nat.zero_le _) hin ho hnot h4 (by rw [← inv.size]; exact ht), hv t h4 (by rw [← inv.size]; exact ht)]
      ·rw [Array.getElem?_eq_none (by rw [Ya2]; exact ht), Array.getElem?_eq_none (by rw [hr.size, ← inv.size]; exact ht)]
     ·rw [getD_set_ne false e] at h3
      have hne : o.dst ≠ some t := fun he => e (hk.dst i o j oj t hin ho h1 h2 h4 he)
      rw [Ybs _ _ _ _ hne]
      exact inv.new j oj t h1 h2 h3 h4
   have hpan : ∀ c w', X c w' → Q (.panic c) a w' := fun c w' hx =>
    hX c a w' hx inv.defers inv.size fun t ht => inv.old t fun j oj h1 h2 h3 => absurd h3 (ht j oj h1 h2)
   unfold wpOp
   simp only [ho]
   by_cases hde : i ∈ dead
   ·rcases hr.died i o (Nat.zero_le _) hin ho hde with h | ⟨hw, h⟩
    ·rw [h] at hnd; cases hnd
    ·rw [if_pos (by rw [hs.2]; exact hw)]
     refine .inl (Ydk ?_)
     rw [Yb3 hs.1]
     exact Ydy (h _ w hd0 inv.world) (fun _ _ hf => hf.elim) hpan
   ·obtain ⟨_, ⟨hw, h⟩ | ⟨hw, h, hsk⟩⟩ := hr.live i o (Nat.zero_le _) hin ho hde
    ·rw [if_pos (by rw [hs.2]; exact hw)]
     refine .inl (Ydk ?_)
     rw [Yb3 hs.1]
     refine Ydy (h _ w hd0 inv.world) (fun v w' hv => ?_) hpan
     exact Yh7 hk hr hdn hwait hX hfin m _ _ _ (by omega) (hnext v w' hv.2 hde hv.1)
    ·rw [if_neg (by rw [hs.2, hw]; simp)]
     exact Yh7 hk hr hdn hwait hX hfin m _ _ _ (by omega) (hnext undef w (hsk _ w hd0 inv.world) hde (fun _ _ _ => h.symm))
theorem Ygm {P : Program} {id : Nat} {Q : Exit → Act → World → Prop} {a : Act} {w : World} {l : List Oper} (n : Nat) (B : (Nat → Bool) → World → Prop) (X : List PanicEntry → World → Prop) (hm : P.follows .mixedOrders = true) (hok : Ygh l.toArray n = true)
  (hB : B (fun _ => false) w.drew)
  (hX : ∀ c a' w', X c w' → a'.defers = a.defers → a'.tmps.size = a.tmps.size → (∀ t, noDst l n t = true → a'.tmps[t]? = a.tmps[t]?) → Q (.panic c) a' w')
  (h : Yep P l.toArray B X (fun dead F => dead = [] → ∀ w1 d, (∀ j, j < n → d j = true) → B d w1 → wpList P l.toArray Q (l.drop n) F w1) [] 0 (l.take n) a) : (Code.region id l.toArray true).wp P Q a w := by
 simp only [Ygh, Bool.and_eq_true, Bool.or_eq_true, decide_eq_true_eq] at hok
 obtain ⟨⟨hh, ht⟩, hq⟩ := hok
 have hk := Ygc hh
 have hle : n ≤ l.length := by simpa using hk.le
 have htl : (l.take n).length = n := by simp; omega
 obtain ⟨vs, dead, F, hf, hr, _, hdn⟩ := Ye5 hk (l.take n) 0 [] a (fun j hj => by
  have hj' : j < n := by rw [htl] at hj; exact hj
  simp [hj']) (by simpa using htl) (by simp) h
 have hun : Yct n (Array.replicate l.toArray.size false) = n := by
  have : ∀ i, i ∈ List.range n → (!(Array.replicate l.toArray.size false).getD i true) = true := fun i hi => by
   have hi' : i < l.toArray.size := by have := List.mem_range.1 hi; simp; omega
   have hi'' : i < l.length := by simpa using hi'
   simp [hi'']
  unfold Yct
  rw [List.countP_eq_length.2 this, List.length_range]
 have inv0 : HeadInv .any l.toArray n (Array.replicate l.toArray.size false) :=
  ⟨by simp, fun j oj _ hl => (by rw [getD_replicate_false] at hl; cases hl), fun t _ ht => getD_in (by simpa using ht) (getD_replicate_false _ _)⟩
 have hgo := Yh7 (Q := Q) hk hr hdn ?_ (fun c a' w' hx h1 h2 h3 => hX c a' w' hx h1 h2 fun t ht' => h3 t fun j oj g1 g2 => Ygu ht' j oj g1 (by simpa using g2)) ?_ n _ a w.drew hun
  ⟨inv0, by rw [Yit]; exact hB, rfl, rfl, fun j _ hl => (by rw [getD_replicate_false] at hl; cases hl), fun _ _ => rfl, fun j oj t _ _ hl => (by rw [getD_replicate_false] at hl; cases hl)⟩
 ·refine wp_region_any hm ?_
  rw [show n + (l.toArray.size - n) = l.toArray.size by simp; omega] at hgo
  exact hgo
 ·intro listed inv i hi hun t hnt
  rcases ht with ht | ⟨⟨h1, h2⟩, h3⟩
  ·intro hrd
   obtain ⟨_, o, ho, _⟩ := mem_ready.1 hrd
   have := (Array.getElem?_eq_some_iff.1 ho).1
   omega
  ·exact tail_waits h2 h3 h1 inv _ i rfl hi hun t hnt
 ·intro listed w1 inv hall hd hBw
  have hlst : listed = Array.replicate n true ++ Array.replicate (l.toArray.size - n) false := by
   apply Array.ext
   ·rw [inv.size]; simp; omega
   ·intro i h1 h2
    by_cases hi : i < n
    ·have := hall i hi
     simp [h1] at this
     rw [this, Array.getElem_append_left (by simpa using hi)]
     simp
    ·have := inv.tail i (by omega) (by rw [← inv.size]; exact h1)
     simp [h1] at this
     rw [this, Array.getElem_append_right (by simpa using hi)]
     simp
  have hdl : (l.drop n).length = l.toArray.size - n := by simp
  have := wpAny_of_seq (md := .any) (P := P) (ops := l.toArray) (Q' := Q) (l.drop n) n listed F w1 (fun j => by simp [List.getElem?_drop]) (by rw [hdl, hlst]; exact hq) (hf hd w1 (Yc1 listed) (fun j hj => by
   have h1 := hall j hj
   have h2 : j < listed.size := by rw [inv.size]; have := hk.le; omega
   simp only [Yc1]
   simp [h2] at h1 ⊢; exact h1) hBw)
  rwa [hdl] at this
end
def opS (s : St) (o : Opd) (b v : Int) : St := if o.k = 1 then (if b = 1 then s.setReg8 o.r v else s.setR (o.r % 8).toNat v) else s
def Ycc (M : Mem) (s : St) (o : Opd) (b : Int) : Flt := if o.k = 3 then M.wrF (s.place o) (wd b) else Flt.zero
def Ybg (M : Mem) (s : St) (o : Opd) (b : Int) : Bool := if o.k = 3 then M.writeK (s.place o) (wd b) else true
def opM (M : Mem) (s : St) (o : Opd) (b v : Int) : Mem := if o.k = 3 then M.writeM (s.place o) (wd b) v else M
structure WrB (S : List Nat) (s : St) (o : Opd) (X : St) (w w1 : World) : Prop where
 s : w1.heap[w.heap.size]? = some (.cells s.cells 28 (0, 0))
 o : w1.heap[w.heap.size + 1]? = some (.cells #[.int .i64 o.k, .int .i64 o.r, .int .u32 o.imm, .int .i64 o.b, .int .i64 o.x, .int .u32 o.sc] 39 (0, 0))
 r : w1.heap[w.heap.size + 1 + 1]? = some (.cells X.cells 28 (0, 0))
 f : w1.heap[w.heap.size + 1 + 1 + 1]? = some (.cells #[.int .i64 0, .int .u32 0, .int .u32 0, .int .i64 0] 35 (0, 0))
 u : Upd S w w1
theorem WrB.step {s X : St} {o : Opd} {w w1 w2 : World} {S S' T : List Nat} (h : WrB T s o X w w1) (u : Upd S w1 w2) (hS : ∀ x, x ∈ S → x < w.heap.size) (hu : Upd S' w w2) : WrB S' s o X w w2 :=
 ⟨u.get h.s (fun hh => by have := hS _ hh; omega), u.get h.o (fun hh => by have := hS _ hh; omega), u.get h.r (fun hh => by have := hS _ hh; omega), u.get h.f (fun hh => by have := hS _ hh; omega), hu⟩
theorem WrB.start (s : St) (o : Opd) (w : World) : WrB [] s o St.zero w ((((w.alloc (.cells s.cells 28)).alloc (.cells #[.int .i64 o.k, .int .i64 o.r, .int .u32 o.imm, .int .i64 o.b, .int .i64 o.x, .int .u32 o.sc] 39)).alloc (.cells #[.int .u32 0, .int .u32 0, .int .u32 0, .int .u32 0, .int .u32 0, .int .u32 0, .int .u32 0, .int .u32 0, .int .u32 0, .bool false, .bool false, .bool false, .bool false, .bool false, .bool false, .bool false, .int .u64 0] 28)).alloc (.cells #[.int .i64 0, .int .u32 0, .int .u32 0, .int .i64 0] 35)) := by
 have h2 := heap_alloc2_new (w.alloc (.cells s.cells 28)) (.cells #[.int .i64 o.k, .int .i64 o.r, .int .u32 o.imm, .int .i64 o.b, .int .i64 o.x, .int .u32 o.sc] 39) (.cells #[.int .u32 0, .int .u32 0, .int .u32 0, .int .u32 0, .int .u32 0, .int .u32 0, .int .u32 0, .int .u32 0, .int .u32 0, .bool false, .bool false, .bool false, .bool false, .bool false, .bool false, .bool false, .int .u64 0] 28)
 have h3 := heap_alloc2_new ((w.alloc (.cells s.cells 28)).alloc (.cells #[.int .i64 o.k, .int .i64 o.r, .int .u32 o.imm, .int .i64 o.b, .int .i64 o.x, .int .u32 o.sc] 39)) (.cells #[.int .u32 0, .int .u32 0, .int .u32 0, .int .u32 0, .int .u32 0, .int .u32 0, .int .u32 0, .int .u32 0, .int .u32 0, .bool false, .bool false, .bool false, .bool false, .bool false, .bool false, .bool false, .int .u64 0] 28) (.cells #[.int .i64 0, .int .u32 0, .int .u32 0, .int .i64 0] 35)
 rw [World.size_alloc] at h2
 rw [World.size_alloc, World.size_alloc] at h3
 exact ⟨Ym _ (Ym _ (Ym _ (heap_alloc_new _ _))), Ym _ (Ym _ (heap_alloc2_new _ _ _)), Ym _ h2, h3, ((((Upd.refl _ _).alloc _).alloc _).alloc _).alloc _⟩
theorem WrB.setr {s X : St} {o : Opd} {w w1 : World} {S : List Nat} (h : WrB S s o X w w1) (Y : St) : WrB S s o Y w (w1.setCells (w.heap.size + 1 + 1) 0 Y.cells.toList) :=
 have U : Upd [w.heap.size + 1 + 1] w1 (w1.setCells (w.heap.size + 1 + 1) 0 Y.cells.toList) := (Upd.refl _ _).setCells (by simp) _ _
 ⟨U.get h.s (by simp <;> omega), U.get h.o (by simp <;> omega), Ybk Y h.r rfl, U.get h.f (by simp <;> omega), h.u.setCells (.inr (by omega)) _ _⟩
theorem WrB.zero {s X : St} {o : Opd} {w w1 : World} {S : List Nat} (h : WrB S s o X w w1) : WrB S s o X w ((((w1.setCell ⟨w.heap.size + 1 + 1 + 1, 0, none⟩ (.int .i64 0)).setCell ⟨w.heap.size + 1 + 1 + 1, 0 + 1, none⟩ (.int .u32 0)).setCell ⟨w.heap.size + 1 + 1 + 1, 0 + 2, none⟩ (.int .u32 0)).setCell ⟨w.heap.size + 1 + 1 + 1, 0 + 3, none⟩ (.int .i64 0)) :=
 have U := Ya0 (S := [w.heap.size + 1 + 1 + 1]) (Upd.refl _ w1) (.inl (by simp)) (.int .i64 0) (.int .u32 0) (.int .u32 0) (.int .i64 0)
 ⟨U.get h.s (by simp <;> omega), U.get h.o (by simp <;> omega), U.get h.r (by simp <;> omega), Ycu h.f _ _ _ _, Ya0 h.u (.inr (by omega)) _ _ _ _⟩
theorem WrB.reg {s X : St} {o : Opd} {w w1 : World} {S : List Nat} (h : WrB S s o X w w1) (i : Nat) (v : Int) (hi : i < 8) : WrB S (s.setR i v) o X w (w1.setCell ⟨w.heap.size, i, none⟩ (.int .u32 v)) :=
 have U : Upd [w.heap.size] w1 (w1.setCell ⟨w.heap.size, i, none⟩ (.int .u32 v)) := (Upd.refl _ _).setCell (by simp) _
 ⟨by rw [← St.cells_setR s i v hi]; exact Yh h.s i _, U.get h.o (by simp <;> omega), U.get h.r (by simp <;> omega), U.get h.f (by simp <;> omega), h.u.setCell (.inr (by simp)) _⟩
structure WrD (S : List Nat) (s : St) (o : Opd) (F : Flt) (gb : Nat) (w : World) (d : Nat → Bool) (w1 : World) : Prop where
 sb : w1.heap[w.heap.size]? = some (.cells s.cells 28 (0, 0))
 g : w1.heap[gb]? = some (.cells #[.int .i64 F.k, .int .u32 F.pc, .int .u32 F.a, .int .i64 F.wt] 35 (0, 0))
 r : ∃ X : St, w1.heap[w.heap.size + 1 + 1]? = some (.cells X.cells 28 (0, 0)) ∧ (d 3 = true → X = s)
 f : ∃ Y : Flt, w1.heap[w.heap.size + 1 + 1 + 1]? = some (.cells #[.int .i64 Y.k, .int .u32 Y.pc, .int .u32 Y.a, .int .i64 Y.wt] 35 (0, 0)) ∧ (d 4 = true → Y = F)
 gb : w.heap.size + 1 + 1 + 1 < gb
 u : Upd S w w1
theorem WrD.skip {S : List Nat} {s : St} {o : Opd} {F : Flt} {gb : Nat} {w w1 : World} {d : Nat → Bool} {i : Nat} (h : WrD S s o F gb w d w1) (h3 : i ≠ 3) (h4 : i ≠ 4) : WrD S s o F gb w (Yah d i) w1 := by
 have e3 : Yah d i 3 = d 3 := by simp only [Yah]; rw [if_neg (fun e => h3 e.symm)]
 have e4 : Yah d i 4 = d 4 := by simp only [Yah]; rw [if_neg (fun e => h4 e.symm)]
 exact ⟨h.sb, h.g, by rw [e3]; exact h.r, by rw [e4]; exact h.f, h.gb, h.u⟩
theorem WrD.st3 {S : List Nat} {s : St} {o : Opd} {F : Flt} {gb : Nat} {w w1 : World} {d : Nat → Bool} (h : WrD S s o F gb w d w1) : WrD S s o F gb w (Yah d 3) (w1.setCells (w.heap.size + 1 + 1) 0 s.cells.toList) := by
 have U : Upd [w.heap.size + 1 + 1] w1 (w1.setCells (w.heap.size + 1 + 1) 0 s.cells.toList) := (Upd.refl _ _).setCells (by simp) _ _
 have hg := h.gb
 obtain ⟨X, hX, _⟩ := h.r
 obtain ⟨Y, hY, hd⟩ := h.f
 exact ⟨U.get h.sb (by simp <;> omega), U.get h.g (by simp <;> omega), ⟨s, Ybk s hX rfl, fun _ => rfl⟩, ⟨Y, U.get hY (by simp <;> omega), by simpa [Yah] using hd⟩, hg, h.u.setCells (.inr (by omega)) _ _⟩
theorem WrD.st4 {S : List Nat} {s : St} {o : Opd} {F : Flt} {gb : Nat} {w w1 : World} {d : Nat → Bool} (h : WrD S s o F gb w d w1) : WrD S s o F gb w (Yah d 4)
  ((((w1.setCell ⟨w.heap.size + 1 + 1 + 1, 0, none⟩ (.int .i64 F.k)).setCell ⟨w.heap.size + 1 + 1 + 1, 0 + 1, none⟩ (.int .u32 F.pc)).setCell ⟨w.heap.size + 1 + 1 + 1, 0 + 2, none⟩ (.int .u32 F.a)).setCell ⟨w.heap.size + 1 + 1 + 1, 0 + 3, none⟩ (.int .i64 F.wt)) := by
 have U := Ya0 (S := [w.heap.size + 1 + 1 + 1]) (b := w.heap.size + 1 + 1 + 1) (Upd.refl _ w1) (.inl (by simp)) (.int .i64 F.k) (.int .u32 F.pc) (.int .u32 F.a) (.int .i64 F.wt)
 have hg := h.gb
 obtain ⟨X, hX, hd⟩ := h.r
 obtain ⟨Y, hY, _⟩ := h.f
 exact ⟨U.get h.sb (by simp <;> omega), U.get h.g (by simp <;> omega), ⟨X, U.get hX (by simp <;> omega), by simpa [Yah] using hd⟩, ⟨F, Ycu hY _ _ _ _, fun _ => rfl⟩, hg, Ya0 h.u (.inr (by omega)) _ _ _ _⟩
theorem Yas {op : Oper} {a : Act} {w : World} {K : Act → World → Prop} {Q : Exit → Act → World → Prop} (s : St) (b : Nat) (x y : Operand) (ho : op.op = .store 28 x y) (hx : a.eval x = .pointer (some ⟨b, 0, none⟩)) (hy : a.eval y = .agg s.cells)
  {c : Array Value} (hb : w.heap[b]? = some (.cells c 28 (0, 0))) (hc : c.size = 17) (hK : ∀ w', w.setCells b 0 s.cells.toList = w' → K (a.put op.dst undef) w') : op.wp Tryz.prog a w K Q := by
 refine wp_store_mid 28 x y ho b 0 s.cells hx hy (Yd8 hb 0 s.cells.size (by rw [hc, St.size]; exact Nat.le_refl _)) (by rw [St.size]; exact Ya8) s.one ?_
 exact hK _ rfl
theorem Yj2 (M : Mem) (a pb : Nat) (s : St) (o : Opd) (b v : Int) (w : World) (hM : Yk w a pb M) (hs : s.Ok) (ho : o.Ok) (hv0 : 0 ≤ v) (hv1 : v < 4294967296) (h1 : o.k = 1) (hb : b = 1) :
  Calls Tryz.prog 65 #[.pointer (some ⟨a, 0, none⟩), .agg s.cells, o.val, .int .i64 b, .int .u32 v] w fun e w' => e = .returned (.tuple #[.agg (opS s o b v).cells, (Ycc M s o b).val, .bool (Ybg M s o b)]) ∧ Yk w' a pb (opM M s o b v) ∧ Upd [pb] w w' := by
 have hmo : Tryz.prog.follows .mixedOrders = true := by kernel_rfl
 have HB := Yh_ (WrB.start s o w)
 have HM := Yh_ hM
 have HS := Yh_ hs
 have HO := Yh_ ho
 clear hM hs ho
 unfold Opd.val
 have e1 : (o.k == 1) = true := by simpa using h1
 subst hb
 have HV := Yh_ (show opS s o 1 v = s.setReg8 o.r v by rw [opS, if_pos h1, if_pos rfl])
 have HF := Yh_ (show Ycc M s o 1 = Flt.zero by rw [Ycc, if_neg (by omega)])
 have HK := Yh_ (show Ybg M s o 1 = true by rw [Ybg, if_neg (by omega)])
 have HW := Yh_ (show opM M s o 1 v = M by rw [opM, if_neg (by omega)])
 clear h1
 go_enter Tryz.func65, Tryz.ntmps65
 go_wp2_with (first | (refine Yae s w.heap.size rfl _ rfl rfl HB.out.s ?_) | (go_at_call 105; refine (Yml s _ _ _ HS.out hv0 hv1).mono ?_; rintro e w2 ⟨rfl, hu⟩; have H2 := Yh_ (HB.out.step hu (by simp) (HB.out.u.also hu (by simp))); clear hu) | (refine Ya5 (s.setReg8 o.r v) (w.heap.size + 1 + 1) rfl _ _ rfl rfl rfl H2.out.r rfl ?_; intro w3 hw3; have H3 := Yh_ (hw3 ▸ H2.out.setr (s.setReg8 o.r v)); clear hw3; have ff := Yn H3.out.f; have cf := Ya H3.out.f))
 refine bodyPost_ret (Yao rfl (Ybe 10 28 (w.heap.size + 1 + 1) _ _ rfl H3.out.zero.r Tryz.underlying28 rfl (by rw [St.size]; exact Ya8)) (Ybe 11 35 (w.heap.size + 1 + 1 + 1) _ _ rfl H3.out.zero.f Tryz.underlying35 rfl Ybx) (Yal _ rfl)) rfl ⟨?_, by rw [HW.out]; exact HM.out.keep H3.out.zero.u (by simp) (by simp), H3.out.zero.u.mono (by simp)⟩
 rw [HV.out, HF.out, HK.out]
 rfl
theorem Ykr (M : Mem) (a pb : Nat) (s : St) (o : Opd) (b v : Int) (w : World) (hM : Yk w a pb M) (hs : s.Ok) (ho : o.Ok) (hv0 : 0 ≤ v) (hv1 : v < 4294967296) (h1 : o.k = 1) (hb : b ≠ 1) :
  Calls Tryz.prog 65 #[.pointer (some ⟨a, 0, none⟩), .agg s.cells, o.val, .int .i64 b, .int .u32 v] w fun e w' => e = .returned (.tuple #[.agg (opS s o b v).cells, (Ycc M s o b).val, .bool (Ybg M s o b)]) ∧ Yk w' a pb (opM M s o b v) ∧ Upd [pb] w w' := by
 have hmo : Tryz.prog.follows .mixedOrders = true := by kernel_rfl
 have HB := Yh_ (WrB.start s o w)
 have HM := Yh_ hM
 have HS := Yh_ hs
 have HO := Yh_ ho
 clear hM hs ho
 unfold Opd.val
 have e1 : (o.k == 1) = true := by simpa using h1
 have hb1 : (b == 1) = false := by simpa using hb
 have hb2 : (b != 1) = true := by simpa using hb
 have HV := Yh_ (show opS s o b v = s.setR (o.r % 8).toNat v by rw [opS, if_pos h1, if_neg hb])
 have HF := Yh_ (show Ycc M s o b = Flt.zero by rw [Ycc, if_neg (by omega)])
 have HK := Yh_ (show Ybg M s o b = true by rw [Ybg, if_neg (by omega)])
 have HW := Yh_ (show opM M s o b v = M by rw [opM, if_neg (by omega)])
 have hr0 : 0 ≤ o.r % 8 := by omega
 have hr1 : o.r % 8 < 8 := by omega
 have hrn : (o.r % 8).toNat < 8 := by omega
 have hcR := s.cR _ hrn
 clear h1 hb
 go_enter Tryz.func65, Tryz.ntmps65
 go_wp2_with (first | (go_at_call 103; refine (Yic _ _).mono ?_; rintro e w2 ⟨rfl, hw⟩; have H2 := Yh_ (show WrB [] s o St.zero w w2 by rw [← hw]; exact HB.out); clear hw; have fs := Yn H2.out.s; have cs := Ya H2.out.s) | (refine Yae (s.setR (o.r % 8).toNat v) w.heap.size rfl _ rfl rfl (H2.out.reg _ v hrn).s ?_) | (refine Ya5 (s.setR (o.r % 8).toNat v) (w.heap.size + 1 + 1) rfl _ _ rfl rfl rfl (H2.out.reg _ v hrn).r rfl ?_; intro w3 hw3; have H3 := Yh_ (hw3 ▸ (H2.out.reg _ v hrn).setr (s.setR (o.r % 8).toNat v)); clear hw3 fs cs; have ff := Yn H3.out.f; have cf := Ya H3.out.f))
 refine bodyPost_ret (Yao rfl (Ybe 10 28 (w.heap.size + 1 + 1) _ _ rfl H3.out.zero.r Tryz.underlying28 rfl (by rw [St.size]; exact Ya8)) (Ybe 11 35 (w.heap.size + 1 + 1 + 1) _ _ rfl H3.out.zero.f Tryz.underlying35 rfl Ybx) (Yal _ rfl)) rfl ⟨?_, by rw [HW.out]; exact HM.out.keep H3.out.zero.u (by simp) (by simp), H3.out.zero.u.mono (by simp)⟩
 rw [HV.out, HF.out, HK.out]
 rfl
theorem Ylq (M : Mem) (a pb : Nat) (s : St) (o : Opd) (b v : Int) (w : World) (hM : Yk w a pb M) (hs : s.Ok) (ho : o.Ok) (hv0 : 0 ≤ v) (hv1 : v < 4294967296) (h1 : o.k ≠ 1) (h3 : o.k ≠ 3) :
  Calls Tryz.prog 65 #[.pointer (some ⟨a, 0, none⟩), .agg s.cells, o.val, .int .i64 b, .int .u32 v] w fun e w' => e = .returned (.tuple #[.agg (opS s o b v).cells, (Ycc M s o b).val, .bool (Ybg M s o b)]) ∧ Yk w' a pb (opM M s o b v) ∧ Upd [pb] w w' := by
 have hmo : Tryz.prog.follows .mixedOrders = true := by kernel_rfl
 have HB := Yh_ (WrB.start s o w)
 have HM := Yh_ hM
 have HS := Yh_ hs
 have HO := Yh_ ho
 clear hM hs ho
 unfold Opd.val
 have e1 : (o.k == 1) = false := by simpa using h1
 have e3 : (o.k == 3) = false := by simpa using h3
 have HV := Yh_ (show opS s o b v = s by rw [opS, if_neg h1])
 have HF := Yh_ (show Ycc M s o b = Flt.zero by rw [Ycc, if_neg h3])
 have HK := Yh_ (show Ybg M s o b = true by rw [Ybg, if_neg h3])
 have HW := Yh_ (show opM M s o b v = M by rw [opM, if_neg h3])
 clear h1 h3
 go_enter Tryz.func65, Tryz.ntmps65
 go_wp2_with (first | (refine Yae s w.heap.size rfl _ rfl rfl HB.out.s ?_) | (refine Ya5 s (w.heap.size + 1 + 1) rfl _ _ rfl rfl rfl HB.out.r rfl ?_; intro w3 hw3; have H3 := Yh_ (hw3 ▸ HB.out.setr s); clear hw3; have ff := Yn H3.out.f; have cf := Ya H3.out.f))
 all_goals
  refine bodyPost_ret (Yao rfl (Ybe 10 28 (w.heap.size + 1 + 1) _ _ rfl H3.out.zero.r Tryz.underlying28 rfl (by rw [St.size]; exact Ya8)) (Ybe 11 35 (w.heap.size + 1 + 1 + 1) _ _ rfl H3.out.zero.f Tryz.underlying35 rfl Ybx) (Yal _ rfl)) rfl ⟨?_, by rw [HW.out]; exact HM.out.keep H3.out.zero.u (by simp) (by simp), H3.out.zero.u.mono (by simp)⟩
  rw [HV.out, HF.out, HK.out]
  rfl
theorem Yj4 (M : Mem) (a pb : Nat) (s : St) (o : Opd) (b v : Int) (w : World) (hM : Yk w a pb M) (hs : s.Ok) (ho : o.Ok) (hv0 : 0 ≤ v) (hv1 : v < 4294967296) (h3 : o.k = 3) (hb : b = 1) :
  Calls Tryz.prog 65 #[.pointer (some ⟨a, 0, none⟩), .agg s.cells, o.val, .int .i64 b, .int .u32 v] w fun e w' => e = .returned (.tuple #[.agg (opS s o b v).cells, (Ycc M s o b).val, .bool (Ybg M s o b)]) ∧ Yk w' a pb (opM M s o b v) ∧ Upd [pb] w w' := by
 have hmo : Tryz.prog.follows .mixedOrders = true := by kernel_rfl
 have HB := Yh_ (WrB.start s o w)
 have HM := Yh_ hM
 have HS := Yh_ hs
 have HO := Yh_ ho
 clear hM hs ho
 unfold Opd.val
 subst hb
 have e1 : (o.k == 1) = false := by rw [h3]; rfl
 have e3 : (o.k == 3) = true := by rw [h3]; rfl
 have HV := Yh_ (show opS s o 1 v = s by rw [opS, if_neg (by omega)])
 have HF := Yh_ (show Ycc M s o 1 = M.wrF (s.place o) 1 by rw [Ycc, if_pos h3]; rfl)
 have HK := Yh_ (show Ybg M s o 1 = M.writeK (s.place o) 1 by rw [Ybg, if_pos h3]; rfl)
 have HW := Yh_ (show opM M s o 1 v = M.writeM (s.place o) 1 v by rw [opM, if_pos h3]; rfl)
 have hp := Ydd s o
 clear h3
 go_enter Tryz.func65, Tryz.ntmps65
 go_wp2_with (first | (refine Yae s w.heap.size rfl _ rfl rfl HB.out.s ?_) | (go_at_call 71; refine (Ydh s o _).mono ?_; rintro e w2 ⟨rfl, hu⟩; have H2 := Yh_ (HB.out.step hu (by simp) (HB.out.u.also hu (by simp))); clear hu) | (go_at_call 16; refine (Yf1 M a pb (s.place o) 1 v _ (HM.out.keep H2.out.u (by simp) (by simp)) hp.1 hp.2 hv0 hv1).mono ?_; rintro e w3 ⟨rfl, hM3, hu⟩; rw [Mem.writeF_val]; unfold Flt.val; have H3 := Yh_ (H2.out.step (S' := [pb]) hu (by have := HM.out.pl; simp; omega) ((H2.out.u.mono (by simp)).also hu (by simp))); have HM3 := Yh_ hM3; clear hu hM3 H2))
 have hgb : w.heap.size + 1 + 1 + 1 < w3.heap.size := Yj H3.out.f
 have hB0 : WrD [pb] s o (M.wrF (s.place o) 1) w3.heap.size w (fun _ => false) (w3.alloc (.cells #[.int .i64 (M.wrF (s.place o) 1).k, .int .u32 (M.wrF (s.place o) 1).pc, .int .u32 (M.wrF (s.place o) 1).a, .int .i64 (M.wrF (s.place o) 1).wt] 35)).drew := ⟨Ym _ H3.out.s, heap_alloc_new _ _, ⟨_, Ym _ H3.out.r, by simp⟩, ⟨Flt.zero, Ym _ H3.out.f, by simp⟩, hgb, (H3.out.u.alloc _).drew⟩
 refine Ygm 6 (fun d w1 => WrD [pb] s o (M.wrF (s.place o) 1) w3.heap.size w d w1 ∧ Yk w1 a pb (M.writeM (s.place o) 1 v)) (fun _ _ => False) (by kernel_rfl) (by kernel_rfl) ⟨hB0, HM3.out.keep (((Upd.refl [] _).alloc _).drew) (by simp) (by simp)⟩ (fun _ _ _ h => h.elim) ?_
 clear hB0
 simp only [List.take_succ_cons, List.take_zero, List.drop_succ_cons, List.drop_zero]
 apply Ya4 rfl rfl
 ·intro d K hd hK w1 hB1
  refine Yax s w.heap.size _ rfl rfl hB1.1.sb ?_
  go_simp
  first
  |exact hK _ ⟨hB1.1.skip (by decide) (by decide), hB1.2⟩
  |exact ⟨hB1.1.skip (by decide) (by decide), hB1.2⟩
 ·exact ⟨_, rfl⟩
 apply Ya4 rfl rfl
 ·intro d K hd hK w1 hB1
  have cg := Ya hB1.1.g
  have HB1 := Yh_ hB1
  clear hB1
  go_wp2_with fail
  first
  |exact hK _ ⟨HB1.out.1.skip (by decide) (by decide), HB1.out.2⟩
  |exact ⟨HB1.out.1.skip (by decide) (by decide), HB1.out.2⟩
 ·exact ⟨_, rfl⟩
 apply Ya4 rfl rfl
 ·intro d K hd hK w1 hB1
  have HB1 := Yh_ hB1
  clear hB1
  go_wp2_with fail
  first
  |exact hK _ ⟨HB1.out.1.skip (by decide) (by decide), HB1.out.2⟩
  |exact ⟨HB1.out.1.skip (by decide) (by decide), HB1.out.2⟩
 ·exact ⟨_, rfl⟩
 apply Ya4 rfl rfl
 ·intro d K hd hK w1 hB1
  obtain ⟨X, hX, _⟩ := hB1.1.r
  refine Yas s (w.heap.size + 1 + 1) _ _ rfl rfl rfl hX rfl ?_
  intro w' hw'
  exact hK _ ⟨hw' ▸ hB1.1.st3, hw' ▸ hB1.2.keep (S := [w.heap.size + 1 + 1]) ((Upd.refl _ _).setCells (by simp) _ _) (by have := HM.out.al; simp; omega) (by have := HM.out.pl; simp; omega)⟩
 ·exact ⟨undef, rfl⟩
 apply Ya4 rfl rfl
 ·intro d K hd hK w1 hB1
  obtain ⟨Y, hY, _⟩ := hB1.1.f
  have cf := Ya hY
  have ff := Yn hY
  have HB1 := Yh_ hB1
  clear hB1 hY
  go_wp2_with fail
  have hq := HB1.out.2.keep (S := [w.heap.size + 1 + 1 + 1]) (Ya0 (b := w.heap.size + 1 + 1 + 1) (Upd.refl _ w1) (.inl (by simp)) (.int .i64 (M.wrF (s.place o) 1).k) (.int .u32 (M.wrF (s.place o) 1).pc) (.int .u32 (M.wrF (s.place o) 1).a) (.int .i64 (M.wrF (s.place o) 1).wt)) (by have := HM.out.al; simp; omega) (by have := HM.out.pl; simp; omega)
  first
  |exact hK _ ⟨HB1.out.1.st4, hq⟩
  |exact ⟨HB1.out.1.st4, hq⟩
 ·exact ⟨undef, rfl⟩
 apply Ya4 rfl rfl
 ·intro d K hd hK w1 hB1
  have HB1 := Yh_ hB1
  clear hB1
  go_wp2_with fail
  first
  |exact hK _ ⟨HB1.out.1.skip (by decide) (by decide), HB1.out.2⟩
  |exact ⟨HB1.out.1.skip (by decide) (by decide), HB1.out.2⟩
 ·exact ⟨_, rfl⟩
 refine Yf7 (fun _ w1 d hd hB1 => ?_)
 have HB1 := Yh_ hB1
 obtain ⟨X, hX, hXs⟩ := hB1.1.r
 obtain ⟨Y, hY, hYF⟩ := hB1.1.f
 rw [hXs (hd 3 (by decide))] at hX
 rw [hYF (hd 4 (by decide))] at hY
 have HX := Yh_ hX
 have HY := Yh_ hY
 clear hB1 hX hY hXs hYF hd
 go_wp2_with fail
 refine bodyPost_ret (Yao rfl (Ybe 10 28 (w.heap.size + 1 + 1) _ _ rfl HX.out Tryz.underlying28 rfl (by rw [St.size]; exact Ya8)) (Ybe 11 35 (w.heap.size + 1 + 1 + 1) _ _ rfl HY.out Tryz.underlying35 rfl Ybx) (Yal _ rfl)) rfl ⟨?_, by rw [HW.out]; exact HB1.out.2, HB1.out.1.u⟩
 rw [HV.out, HF.out, HK.out]
 rfl
theorem Ykg (M : Mem) (a pb : Nat) (s : St) (o : Opd) (b v : Int) (w : World) (hM : Yk w a pb M) (hs : s.Ok) (ho : o.Ok) (hv0 : 0 ≤ v) (hv1 : v < 4294967296) (h3 : o.k = 3) (hb : b ≠ 1) :
  Calls Tryz.prog 65 #[.pointer (some ⟨a, 0, none⟩), .agg s.cells, o.val, .int .i64 b, .int .u32 v] w fun e w' => e = .returned (.tuple #[.agg (opS s o b v).cells, (Ycc M s o b).val, .bool (Ybg M s o b)]) ∧ Yk w' a pb (opM M s o b v) ∧ Upd [pb] w w' := by
 have hmo : Tryz.prog.follows .mixedOrders = true := by kernel_rfl
 have HB := Yh_ (WrB.start s o w)
 have HM := Yh_ hM
 have HS := Yh_ hs
 have HO := Yh_ ho
 clear hM hs ho
 unfold Opd.val
 have hb1 : (b == 1) = false := by simpa using hb
 have hb2 : (b != 1) = true := by simpa using hb
 have e1 : (o.k == 1) = false := by rw [h3]; rfl
 have e3 : (o.k == 3) = true := by rw [h3]; rfl
 have HV := Yh_ (show opS s o b v = s by rw [opS, if_neg (by omega)])
 have HF := Yh_ (show Ycc M s o b = M.wrF (s.place o) 4 by rw [Ycc, if_pos h3]; rw [wd, if_neg hb])
 have HK := Yh_ (show Ybg M s o b = M.writeK (s.place o) 4 by rw [Ybg, if_pos h3]; rw [wd, if_neg hb])
 have HW := Yh_ (show opM M s o b v = M.writeM (s.place o) 4 v by rw [opM, if_pos h3]; rw [wd, if_neg hb])
 have hp := Ydd s o
 clear h3 hb
 go_enter Tryz.func65, Tryz.ntmps65
 go_wp2_with (first | (refine Yae s w.heap.size rfl _ rfl rfl HB.out.s ?_) | (go_at_call 71; refine (Ydh s o _).mono ?_; rintro e w2 ⟨rfl, hu⟩; have H2 := Yh_ (HB.out.step hu (by simp) (HB.out.u.also hu (by simp))); clear hu) | (go_at_call 16; refine (Yf1 M a pb (s.place o) 4 v _ (HM.out.keep H2.out.u (by simp) (by simp)) hp.1 hp.2 hv0 hv1).mono ?_; rintro e w3 ⟨rfl, hM3, hu⟩; rw [Mem.writeF_val]; unfold Flt.val; have H3 := Yh_ (H2.out.step (S' := [pb]) hu (by have := HM.out.pl; simp; omega) ((H2.out.u.mono (by simp)).also hu (by simp))); have HM3 := Yh_ hM3; clear hu hM3 H2))
 have hgb : w.heap.size + 1 + 1 + 1 < w3.heap.size := Yj H3.out.f
 have hB0 : WrD [pb] s o (M.wrF (s.place o) 4) w3.heap.size w (fun _ => false) (w3.alloc (.cells #[.int .i64 (M.wrF (s.place o) 4).k, .int .u32 (M.wrF (s.place o) 4).pc, .int .u32 (M.wrF (s.place o) 4).a, .int .i64 (M.wrF (s.place o) 4).wt] 35)).drew := ⟨Ym _ H3.out.s, heap_alloc_new _ _, ⟨_, Ym _ H3.out.r, by simp⟩, ⟨Flt.zero, Ym _ H3.out.f, by simp⟩, hgb, (H3.out.u.alloc _).drew⟩
 refine Ygm 6 (fun d w1 => WrD [pb] s o (M.wrF (s.place o) 4) w3.heap.size w d w1 ∧ Yk w1 a pb (M.writeM (s.place o) 4 v)) (fun _ _ => False) (by kernel_rfl) (by kernel_rfl) ⟨hB0, HM3.out.keep (((Upd.refl [] _).alloc _).drew) (by simp) (by simp)⟩ (fun _ _ _ h => h.elim) ?_
 clear hB0
 simp only [List.take_succ_cons, List.take_zero, List.drop_succ_cons, List.drop_zero]
 apply Ya4 rfl rfl
 ·intro d K hd hK w1 hB1
  refine Yax s w.heap.size _ rfl rfl hB1.1.sb ?_
  go_simp
  first
  |exact hK _ ⟨hB1.1.skip (by decide) (by decide), hB1.2⟩
  |exact ⟨hB1.1.skip (by decide) (by decide), hB1.2⟩
 ·exact ⟨_, rfl⟩
 apply Ya4 rfl rfl
 ·intro d K hd hK w1 hB1
  have cg := Ya hB1.1.g
  have HB1 := Yh_ hB1
  clear hB1
  go_wp2_with fail
  first
  |exact hK _ ⟨HB1.out.1.skip (by decide) (by decide), HB1.out.2⟩
  |exact ⟨HB1.out.1.skip (by decide) (by decide), HB1.out.2⟩
 ·exact ⟨_, rfl⟩
 apply Ya4 rfl rfl
 ·intro d K hd hK w1 hB1
  have HB1 := Yh_ hB1
  clear hB1
  go_wp2_with fail
  first
  |exact hK _ ⟨HB1.out.1.skip (by decide) (by decide), HB1.out.2⟩
  |exact ⟨HB1.out.1.skip (by decide) (by decide), HB1.out.2⟩
 ·exact ⟨_, rfl⟩
 apply Ya4 rfl rfl
 ·intro d K hd hK w1 hB1
  obtain ⟨X, hX, _⟩ := hB1.1.r
  refine Yas s (w.heap.size + 1 + 1) _ _ rfl rfl rfl hX rfl ?_
  intro w' hw'
  exact hK _ ⟨hw' ▸ hB1.1.st3, hw' ▸ hB1.2.keep (S := [w.heap.size + 1 + 1]) ((Upd.refl _ _).setCells (by simp) _ _) (by have := HM.out.al; simp; omega) (by have := HM.out.pl; simp; omega)⟩
 ·exact ⟨undef, rfl⟩
 apply Ya4 rfl rfl
 ·intro d K hd hK w1 hB1
  obtain ⟨Y, hY, _⟩ := hB1.1.f
  have cf := Ya hY
  have ff := Yn hY
  have HB1 := Yh_ hB1
  clear hB1 hY
  go_wp2_with fail
  have hq := HB1.out.2.keep (S := [w.heap.size + 1 + 1 + 1]) (Ya0 (b := w.heap.size + 1 + 1 + 1) (Upd.refl _ w1) (.inl (by simp)) (.int .i64 (M.wrF (s.place o) 4).k) (.int .u32 (M.wrF (s.place o) 4).pc) (.int .u32 (M.wrF (s.place o) 4).a) (.int .i64 (M.wrF (s.place o) 4).wt)) (by have := HM.out.al; simp; omega) (by have := HM.out.pl; simp; omega)
  first
  |exact hK _ ⟨HB1.out.1.st4, hq⟩
  |exact ⟨HB1.out.1.st4, hq⟩
 ·exact ⟨undef, rfl⟩
 apply Ya4 rfl rfl
 ·intro d K hd hK w1 hB1
  have HB1 := Yh_ hB1
  clear hB1
  go_wp2_with fail
  first
  |exact hK _ ⟨HB1.out.1.skip (by decide) (by decide), HB1.out.2⟩
  |exact ⟨HB1.out.1.skip (by decide) (by decide), HB1.out.2⟩
 ·exact ⟨_, rfl⟩
 refine Yf7 (fun _ w1 d hd hB1 => ?_)
 have HB1 := Yh_ hB1
 obtain ⟨X, hX, hXs⟩ := hB1.1.r
 obtain ⟨Y, hY, hYF⟩ := hB1.1.f
 rw [hXs (hd 3 (by decide))] at hX
 rw [hYF (hd 4 (by decide))] at hY
 have HX := Yh_ hX
 have HY := Yh_ hY
 clear hB1 hX hY hXs hYF hd
 go_wp2_with fail
 refine bodyPost_ret (Yao rfl (Ybe 10 28 (w.heap.size + 1 + 1) _ _ rfl HX.out Tryz.underlying28 rfl (by rw [St.size]; exact Ya8)) (Ybe 11 35 (w.heap.size + 1 + 1 + 1) _ _ rfl HY.out Tryz.underlying35 rfl Ybx) (Yal _ rfl)) rfl ⟨?_, by rw [HW.out]; exact HB1.out.2, HB1.out.1.u⟩
 rw [HV.out, HF.out, HK.out]
 rfl
theorem Yh0 (M : Mem) (a pb : Nat) (s : St) (o : Opd) (b v : Int) (w : World) (hM : Yk w a pb M) (hs : s.Ok) (ho : o.Ok) (hv0 : 0 ≤ v) (hv1 : v < 4294967296) :
  Calls Tryz.prog 65 #[.pointer (some ⟨a, 0, none⟩), .agg s.cells, o.val, .int .i64 b, .int .u32 v] w fun e w' => e = .returned (.tuple #[.agg (opS s o b v).cells, (Ycc M s o b).val, .bool (Ybg M s o b)]) ∧ Yk w' a pb (opM M s o b v) ∧ Upd [pb] w w' := by
 by_cases h1 : o.k = 1
 ·by_cases hb : b = 1
  ·exact Yj2 M a pb s o b v w hM hs ho hv0 hv1 h1 hb
  ·exact Ykr M a pb s o b v w hM hs ho hv0 hv1 h1 hb
 ·by_cases h3 : o.k = 3
  ·by_cases hb : b = 1
   ·exact Yj4 M a pb s o b v w hM hs ho hv0 hv1 h3 hb
   ·exact Ykg M a pb s o b v w hM hs ho hv0 hv1 h3 hb
  ·exact Ylq M a pb s o b v w hM hs ho hv0 hv1 h1 h3
theorem Ylh {s : St} (h : s.Ok) (o : Opd) (b : Int) {v : Int} (h0 : 0 ≤ v) (h1 : v < 4294967296) : (opS s o b v).Ok := by
 unfold opS
 split
 ·split
  ·exact St.setReg8_ok h _ _
  ·exact St.setR_ok h _ h0 h1
 ·exact h
theorem Yok (a pb : Nat) (p : Int) (w : World) (M : Mem) (hM : Yk w a pb M) :
  Calls Tryz.prog 138 #[.pointer (some ⟨a, 0, none⟩), .int .i64 p] w fun e w' => e = .returned (.int .i64 (M.rights p)) ∧ w = w' := by
 by_cases h1 : p < 0
 ·clear hM
  go_enter Tryz.func138, Tryz.ntmps138
  go_wp2
  go_ret
  exact ⟨by simp [Mem.rights, h1], rfl⟩
 ·by_cases h2 : 64 ≤ p
  ·clear hM
   go_enter Tryz.func138, Tryz.ntmps138
   go_wp2
   go_ret
   exact ⟨by simp [Mem.rights, h2], rfl⟩
  ·obtain ⟨c, hc, c0⟩ := hM.c0
   have cR := hM.cR p.toNat (by omega)
   clear hM
   have h1' : 0 ≤ p := by omega
   have h2' : p < 64 := by omega
   go_enter Tryz.func138, Tryz.ntmps138
   go_wp2
   go_ret
   refine ⟨?_, rfl⟩
   have : ¬ (p < 0 ∨ 64 ≤ p) := by omega
   simp [Mem.rights, this]
theorem Yhs (fb kb : Nat) (y0 y1 y2 y3 k0 : Value) (x0 x1 x2 x3 : Int) (older : List PanicEntry) (w : World)
  (hf : w.heap[fb]? = some (.cells #[y0, y1, y2, y3] 35 (0, 0))) (hk : w.heap[kb]? = some (.cells #[k0] 4 (0, 0))) (hne : fb ≠ kb) :
  CallsD Tryz.prog 110 #[.pointer (some ⟨fb, 0, none⟩), .pointer (some ⟨kb, 0, none⟩)] (.panicking ({ v := .iface 35 (.agg #[.int .i64 x0, .int .u32 x1, .int .u32 x2, .int .i64 x3]), recovered := false } :: older)) w fun e u' w' =>
   e = .returned (.tuple #[]) ∧ u' = .panicking ({ v := .iface 35 (.agg #[.int .i64 x0, .int .u32 x1, .int .u32 x2, .int .i64 x3]), recovered := true } :: older) ∧
    w'.heap[fb]? = some (.cells #[.int .i64 x0, .int .u32 x1, .int .u32 x2, .int .i64 x3] 35 (0, 0)) ∧ w'.heap[kb]? = some (.cells #[.bool false] 4 (0, 0)) ∧ Upd [fb, kb] w w' := by
 refine callsD_of_wpS Tryz.func110 rfl fun c₀ cs hu => ?_
 simp only [Tryz.ntmps110, List.size_toArray, List.length_cons, List.length_nil, Nat.reduceAdd, Nat.reduceSub, Array.replicate_succ, Array.replicate_zero, List.push_toArray, List.append_toArray, List.nil_append, List.cons_append]
 apply wpS_seq
 apply wpS_region
 simp [wpOpsS, go_sem, recoverD, hu, Tryz.ntmps110, Exit.thenS]
 refine wpS_of_wp ?_
 clear hu
 have hfl := Yj hf
 have hkl := Yj hk
 have hcf : ∀ o, w.cell? ⟨fb, o, none⟩ = #[y0, y1, y2, y3][o]? := Ya hf
 have hck : ∀ o, w.cell? ⟨kb, o, none⟩ = #[k0][o]? := Ya hk
 have hff : ∀ o, w.frozen? ⟨fb, o, none⟩ = false := Yn hf
 have hfk : ∀ o, w.frozen? ⟨kb, o, none⟩ = false := Yn hk
 have HF := Yh_ hf
 have HK := Yh_ hk
 clear hf hk
 have hta := Yfu
 go_wp2_with fail
 refine ⟨rfl, _, rfl, _, results_none rfl _ _ _, rfl, rfl, ?_, ?_, ?_⟩
 ·refine Ym _ (Yg _ hne ?_)
  have h := Yh (Yh (Yh (Yh HF.out 0 (.int .i64 x0)) 1 (.int .u32 x1)) 2 (.int .u32 x2)) 3 (.int .i64 x3)
  exact h
 ·refine Ym _ ?_
  have h := Yg (a := ⟨fb, 3, none⟩) (.int .i64 x3) hne.symm (Yg (a := ⟨fb, 2, none⟩) (.int .u32 x2) hne.symm (Yg (a := ⟨fb, 1, none⟩) (.int .u32 x1) hne.symm (Yg (a := ⟨fb, 0, none⟩) (.int .i64 x0) hne.symm HK.out)))
  exact Yh h 0 (.bool false)
 ·exact ((((((Upd.refl _ _).setCell (by simp) _).setCell (by simp) _).setCell (by simp) _).setCell (by simp) _).setCell (by simp) _).alloc _
theorem Ykq (fb kb : Nat) (w : World) :
  CallsD Tryz.prog 110 #[.pointer (some ⟨fb, 0, none⟩), .pointer (some ⟨kb, 0, none⟩)] .returning w fun e u' w' => e = .returned (.tuple #[]) ∧ u' = .returning ∧ w = w' := by
 refine callsD_of_wpS Tryz.func110 rfl fun c₀ cs hu => ?_
 simp only [Tryz.ntmps110, List.size_toArray, List.length_cons, List.length_nil, Nat.reduceAdd, Nat.reduceSub, Array.replicate_succ, Array.replicate_zero, List.push_toArray, List.append_toArray, List.nil_append, List.cons_append]
 apply wpS_seq
 apply wpS_region
 simp [wpOpsS, go_sem, recoverD, hu, Tryz.ntmps110, Exit.thenS]
 refine wpS_of_wp ?_
 have HU := Yh_ hu
 clear hu
 go_wp2_with fail
 refine ⟨rfl, .returning, ?_, _, results_none rfl _ _ _, rfl, rfl, rfl⟩
 rw [← HU.out]
def Yod (fb kb : Nat) : List Deferred :=
 [{ target := .fn (.func 110) #[], args := #[.pointer (some ⟨fb, 0, none⟩), .pointer (some ⟨kb, 0, none⟩)] }]
theorem Ynf {fn : Func} {tmps : Array Value} {R : Ending → World → Prop} {w1 : World} {fb kb : Nat} {y0 y1 y2 y3 k0 : Value} (F : Flt) (V : Value)
  (hres : ∀ w2, w2.heap[fb]? = some (.cells #[.int .i64 F.k, .int .u32 F.pc, .int .u32 F.a, .int .i64 F.wt] 35 (0, 0)) → w2.heap[kb]? = some (.cells #[.bool false] 4 (0, 0)) → Upd [fb, kb] w1 w2 → (results fn tmps).run Tryz.prog w2 = .ok V w2)
  (hf : w1.heap[fb]? = some (.cells #[y0, y1, y2, y3] 35 (0, 0))) (hk : w1.heap[kb]? = some (.cells #[k0] 4 (0, 0))) (hne : fb ≠ kb)
  (hR : ∀ w2, Upd [fb, kb] w1 w2 → R (.returned V) w2) :
  Leaves Tryz.prog fn tmps R (Yod fb kb) (.panicking [{ v := .iface 35 F.val, recovered := false }]) w1 := by
 refine leaves_cons (f := 110) (args := #[.pointer (some ⟨fb, 0, none⟩), .pointer (some ⟨kb, 0, none⟩)]) (by simp) (by simp [go_sem]) ?_
 refine (Yhs fb kb _ _ _ _ _ _ _ _ _ [] w1 hf hk hne).mono ?_
 rintro e u' w2 ⟨rfl, rfl, hf, hk, hU⟩
 simp only [settle, List.dropWhile_nil]
 exact ⟨_, hres w2 hf hk hU, hR _ hU⟩
theorem Ypp {fn : Func} {tmps : Array Value} {R : Ending → World → Prop} {w1 : World} {fb kb : Nat} (V : Value) (hres : (results fn tmps).run Tryz.prog w1 = .ok V w1) (hR : R (.returned V) w1) :
  Leaves Tryz.prog fn tmps R (Yod fb kb) .returning w1 := by
 refine leaves_cons (f := 110) (args := #[.pointer (some ⟨fb, 0, none⟩), .pointer (some ⟨kb, 0, none⟩)]) (by simp) (by simp [go_sem]) ?_
 refine (Ykq _ _ w1).mono ?_
 rintro e u' w2 ⟨rfl, rfl, rfl⟩
 simp only [settle]
 exact ⟨_, hres, hR⟩
theorem Yhw (M : Mem) (a pb : Nat) (x r : Int) (w : World) (hM : Yk w a pb M) (h0 : 0 ≤ x) :
  Calls Tryz.prog 128 #[.pointer (some ⟨a, 0, none⟩), .int .u32 x, .int .i64 r] w fun e w' => e = .returned (.int .i64 (M.lack x r)) ∧ w = w' := by
 by_cases h : x < 16384
 ·have HR := Yh_ (show M.rights (x / 256) = M.R (x / 256).toNat by rw [Mem.rights, if_neg (by omega)])
  have HV := Yh_ (show M.lack x r = lowI (bits .andNot .i64 r (M.R (x / 256).toNat)) by rw [Mem.lack, Mem.rightAt, if_pos h])
  go_enter Tryz.func128, Tryz.ntmps128
  go_wp2_with (go_at_call 138; refine (Yok a pb _ _ M hM).mono ?_; rintro e w' ⟨rfl, rfl⟩; rw [HR.out])
  go_ret
  rw [HV.out]
  exact ⟨rfl, rfl⟩
 ·have HV := Yh_ (show M.lack x r = lowI (bits .andNot .i64 r 0) by rw [Mem.lack, Mem.rightAt, if_neg h])
  go_enter Tryz.func128, Tryz.ntmps128
  go_wp2_with fail
  go_ret
  rw [HV.out]
  exact ⟨rfl, rfl⟩
structure CanB (w w1 : World) : Prop where
 f : w1.heap[w.heap.size]? = some (.cells #[.int .i64 0, .int .u32 0, .int .u32 0, .int .i64 0] 35 (0, 0))
 k : w1.heap[w.heap.size + 1]? = some (.cells #[.bool false] 4 (0, 0))
 u : Upd [] w w1
theorem CanB.start (w : World) : CanB w ((w.alloc (.cells #[.int .i64 0, .int .u32 0, .int .u32 0, .int .i64 0] 35)).alloc (.cells #[.bool false] 4)) :=
 ⟨heap_alloc2_old _ _ _, heap_alloc2_new _ _ _, ((Upd.refl _ _).alloc _).alloc _⟩
theorem Yn5 (M : Mem) (a pb n : Nat) (x r : Int) (w : World) (hM : Yk w a pb M) (h0 : 0 ≤ x) (h1 : x < 4294967296) (hn : n ≤ 16) :
  Calls Tryz.prog 97 #[.pointer (some ⟨a, 0, none⟩), .int .u32 x, .int .i64 n, .int .i64 r] w fun e w' => e = .returned (.tuple #[(M.canF x n r).val, .bool (M.canK x n r)]) ∧ Upd [] w w' := by
 have HS := Yh_ (CanB.start w)
 have HM := Yh_ hM
 clear hM
 go_enter_defers Tryz.func97, Tryz.ntmps97
 go_wp2
 go_loopw [14] (fun i wr => ∃ j : Nat, j ≤ n ∧ i = .int .i64 j ∧ (∀ t, t < j → M.lack (Yac x t) r = 0) ∧ CanB w wr) (fun i _ => n - (intOf i).toNat)
 case atStart => exact ⟨0, Nat.zero_le _, rfl, by simp, HS.out⟩
 case round =>
  obtain ⟨j, hj, rfl, hcan, hB⟩ := hrel
  have HC := Yh_ hcan
  have HB := Yh_ hB
  clear hcan hB
  by_cases hlt : j < n
  ·have hd : decide ((j : Int) < n) = true := by simp; omega
   have q1 : (j : Int) % 4294967296 = j := by omega
   have q2 : (x + j) % 4294967296 = Yac x j := rfl
   by_cases hb : M.lack (Yac x j) r = 0
   ·have HG := Yh_ hb
    clear hb
    go_wp2_with (go_at_call 128; refine (Yhw M a pb (Yac x j) r _ (HM.out.keep HB.out.u (by simp) (by simp)) (Ybd x j)).mono ?_; rintro e w2 ⟨rfl, rfl⟩; rw [HG.out])
    go_roundw
    case rel => exact ⟨j + 1, by omega, by go_num, fun t ht => by
      by_cases e : t = j
      ·subst e; exact HG.out
      ·exact HC.out t (by omega), HB.out⟩
    case measure => simp [intOf]; omega
   ·have hb2 : (M.lack (Yac x j) r == 0) = false := by simpa using hb
    have HG := Yh_ hb
    clear hb
    go_wp2_with (go_at_call 128; refine (Yhw M a pb (Yac x j) r _ (HM.out.keep HB.out.u (by simp) (by simp)) (Ybd x j)).mono ?_; rintro e w2 ⟨rfl, rfl⟩)
    have hbad := Ynm M x n r j hlt HC.out HG.out
    refine Ynf (fb := w.heap.size) (kb := w.heap.size + 1) ⟨1, 0, Yac x j, M.lack (Yac x j) r⟩ (.tuple #[(M.canF x n r).val, .bool (M.canK x n r)]) (fun w2 hf hk hU => ?_) HB.out.f HB.out.k (by omega) (fun w2 hU => ⟨rfl, HB.out.u.also hU (by simp <;> omega)⟩)
    rw [Mem.canF, Mem.canK, hbad]
    exact Yaz rfl (Ydf 8 w.heap.size _ rfl hf) (Yeq 9 (w.heap.size + 1) _ rfl hk)
  ·obtain rfl : n = j := by omega
   have cf := Ya HB.out.f
   have ff := Yn HB.out.f
   have ck := Ya HB.out.k
   have fk := Yn HB.out.k
   have hbad := Yh_ (Ym6 M x n r HC.out)
   go_wp2_with fail
   have hF := Yg (a := ⟨w.heap.size + 1, 0, none⟩) (.bool true) (by simp) (Ycu HB.out.f (.int .i64 0) (.int .u32 0) (.int .u32 0) (.int .i64 0))
   have UK := Ya0 (S := [w.heap.size]) (b := w.heap.size) (Upd.refl _ wr) (.inl (by simp)) (.int .i64 0) (.int .u32 0) (.int .u32 0) (.int .i64 0)
   have hK := Yh (UK.get HB.out.k (by simp)) 0 (.bool true)
   refine Ypp (.tuple #[(M.canF x n r).val, .bool (M.canK x n r)]) ?_ ⟨rfl, (Ya0 (b := w.heap.size) HB.out.u (.inr (Nat.le_refl _)) _ _ _ _).setCell (.inr (by simp)) _⟩
   rw [Mem.canF, Mem.canK, hbad.out]
   exact Yaz rfl (Ydf 8 w.heap.size Flt.zero rfl hF) (Yeq 9 (w.heap.size + 1) true rfl hK)
end Go.Proofs.YthakgjpejhjaoaaGreat
