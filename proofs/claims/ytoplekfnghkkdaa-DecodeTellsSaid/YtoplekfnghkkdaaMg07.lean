/-
  A region whose order of operations is drawn, with an invariant that knows which operations are done. No condition; no program here.
-/
import Derived.Test.YtoplekfnghkkdaaMg02
namespace Go.Proofs.Ytoplekfnghkkdaa
open Go Go.RowKit
set_option linter.unusedVariables false
set_option linter.unusedSimpArgs false

def updD (d : Nat → Bool) (i : Nat) : Nat → Bool := fun j => if j = i then true else d j
def doneD (listed : Array Bool) : Nat → Bool := fun j => listed.getD j false

theorem doneD_set {listed : Array Bool} {i : Nat} (h : i < listed.size) : doneD (listed.setIfInBounds i true) = updD (doneD listed) i := by
  funext j
  simp only [doneD, updD]
  by_cases e : j = i
  · subst e; simp [h]
  · rw [if_neg e, getD_set_ne false (fun h => e h.symm)]

theorem doneD_none (n : Nat) : doneD (Array.replicate n false) = fun _ => false := by
  funext j; exact getD_replicate_false _ _

/-- The head of a region, walked in the text's order. 'B': what holds of the world all along; 'X': what a panic leaves. -/
def headD (P : Program) (ops : Array Oper) (B : (Nat → Bool) → World → Prop) (X : List PanicEntry → World → Prop) (fin : List Nat → Act → Prop) : List Nat → Nat → List Oper → Act → Prop
  | dead, _, [], a => fin dead a
  | dead, i, o :: rest, a =>
    (deadDep dead o = true ∧ headD P ops B X fin (i :: dead) (i + 1) rest a) ∨
    (deadDep dead o = false ∧ Region.wanted o (yielded ops a.tmps) = true ∧ ∃ v, (∀ d w, d i = false → B d w → o.wp P a w (fun a' w' => a' = a.put o.dst v ∧ B (updD d i) w') (PX X)) ∧ headD P ops B X fin dead (i + 1) rest (a.put o.dst v)) ∨
    (deadDep dead o = false ∧ Region.wanted o (yielded ops a.tmps) = true ∧ (∀ d w, d i = false → B d w → o.wp P a w (fun _ _ => False) (PX X)) ∧ headD P ops B X fin (i :: dead) (i + 1) rest a) ∨
    (deadDep dead o = false ∧ Region.wanted o (yielded ops a.tmps) = false ∧ (∀ d w, d i = false → B d w → B (updD d i) w) ∧ headD P ops B X fin dead (i + 1) rest (a.put o.dst undef))

section
variable {P : Program} {ops : Array Oper} {B : (Nat → Bool) → World → Prop} {X : List PanicEntry → World → Prop} {fin : List Nat → Act → Prop} {dead : List Nat} {i : Nat} {o : Oper} {rest : List Oper} {a : Act}

theorem headD_nil (h : fin dead a) : headD P ops B X fin dead i [] a := h

theorem headD_val {a2 : Act} (hd : deadDep dead o = false) (hw : Region.wanted o (yielded ops a.tmps) = true)
    (h : ∀ (d : Nat → Bool) (K : Act → World → Prop), d i = false → (∀ w', B (updD d i) w' → K a2 w') → ∀ w, B d w → o.wp P a w K (PX X))
    (hv : ∃ v, a2 = a.put o.dst v) (k : headD P ops B X fin dead (i + 1) rest a2) : headD P ops B X fin dead i (o :: rest) a := by
  obtain ⟨v, rfl⟩ := hv
  exact .inr (.inl ⟨hd, hw, v, fun d w hdi hB => h d _ hdi (fun w' hB' => ⟨rfl, hB'⟩) w hB, k⟩)

theorem headD_skip (hd : deadDep dead o = false) (hw : Region.wanted o (yielded ops a.tmps) = false) (hs : ∀ d w, d i = false → B d w → B (updD d i) w) (k : headD P ops B X fin dead (i + 1) rest (a.put o.dst undef)) : headD P ops B X fin dead i (o :: rest) a :=
  .inr (.inr (.inr ⟨hd, hw, hs, k⟩))
end

/-- What the walk of the head tells of each operation, said in the frame at its end. -/
structure HeadResD (P : Program) (ops : Array Oper) (B : (Nat → Bool) → World → Prop) (X : List PanicEntry → World → Prop) (i n : Nat) (dead : List Nat) (a F : Act) (vs : Nat → Value) : Prop where
  live : ∀ (j : Nat) (o : Oper), i ≤ j → j < n → ops[j]? = some o → j ∉ dead →
    deadDep dead o = false ∧ ((Region.wanted o (yielded ops F.tmps) = true ∧ ∀ d w, d j = false → B d w → outc P o F w (fun v w' => same o.dst a.tmps.size v (vs j) ∧ B (updD d j) w') X) ∨ (Region.wanted o (yielded ops F.tmps) = false ∧ vs j = undef ∧ ∀ d w, d j = false → B d w → B (updD d j) w))
  died : ∀ (j : Nat) (o : Oper), i ≤ j → j < n → ops[j]? = some o → j ∈ dead →
    deadDep dead o = true ∨ (Region.wanted o (yielded ops F.tmps) = true ∧ ∀ d w, d j = false → B d w → outc P o F w (fun _ _ => False) X)
  defers : F.defers = a.defers
  size : F.tmps.size = a.tmps.size
  old : ∀ t, (∀ (j : Nat) (oj : Oper), i ≤ j → j < n → ops[j]? = some oj → oj.dst = some t → j ∈ dead) → F.tmps[t]? = a.tmps[t]?
  new : ∀ (j : Nat) (oj : Oper) t, i ≤ j → j < n → ops[j]? = some oj → j ∉ dead → oj.dst = some t → t < a.tmps.size → F.tmps[t]? = some (vs j)

theorem headD_ext {P : Program} {ops : Array Oper} {B : (Nat → Bool) → World → Prop} {X : List PanicEntry → World → Prop} {fin : List Nat → Act → Prop} {n : Nat} (hk : HeadOk ops n) :
    ∀ (l : List Oper) (i : Nat) (dead : List Nat) (a : Act), (∀ j, j < l.length → l[j]? = ops[i + j]?) → i + l.length = n → (∀ d, d ∈ dead → d < i) → headD P ops B X fin dead i l a →
    ∃ (vs : Nat → Value) (dead' : List Nat) (F : Act), fin dead' F ∧ HeadResD P ops B X i n dead' a F vs ∧ (∀ d, d < i → (d ∈ dead' ↔ d ∈ dead)) ∧ (∀ d, d ∈ dead' → d < n)
  | [], i, dead, a, _, hn, hd, h => by
    have hin : i = n := by simpa using hn
    refine ⟨fun _ => undef, dead, a, h, ⟨?_, ?_, rfl, rfl, fun _ _ => rfl, ?_⟩, fun _ _ => Iff.rfl, fun d hdd => by have := hd d hdd; omega⟩
    · intro j o h1 h2; omega
    · intro j o h1 h2; omega
    · intro j oj t h1 h2; omega
  | o :: l, i, dead, a, hl, hn, hd, h => by
    simp only [List.length_cons] at hn
    have ho : ops[i]? = some o := by simpa using (hl 0 (by simp)).symm
    have hin : i < n := by omega
    have hl' : ∀ j, j < l.length → l[j]? = ops[i + 1 + j]? := fun j hj => by
      have := hl (j + 1) (by simpa using hj)
      simpa [Nat.add_assoc, Nat.add_comm 1 j] using this
    have haft := hk.after i o hin ho
    -- what the operation looks at stands to the end
    have hstay : ∀ (F b : Act) (dead' : List Nat) (vs : Nat → Value), HeadResD P ops B X (i + 1) n dead' b F vs → (∀ t, t ∈ o.looksAt ops → b.tmps[t]? = a.tmps[t]?) → ∀ t, t ∈ o.looksAt ops → a.tmps[t]? = F.tmps[t]? := by
      intro F b dead' vs hr hb t ht
      rw [hr.old t (fun j oj h1 h2 h3 h4 => absurd (hk.looks i o j oj t hin ho h2 h3 h4 ht).1 (by omega)), hb t ht]
    have hput : ∀ (v : Value) t, t ∈ o.looksAt ops → (a.put o.dst v).tmps[t]? = a.tmps[t]? := fun v t ht =>
      put_same _ _ _ _ (fun he => absurd (hk.looks i o i o t hin ho hin ho he ht).1 (by omega))
    rcases h with ⟨hdd, h⟩ | ⟨hdd, hw, v, hv, h⟩ | ⟨hdd, hw, hv, h⟩ | ⟨hdd, hw, hsk, h⟩
    · obtain ⟨vs, dead', F, hf, hr, hdi, hdn⟩ := headD_ext hk l (i + 1) (i :: dead) a hl' (by omega) (fun d hm => by
        rcases List.mem_cons.1 hm with rfl | hm
        · omega
        · have := hd d hm; omega) h
      have hmem : i ∈ dead' := (hdi i (by omega)).2 (by simp)
      have hdi' : ∀ d, d < i → (d ∈ dead' ↔ d ∈ dead) := fun d hlt => by
        rw [hdi d (by omega)]
        constructor
        · intro hm; rcases List.mem_cons.1 hm with rfl | hm
          · omega
          · exact hm
        · intro hm; exact List.mem_cons_of_mem _ hm
      refine ⟨vs, dead', F, hf, ⟨?_, ?_, hr.defers, hr.size, ?_, ?_⟩, hdi', hdn⟩
      · intro j oj h1 h2 h3 h4
        by_cases e : j = i
        · subst e; exact absurd hmem h4
        · exact hr.live j oj (by omega) h2 h3 h4
      · intro j oj h1 h2 h3 h4
        by_cases e : j = i
        · subst e
          have : oj = o := Option.some.inj (h3.symm.trans ho)
          subst this
          left; rw [deadDep_iff haft hdi']; exact hdd
        · exact hr.died j oj (by omega) h2 h3 h4
      · intro t ht; exact hr.old t (fun j oj h1 => ht j oj (by omega))
      · intro j oj t h1 h2 h3 h4
        by_cases e : j = i
        · subst e; exact absurd hmem h4
        · exact hr.new j oj t (by omega) h2 h3 h4
    · obtain ⟨vs, dead', F, hf, hr, hdi, hdn⟩ := headD_ext hk l (i + 1) dead _ hl' (by omega) (fun d hm => by have := hd d hm; omega) h
      have hmem : i ∉ dead' := fun hm => by have := hd i ((hdi i (by omega)).1 hm); omega
      have hs := exec_same (hk.sel i o ho) (hstay F _ dead' vs hr (hput v))
      have hne : ∀ j, i + 1 ≤ j → (if j = i then v else vs j) = vs j := fun j hj => if_neg (by omega)
      refine ⟨fun j => if j = i then v else vs j, dead', F, hf, ⟨?_, ?_, by rw [hr.defers, put_defers'], by rw [hr.size, put_size], ?_, ?_⟩, fun d hlt => hdi d (by omega), hdn⟩
      · intro j oj h1 h2 h3 h4
        by_cases e : j = i
        · subst e
          have : oj = o := Option.some.inj (h3.symm.trans ho)
          subst this
          refine ⟨by rw [deadDep_iff haft (fun d hlt => hdi d (by omega))]; exact hdd, .inl ⟨by rw [← hs.2]; exact hw, fun d w hd0 hB => ?_⟩⟩
          rw [← outc_same hs.1]
          simp only [if_true]
          exact outc_of_wp (hv d w hd0 hB)
        · simp only [if_neg e]
          have := hr.live j oj (by omega) h2 h3 h4
          rwa [put_size] at this
      · intro j oj h1 h2 h3 h4
        by_cases e : j = i
        · subst e; exact absurd h4 hmem
        · exact hr.died j oj (by omega) h2 h3 h4
      · intro t ht
        rw [hr.old t (fun j oj h1 => ht j oj (by omega)), put_same _ _ _ _ (fun he => hmem (ht i o (Nat.le_refl _) hin ho he))]
      · intro j oj t h1 h2 h3 h4 h5 h6
        by_cases e : j = i
        · subst e
          have : oj = o := Option.some.inj (h3.symm.trans ho)
          subst this
          simp only [if_true]
          rw [hr.old t (fun k ok g1 g2 g3 g4 => absurd (hk.dst j oj k ok t h2 h3 g2 g3 g4 h5) (by omega)), h5, put_new _ _ _ h6]
        · simp only [if_neg e]; exact hr.new j oj t (by omega) h2 h3 h4 h5 (by rw [put_size]; exact h6)
    · obtain ⟨vs, dead', F, hf, hr, hdi, hdn⟩ := headD_ext hk l (i + 1) (i :: dead) a hl' (by omega) (fun d hm => by
        rcases List.mem_cons.1 hm with rfl | hm
        · omega
        · have := hd d hm; omega) h
      have hmem : i ∈ dead' := (hdi i (by omega)).2 (by simp)
      have hdi' : ∀ d, d < i → (d ∈ dead' ↔ d ∈ dead) := fun d hlt => by
        rw [hdi d (by omega)]
        constructor
        · intro hm; rcases List.mem_cons.1 hm with rfl | hm
          · omega
          · exact hm
        · intro hm; exact List.mem_cons_of_mem _ hm
      have hs := exec_same (hk.sel i o ho) (hstay F _ dead' vs hr (fun _ _ => rfl))
      refine ⟨vs, dead', F, hf, ⟨?_, ?_, hr.defers, hr.size, ?_, ?_⟩, hdi', hdn⟩
      · intro j oj h1 h2 h3 h4
        by_cases e : j = i
        · subst e; exact absurd hmem h4
        · exact hr.live j oj (by omega) h2 h3 h4
      · intro j oj h1 h2 h3 h4
        by_cases e : j = i
        · subst e
          have : oj = o := Option.some.inj (h3.symm.trans ho)
          subst this
          right
          refine ⟨by rw [← hs.2]; exact hw, fun d w hd0 hB => ?_⟩
          rw [← outc_same hs.1]
          exact outc_of_dies (hv d w hd0 hB)
        · exact hr.died j oj (by omega) h2 h3 h4
      · intro t ht; exact hr.old t (fun j oj h1 => ht j oj (by omega))
      · intro j oj t h1 h2 h3 h4
        by_cases e : j = i
        · subst e; exact absurd hmem h4
        · exact hr.new j oj t (by omega) h2 h3 h4
    · obtain ⟨vs, dead', F, hf, hr, hdi, hdn⟩ := headD_ext hk l (i + 1) dead _ hl' (by omega) (fun d hm => by have := hd d hm; omega) h
      have hmem : i ∉ dead' := fun hm => by have := hd i ((hdi i (by omega)).1 hm); omega
      have hs := exec_same (hk.sel i o ho) (hstay F _ dead' vs hr (hput undef))
      refine ⟨fun j => if j = i then undef else vs j, dead', F, hf, ⟨?_, ?_, by rw [hr.defers, put_defers'], by rw [hr.size, put_size], ?_, ?_⟩, fun d hlt => hdi d (by omega), hdn⟩
      · intro j oj h1 h2 h3 h4
        by_cases e : j = i
        · subst e
          have : oj = o := Option.some.inj (h3.symm.trans ho)
          subst this
          refine ⟨by rw [deadDep_iff haft (fun d hlt => hdi d (by omega))]; exact hdd, .inr ⟨by rw [← hs.2]; exact hw, by simp, hsk⟩⟩
        · simp only [if_neg e]
          have := hr.live j oj (by omega) h2 h3 h4
          rwa [put_size] at this
      · intro j oj h1 h2 h3 h4
        by_cases e : j = i
        · subst e; exact absurd h4 hmem
        · exact hr.died j oj (by omega) h2 h3 h4
      · intro t ht
        rw [hr.old t (fun j oj h1 => ht j oj (by omega)), put_same _ _ _ _ (fun he => hmem (ht i o (Nat.le_refl _) hin ho he))]
      · intro j oj t h1 h2 h3 h4 h5 h6
        by_cases e : j = i
        · subst e
          have : oj = o := Option.some.inj (h3.symm.trans ho)
          subst this
          simp only [if_true]
          rw [hr.old t (fun k ok g1 g2 g3 g4 => absurd (hk.dst j oj k ok t h2 h3 g2 g3 g4 h5) (by omega)), h5, put_new _ _ _ h6]
        · simp only [if_neg e]; exact hr.new j oj t (by omega) h2 h3 h4 h5 (by rw [put_size]; exact h6)

/-- Where the head stands. -/
structure DrawInvD (ops : Array Oper) (B : (Nat → Bool) → World → Prop) (n : Nat) (dead : List Nat) (a0 F : Act) (listed : Array Bool) (a : Act) (w : World) : Prop where
  head : HeadInv .any ops n listed
  world : B (doneD listed) w
  defers : a.defers = a0.defers
  size : a.tmps.size = a0.tmps.size
  live : ∀ (j : Nat), j < n → listed.getD j false = true → j ∉ dead
  old : ∀ t, (∀ (j : Nat) (oj : Oper), j < n → ops[j]? = some oj → oj.dst = some t → listed.getD j false = false) → a.tmps[t]? = a0.tmps[t]?
  new : ∀ (j : Nat) (oj : Oper) t, j < n → ops[j]? = some oj → listed.getD j false = true → oj.dst = some t → a.tmps[t]? = F.tmps[t]?

theorem drawD_go {P : Program} {ops : Array Oper} {B : (Nat → Bool) → World → Prop} {X : List PanicEntry → World → Prop} {Q : Exit → Act → World → Prop} {n : Nat} {dead : List Nat} {a0 F : Act} {vs : Nat → Value}
    (hk : HeadOk ops n) (hr : HeadResD P ops B X 0 n dead a0 F vs) (hdn : ∀ d, d ∈ dead → d < n)
    (hwait : ∀ listed, HeadInv .any ops n listed → ∀ i, i < n → listed.getD i true = false → ∀ t, n ≤ t → t ∉ Region.ready .any ops listed)
    (hX : ∀ c a' w', X c w' → a'.defers = a0.defers → a'.tmps.size = a0.tmps.size → (∀ t, (∀ (j : Nat) (oj : Oper), j < n → ops[j]? = some oj → oj.dst ≠ some t) → a'.tmps[t]? = a0.tmps[t]?) → Q (.panic c) a' w')
    (hfin : ∀ listed w, HeadInv .any ops n listed → (∀ i, i < n → listed.getD i true = true) → dead = [] → B (doneD listed) w → wpAny P .any ops Q (ops.size - n) listed F w) :
    ∀ (m : Nat) (listed : Array Bool) (a : Act) (w : World), undone n listed = m → DrawInvD ops B n dead a0 F listed a w → wpAny P .any ops Q (m + (ops.size - n)) listed a w
  | 0, listed, a, w, hm, inv => by
    have hall := undone_zero hm
    have hall' : ∀ i, i < n → listed.getD i false = true := fun i hi => by
      have h1 := hall i hi
      have h2 : i < listed.size := by rw [inv.head.size]; have := hk.le; omega
      simp [h2] at h1 ⊢; exact h1
    have hdead : dead = [] := by
      cases hde : dead with
      | nil => rfl
      | cons d r =>
        have hd : d ∈ dead := by rw [hde]; simp
        exact absurd hd (inv.live d (hdn d hd) (hall' d (hdn d hd)))
    have hF : a = F := by
      have h1 : a.tmps = F.tmps := by
        apply Array.ext_getElem?
        intro t
        by_cases h : ∃ (j : Nat) (oj : Oper), j < n ∧ ops[j]? = some oj ∧ oj.dst = some t
        · obtain ⟨j, oj, h1, h2, h3⟩ := h
          exact inv.new j oj t h1 h2 (hall' j h1) h3
        · rw [inv.old t (fun j oj h1 h2 h3 => absurd ⟨j, oj, h1, h2, h3⟩ h), hr.old t (fun j oj _ h1 h2 h3 => absurd ⟨j, oj, h1, h2, h3⟩ h)]
      have h2 : a.defers = F.defers := by rw [inv.defers, hr.defers]
      cases a; cases F; simp_all
    rw [Nat.zero_add, hF]
    exact hfin listed w inv.head hall hdead inv.world
  | m + 1, listed, a, w, hm, inv => by
    rw [show m + 1 + (ops.size - n) = (m + (ops.size - n)) + 1 by omega]
    obtain ⟨i0, hi0, hun0⟩ : ∃ i, i < n ∧ listed.getD i true = false := by
      have : (List.range n).countP (fun i => !listed.getD i true) ≠ 0 := by
        show undone n listed ≠ 0
        omega
      rw [Ne, List.countP_eq_zero] at this
      simp only [Classical.not_forall] at this
      obtain ⟨i, hi, h⟩ := this
      exact ⟨i, List.mem_range.1 hi, by simpa using h⟩
    have hrd := some_ready hk inv.head.size i0 hi0 hun0
    refine ⟨fun h0 => ?_, fun i hi => ?_⟩
    · obtain ⟨j, _, hj⟩ := hrd
      rw [h0] at hj; cases hj
    · have hin : i < n := by
        rcases Nat.lt_or_ge i n with h | h
        · exact h
        · exact absurd hi (hwait listed inv.head i0 hi0 hun0 i h)
      obtain ⟨hun, o, ho, hall⟩ := mem_ready.1 hi
      have hunf : listed.getD i false = false := getD_both hun
      have hm' := undone_set hin hun
      -- what the operation looks at is as in the frame at the head's end
      have hlook : ∀ t, t ∈ o.looksAt ops → a.tmps[t]? = F.tmps[t]? := by
        intro t ht
        by_cases h : ∃ (j : Nat) (oj : Oper), j < n ∧ ops[j]? = some oj ∧ oj.dst = some t
        · obtain ⟨j, oj, h1, h2, h3⟩ := h
          obtain ⟨_, e, he, hb, hon⟩ := hk.looks i o j oj t hin ho h1 h2 h3 ht
          exact inv.new j oj t h1 h2 (by rw [← hon]; exact hall e he hb) h3
        · rw [inv.old t (fun j oj h1 h2 h3 => absurd ⟨j, oj, h1, h2, h3⟩ h), hr.old t (fun j oj _ h1 h2 h3 => absurd ⟨j, oj, h1, h2, h3⟩ h)]
      have hs := exec_same (hk.sel i o ho) hlook
      have hnd : deadDep dead o = false := by
        rw [Bool.eq_false_iff]
        intro hd
        simp only [deadDep, List.any_eq_true, Bool.and_eq_true, List.contains_iff_mem, Array.mem_toList_iff] at hd
        obtain ⟨e, he, hb, hm⟩ := hd
        exact inv.live e.on (hdn _ hm) (hall e he hb) hm
      -- the next frame
      have hd0 : doneD listed i = false := hunf
      have hnext : ∀ (v : Value) (w' : World), B (updD (doneD listed) i) w' → i ∉ dead → same o.dst a0.tmps.size v (vs i) → DrawInvD ops B n dead a0 F (listed.setIfInBounds i true) (a.put o.dst v) w' := by
        intro v w' hB hnot hv
        have hlt : i < listed.size := by rw [inv.head.size]; have := hk.le; omega
        refine ⟨inv.head.set hi hin, by rw [doneD_set hlt]; exact hB, by rw [put_defers', inv.defers], by rw [put_size, inv.size], ?_, ?_, ?_⟩
        · intro j hj hl
          by_cases e : i = j
          · subst e; exact hnot
          · rw [getD_set_ne false e] at hl; exact inv.live j hj hl
        · intro t ht
          have hne : o.dst ≠ some t := fun he => by
            have := ht i o hin ho he
            simp [hlt] at this
          rw [put_same _ _ _ _ hne]
          refine inv.old t fun j oj h1 h2 h3 => ?_
          have := ht j oj h1 h2 h3
          by_cases e : i = j
          · subst e; exact hunf
          · rwa [getD_set_ne false e] at this
        · intro j oj t h1 h2 h3 h4
          by_cases e : i = j
          · subst e
            have : oj = o := Option.some.inj (h2.symm.trans ho)
            subst this
            rcases Nat.lt_or_ge t a.tmps.size with ht | ht
            · rw [h4, put_new _ _ _ ht, hr.new i oj t (Nat.zero_le _) hin ho hnot h4 (by rw [← inv.size]; exact ht), hv t h4 (by rw [← inv.size]; exact ht)]
            · rw [Array.getElem?_eq_none (by rw [put_size]; exact ht), Array.getElem?_eq_none (by rw [hr.size, ← inv.size]; exact ht)]
          · rw [getD_set_ne false e] at h3
            have hne : o.dst ≠ some t := fun he => e (hk.dst i o j oj t hin ho h1 h2 h4 he)
            rw [put_same _ _ _ _ hne]
            exact inv.new j oj t h1 h2 h3 h4
      have hpan : ∀ c w', X c w' → Q (.panic c) a w' := fun c w' hx =>
        hX c a w' hx inv.defers inv.size fun t ht => inv.old t fun j oj h1 h2 h3 => absurd h3 (ht j oj h1 h2)
      unfold wpOp
      simp only [ho]
      by_cases hde : i ∈ dead
      · rcases hr.died i o (Nat.zero_le _) hin ho hde with h | ⟨hw, h⟩
        · rw [h] at hnd; cases hnd
        · rw [if_pos (by rw [hs.2]; exact hw)]
          refine .inl (wp_of_outc ?_)
          rw [outc_same hs.1]
          exact outc_mono (h _ w hd0 inv.world) (fun _ _ hf => hf.elim) hpan
      · obtain ⟨_, ⟨hw, h⟩ | ⟨hw, h, hsk⟩⟩ := hr.live i o (Nat.zero_le _) hin ho hde
        · rw [if_pos (by rw [hs.2]; exact hw)]
          refine .inl (wp_of_outc ?_)
          rw [outc_same hs.1]
          refine outc_mono (h _ w hd0 inv.world) (fun v w' hv => ?_) hpan
          exact drawD_go hk hr hdn hwait hX hfin m _ _ _ (by omega) (hnext v w' hv.2 hde hv.1)
        · rw [if_neg (by rw [hs.2, hw]; simp)]
          exact drawD_go hk hr hdn hwait hX hfin m _ _ _ (by omega) (hnext undef w (hsk _ w hd0 inv.world) hde (fun _ _ _ => h.symm))

/-- A REGION THAT DRAWS ITS ORDER: n operations in whatever order (walked in the text's, against every world of which B holds), then the tail. -/
theorem wp_drawD {P : Program} {id : Nat} {Q : Exit → Act → World → Prop} {a : Act} {w : World} {l : List Oper} (n : Nat) (B : (Nat → Bool) → World → Prop) (X : List PanicEntry → World → Prop) (hm : P.follows .mixedOrders = true) (hok : drawOk l.toArray n = true)
    (hB : B (fun _ => false) w.drew)
    (hX : ∀ c a' w', X c w' → a'.defers = a.defers → a'.tmps.size = a.tmps.size → (∀ t, noDst l n t = true → a'.tmps[t]? = a.tmps[t]?) → Q (.panic c) a' w')
    (h : headD P l.toArray B X (fun dead F => dead = [] → ∀ w1 d, (∀ j, j < n → d j = true) → B d w1 → wpList P l.toArray Q (l.drop n) F w1) [] 0 (l.take n) a) : (Code.region id l.toArray true).wp P Q a w := by
  simp only [drawOk, Bool.and_eq_true, Bool.or_eq_true, decide_eq_true_eq] at hok
  obtain ⟨⟨hh, ht⟩, hq⟩ := hok
  have hk := headOk_spec hh
  have hle : n ≤ l.length := by simpa using hk.le
  have htl : (l.take n).length = n := by simp; omega
  obtain ⟨vs, dead, F, hf, hr, _, hdn⟩ := headD_ext hk (l.take n) 0 [] a (fun j hj => by
    have hj' : j < n := by rw [htl] at hj; exact hj
    simp [hj']) (by simpa using htl) (by simp) h
  have hun : undone n (Array.replicate l.toArray.size false) = n := by
    have : ∀ i, i ∈ List.range n → (!(Array.replicate l.toArray.size false).getD i true) = true := fun i hi => by
      have hi' : i < l.toArray.size := by have := List.mem_range.1 hi; simp; omega
      have hi'' : i < l.length := by simpa using hi'
      simp [hi'']
    unfold undone
    rw [List.countP_eq_length.2 this, List.length_range]
  have inv0 : HeadInv .any l.toArray n (Array.replicate l.toArray.size false) :=
    ⟨by simp, fun j oj _ hl => (by rw [getD_replicate_false] at hl; cases hl), fun t _ ht => getD_in (by simpa using ht) (getD_replicate_false _ _)⟩
  have hgo := drawD_go (Q := Q) hk hr hdn ?_ (fun c a' w' hx h1 h2 h3 => hX c a' w' hx h1 h2 fun t ht' => h3 t fun j oj g1 g2 => noDst_spec ht' j oj g1 (by simpa using g2)) ?_ n _ a w.drew hun
    ⟨inv0, by rw [doneD_none]; exact hB, rfl, rfl, fun j _ hl => (by rw [getD_replicate_false] at hl; cases hl), fun _ _ => rfl, fun j oj t _ _ hl => (by rw [getD_replicate_false] at hl; cases hl)⟩
  · refine wp_region_any hm ?_
    rw [show n + (l.toArray.size - n) = l.toArray.size by simp; omega] at hgo
    exact hgo
  · intro listed inv i hi hun t hnt
    rcases ht with ht | ⟨⟨h1, h2⟩, h3⟩
    · intro hrd
      obtain ⟨_, o, ho, _⟩ := mem_ready.1 hrd
      have := (Array.getElem?_eq_some_iff.1 ho).1
      omega
    · exact tail_waits h2 h3 h1 inv _ i rfl hi hun t hnt
  · intro listed w1 inv hall hd hBw
    have hlst : listed = Array.replicate n true ++ Array.replicate (l.toArray.size - n) false := by
      apply Array.ext
      · rw [inv.size]; simp; omega
      · intro i h1 h2
        by_cases hi : i < n
        · have := hall i hi
          simp [h1] at this
          rw [this, Array.getElem_append_left (by simpa using hi)]
          simp
        · have := inv.tail i (by omega) (by rw [← inv.size]; exact h1)
          simp [h1] at this
          rw [this, Array.getElem_append_right (by simpa using hi)]
          simp
    have hdl : (l.drop n).length = l.toArray.size - n := by simp
    have := wpAny_of_seq (md := .any) (P := P) (ops := l.toArray) (Q' := Q) (l.drop n) n listed F w1 (fun j => by simp [List.getElem?_drop]) (by rw [hdl, hlst]; exact hq) (hf hd w1 (doneD listed) (fun j hj => by
      have h1 := hall j hj
      have h2 : j < listed.size := by rw [inv.size]; have := hk.le; omega
      simp only [doneD]
      simp [h2] at h1 ⊢; exact h1) hBw)
    rwa [hdl] at this


end Go.Proofs.Ytoplekfnghkkdaa
