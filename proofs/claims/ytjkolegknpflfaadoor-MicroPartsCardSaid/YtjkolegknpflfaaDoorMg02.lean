/-
  Parts of the proof (their names shortened by a program). No condition.
-/
import Derived.Test.YtjkolegknpflfaaDoorMg01
import Derived.WalkKit
import Derived.StillTailTactics
namespace Go.Proofs.YtjkolegknpflfaaDoor
open Go Go.RowKit
set_option linter.unusedVariables false
set_option linter.unusedSimpArgs false
set_option maxRecDepth 100000
set_option maxHeartbeats 16000000
section
def Ybz (P : Program) (o : Oper) (a : Act) (w : World) (K : Value → World → Prop) (X : List PanicEntry → World → Prop) : Prop :=
 match (execOp a.eval o).run P w with
 |.ok (.value v) w' => K v w'
 |.ok .skip w' => K undef w'
 |.ok (.enter f args) w' => Calls P f args w' fun
   |.returned v, w'' => K v w''
   |.panicked c, w'' => X c w''
   |.outgrown, _ => False
 |.ok (.row row args) w' => Rows P row args w' K
 |.halt (.panic v) w' => X [{ v, recovered := false }] w'
 |_ => False
theorem Yci {P : Program} {o : Oper} {a : Act} {w : World} {K K' : Value → World → Prop} {X X' : List PanicEntry → World → Prop} (h : Ybz P o a w K X)
  (hk : ∀ v w', K v w' → K' v w') (hx : ∀ c w', X c w' → X' c w') : Ybz P o a w K' X' := by
 unfold Ybz at *
 generalize (execOp a.eval o).run P w = r at *
 cases r with
 |ok n w' =>
  cases n
  case value v => exact hk _ _ h
  case skip => exact hk _ _ h
  case enter f args => exact Calls.mono h (fun e w'' he => by cases e <;> first | exact hk _ _ he | exact hx _ _ he | exact he)
  case row row args => exact Rows.mono h (fun _ _ he => hk _ _ he)
  all_goals exact h
 |halt x w' =>
  cases x
  case panic v => exact hx _ _ h
  all_goals exact h
theorem Yb8 {P : Program} {o : Oper} {a : Act} {w : World} {K : Act → World → Prop} {Q : Exit → Act → World → Prop}
  (h : Ybz P o a w (fun v w' => K (a.put o.dst v) w') (fun c w' => Q (.panic c) a w')) : o.wp P a w K Q := by
 unfold Ybz at h
 unfold Oper.wp
 generalize (execOp a.eval o).run P w = r at *
 cases r with
 |ok n w' =>
  cases n
  case value v => exact h
  case skip => exact h
  case enter f args => exact Calls.mono h (fun e w'' he => by cases e <;> first | exact he | exact he.elim)
  case row row args => exact h
  all_goals exact h.elim
 |halt x w' =>
  cases x
  case panic v => exact h
  all_goals exact h.elim
def PX (X : List PanicEntry → World → Prop) : Exit → Act → World → Prop
 |.panic c, _, w => X c w
 |_, _, _ => False
def same (dst : Option Tmp) (n : Nat) (v u : Value) : Prop := ∀ t, dst = some t → t < n → v = u
theorem Ycn {a : Act} {dst : Option Tmp} {v u : Value} (h : a.put dst v = a.put dst u) : same dst a.tmps.size v u := by
 intro t ht hlt
 subst ht
 have := congrArg (fun b : Act => b.tmps[t]?) h
 simpa [Act.put, hlt] using this
theorem Yeg (a : Act) (dst : Option Tmp) (v u : Value) (d : Deferred) : ({ a with defers := d :: a.defers } : Act).put dst v ≠ a.put dst u := by
 intro h
 have := congrArg (fun b : Act => b.defers.length) h
 cases dst <;> simp [Act.put] at this
theorem Ye9 {P : Program} {o : Oper} {a : Act} {w : World} {v : Value} {B : World → Prop} {X : List PanicEntry → World → Prop}
  (h : o.wp P a w (fun a' w' => a' = a.put o.dst v ∧ B w') (PX X)) : Ybz P o a w (fun v' w' => same o.dst a.tmps.size v' v ∧ B w') X := by
 unfold Oper.wp at h
 unfold Ybz
 generalize (execOp a.eval o).run P w = r at *
 cases r with
 |ok n w' =>
  cases n
  case value u => exact ⟨Ycn h.1, h.2⟩
  case skip => exact ⟨Ycn h.1, h.2⟩
  case defer d => exact absurd h.1 (Yeg a o.dst undef v d)
  case enter f args =>
   refine Calls.mono h (fun e w'' he => ?_)
   cases e with
   |returned u => exact ⟨Ycn he.1, he.2⟩
   |panicked c => exact he
   |outgrown => obtain ⟨_, _, hf⟩ := he; exact hf
  case row row args => exact Rows.mono h (fun u w'' he => ⟨Ycn he.1, he.2⟩)
  all_goals exact h
 |halt x w' =>
  cases x
  case panic v => exact h
  all_goals exact h
theorem Yd8 {P : Program} {o : Oper} {a : Act} {w : World} {X : List PanicEntry → World → Prop}
  (h : o.wp P a w (fun _ _ => False) (PX X)) : Ybz P o a w (fun _ _ => False) X := by
 unfold Oper.wp at h
 unfold Ybz
 generalize (execOp a.eval o).run P w = r at *
 cases r with
 |ok n w' =>
  cases n
  case enter f args =>
   refine Calls.mono h (fun e w'' he => ?_)
   cases e with
   |returned u => exact he
   |panicked c => exact he
   |outgrown => obtain ⟨_, _, hf⟩ := he; exact hf
  case row row args => exact Rows.mono h (fun u w'' he => he)
  all_goals exact h
 |halt x w' =>
  cases x
  case panic v => exact h
  all_goals exact h
def Yac (dead : List Nat) (o : Oper) : Bool := o.after.toList.any fun e => Region.binds .any e && dead.contains e.on
def Ycj (P : Program) (ops : Array Oper) (B : World → Prop) (X : List PanicEntry → World → Prop) (fin : List Nat → Act → Prop) : List Nat → Nat → List Oper → Act → Prop
 |dead, _, [], a => fin dead a
 |dead, i, o :: rest, a =>
  (Yac dead o = true ∧ Ycj P ops B X fin (i :: dead) (i + 1) rest a) ∨
  (Yac dead o = false ∧ Region.wanted o (yielded ops a.tmps) = true ∧ ∃ v, (∀ w, B w → o.wp P a w (fun a' w' => a' = a.put o.dst v ∧ B w') (PX X)) ∧ Ycj P ops B X fin dead (i + 1) rest (a.put o.dst v)) ∨
  (Yac dead o = false ∧ Region.wanted o (yielded ops a.tmps) = true ∧ (∀ w, B w → o.wp P a w (fun _ _ => False) (PX X)) ∧ Ycj P ops B X fin (i :: dead) (i + 1) rest a) ∨
  (Yac dead o = false ∧ Region.wanted o (yielded ops a.tmps) = false ∧ Ycj P ops B X fin dead (i + 1) rest (a.put o.dst undef))
section
variable {P : Program} {ops : Array Oper} {B : World → Prop} {X : List PanicEntry → World → Prop} {fin : List Nat → Act → Prop} {dead : List Nat} {i : Nat} {o : Oper} {rest : List Oper} {a : Act}
theorem Yo (h : fin dead a) : Ycj P ops B X fin dead i [] a := h
theorem Yg {a2 : Act} (hd : Yac dead o = false) (hw : Region.wanted o (yielded ops a.tmps) = true)
  (h : ∀ K : Act → World → Prop, (∀ w', B w' → K a2 w') → ∀ w, B w → o.wp P a w K (PX X))
  (hv : ∃ v, a2 = a.put o.dst v) (k : Ycj P ops B X fin dead (i + 1) rest a2) : Ycj P ops B X fin dead i (o :: rest) a := by
 obtain ⟨v, rfl⟩ := hv
 exact .inr (.inl ⟨hd, hw, v, h _ fun w' hB => ⟨rfl, hB⟩, k⟩)
theorem Ye2 (hd : Yac dead o = false) (hw : Region.wanted o (yielded ops a.tmps) = true) (h : ∀ w, B w → o.wp P a w (fun _ _ => False) (PX X))
  (k : Ycj P ops B X fin (i :: dead) (i + 1) rest a) : Ycj P ops B X fin dead i (o :: rest) a := .inr (.inr (.inl ⟨hd, hw, h, k⟩))
theorem Yfb (hd : Yac dead o = true) (k : Ycj P ops B X fin (i :: dead) (i + 1) rest a) : Ycj P ops B X fin dead i (o :: rest) a := .inl ⟨hd, k⟩
end
def Yiv (ops : Array Oper) (n : Nat) : Bool :=
 Region.noSelect ops && decide (n ≤ ops.size) &&
 (List.range n).all fun i =>
  match ops[i]? with
  |none => false
  |some o =>
   (o.after.all fun e => !Region.binds .any e || decide (e.on < i)) &&
   (List.range n).all fun j =>
    match (ops[j]?).bind (·.dst) with
    |none => true
    |some t => (!(o.looksAt ops).contains t || (decide (j < i) && o.after.any fun e => Region.binds .any e && e.on == j)) && (decide (i = j) || o.dst != some t)
structure Ydp (ops : Array Oper) (n : Nat) : Prop where
 sel : ∀ (i : Nat) (o : Oper), ops[i]? = some o → ∀ cs b, o.op ≠ Op.select cs b
 le : n ≤ ops.size
 after : ∀ (i : Nat) (o : Oper), i < n → ops[i]? = some o → ∀ e ∈ o.after, Region.binds .any e = true → e.on < i
 looks : ∀ (i : Nat) (o : Oper) (j : Nat) (oj : Oper) (t : Tmp), i < n → ops[i]? = some o → j < n → ops[j]? = some oj → oj.dst = some t → t ∈ o.looksAt ops → j < i ∧ ∃ e ∈ o.after, Region.binds .any e = true ∧ e.on = j
 dst : ∀ (i : Nat) (o : Oper) (j : Nat) (oj : Oper) (t : Tmp), i < n → ops[i]? = some o → j < n → ops[j]? = some oj → oj.dst = some t → o.dst = some t → i = j
theorem Yen {ops : Array Oper} {n : Nat} (h : Yiv ops n = true) : Ydp ops n := by
 simp only [Yiv, Bool.and_eq_true, decide_eq_true_eq, List.all_eq_true, List.mem_range] at h
 obtain ⟨⟨h1, h2⟩, h3⟩ := h
 refine ⟨fun i o hi cs b => Region.noSelect_spec h1 i o cs b hi, h2, ?_, ?_, ?_⟩
 ·intro i o hi ho e he hb
  have := h3 i hi
  rw [ho] at this
  simp only [Bool.and_eq_true, Array.all_eq_true'] at this
  have := this.1 e he
  simpa [hb] using this
 ·intro i o j oj t hi ho hj hoj hd ht
  have := h3 i hi
  rw [ho] at this
  simp only [Bool.and_eq_true, List.all_eq_true, List.mem_range] at this
  have := this.2 j hj
  simp only [hoj, Option.bind_some, hd, Bool.and_eq_true, Bool.or_eq_true] at this
  rcases this.1 with hc | hc
  ·simp [ht] at hc
  ·simp only [decide_eq_true_eq, Array.any_eq_true', Bool.and_eq_true, beq_iff_eq] at hc
   exact ⟨hc.1, hc.2⟩
 ·intro i o j oj t hi ho hj hoj hd hd2
  have := h3 i hi
  rw [ho] at this
  simp only [Bool.and_eq_true, List.all_eq_true, List.mem_range] at this
  have := this.2 j hj
  simp only [hoj, Option.bind_some, hd, Bool.and_eq_true, Bool.or_eq_true] at this
  rcases this.2 with hc | hc
  ·exact of_decide_eq_true hc
  ·simp [hd2] at hc
theorem Ya8 {ops : Array Oper} {o : Oper} {a b : Act} (hs : ∀ cs c, o.op ≠ Op.select cs c) (h : ∀ t, t ∈ o.looksAt ops → a.tmps[t]? = b.tmps[t]?) :
  execOp a.eval o = execOp b.eval o ∧ Region.wanted o (yielded ops a.tmps) = Region.wanted o (yielded ops b.tmps) := by
 refine ⟨execOp_congr o hs fun x hx => ?_, ?_⟩
 ·cases x with
  |tmp t =>
   have := h t (List.mem_append_left _ (List.mem_filterMap.2 ⟨.tmp t, by simpa using hx, rfl⟩))
   show a.tmps.getD t undef = b.tmps.getD t undef
   rw [Array.getD_eq_getD_getElem?, Array.getD_eq_getD_getElem?, this]
  |_ => rfl
 ·unfold Region.wanted
  cases hg : o.guard with
  |none => rfl
  |some gw =>
   obtain ⟨g, want⟩ := gw
   have hy : yielded ops a.tmps g = yielded ops b.tmps g := by
    unfold yielded
    cases ht : (ops[g]?).bind (·.dst) with
    |none => rfl
    |some t =>
     have := h t (by simp [Oper.looksAt, hg, ht])
     simp only [Option.bind_some, this]
   simp only [hy]
theorem Ya2 {P : Program} {o : Oper} {a b : Act} (h : execOp a.eval o = execOp b.eval o) (w : World) (K : Value → World → Prop) (X : List PanicEntry → World → Prop) : Ybz P o a w K X = Ybz P o b w K X := by
 unfold Ybz; rw [h]
structure Yhy (P : Program) (ops : Array Oper) (B : World → Prop) (X : List PanicEntry → World → Prop) (i n : Nat) (dead : List Nat) (a F : Act) (vs : Nat → Value) : Prop where
 live : ∀ (j : Nat) (o : Oper), i ≤ j → j < n → ops[j]? = some o → j ∉ dead →
  Yac dead o = false ∧ ((Region.wanted o (yielded ops F.tmps) = true ∧ ∀ w, B w → Ybz P o F w (fun v w' => same o.dst a.tmps.size v (vs j) ∧ B w') X) ∨ (Region.wanted o (yielded ops F.tmps) = false ∧ vs j = undef))
 died : ∀ (j : Nat) (o : Oper), i ≤ j → j < n → ops[j]? = some o → j ∈ dead →
  Yac dead o = true ∨ (Region.wanted o (yielded ops F.tmps) = true ∧ ∀ w, B w → Ybz P o F w (fun _ _ => False) X)
 defers : F.defers = a.defers
 size : F.tmps.size = a.tmps.size
 old : ∀ t, (∀ (j : Nat) (oj : Oper), i ≤ j → j < n → ops[j]? = some oj → oj.dst = some t → j ∈ dead) → F.tmps[t]? = a.tmps[t]?
 new : ∀ (j : Nat) (oj : Oper) t, i ≤ j → j < n → ops[j]? = some oj → j ∉ dead → oj.dst = some t → t < a.tmps.size → F.tmps[t]? = some (vs j)
theorem Yau (a : Act) (d : Option Tmp) (v : Value) (t : Tmp) (h : d ≠ some t) : (a.put d v).tmps[t]? = a.tmps[t]? := by
 cases d with
 |none => rfl
 |some e =>
  have : e ≠ t := fun he => h (by rw [he])
  simp [Act.put, Array.getElem?_setIfInBounds_ne this]
theorem Yb5 (a : Act) (t : Tmp) (v : Value) (h : t < a.tmps.size) : (a.put (some t) v).tmps[t]? = some v := by
 simp [Act.put, h]
theorem Yae (a : Act) (d : Option Tmp) (v : Value) : (a.put d v).tmps.size = a.tmps.size := by
 cases d <;> simp [Act.put]
theorem Ya5 (a : Act) (d : Option Tmp) (v : Value) : (a.put d v).defers = a.defers := by
 cases d <;> rfl
theorem Ybf {dead dead' : List Nat} {o : Oper} {i : Nat} (ha : ∀ e ∈ o.after, Region.binds .any e = true → e.on < i) (h : ∀ d, d < i → (d ∈ dead' ↔ d ∈ dead)) : Yac dead' o = Yac dead o := by
 unfold Yac
 rw [Bool.eq_iff_iff]
 simp only [List.any_eq_true, Bool.and_eq_true, List.contains_iff_mem, Array.mem_toList_iff]
 constructor
 ·rintro ⟨e, he, hb, hd⟩; exact ⟨e, he, hb, (h _ (ha e he hb)).1 hd⟩
 ·rintro ⟨e, he, hb, hd⟩; exact ⟨e, he, hb, (h _ (ha e he hb)).2 hd⟩
theorem Ydt {P : Program} {ops : Array Oper} {B : World → Prop} {X : List PanicEntry → World → Prop} {fin : List Nat → Act → Prop} {n : Nat} (hk : Ydp ops n) :
  ∀ (l : List Oper) (i : Nat) (dead : List Nat) (a : Act), (∀ j, j < l.length → l[j]? = ops[i + j]?) → i + l.length = n → (∀ d, d ∈ dead → d < i) → Ycj P ops B X fin dead i l a →
  ∃ (vs : Nat → Value) (dead' : List Nat) (F : Act), fin dead' F ∧ Yhy P ops B X i n dead' a F vs ∧ (∀ d, d < i → (d ∈ dead' ↔ d ∈ dead)) ∧ (∀ d, d ∈ dead' → d < n)
 |[], i, dead, a, _, hn, hd, h => by
  have hin : i = n := by simpa using hn
  refine ⟨fun _ => undef, dead, a, h, ⟨?_, ?_, rfl, rfl, fun _ _ => rfl, ?_⟩, fun _ _ => Iff.rfl, fun d hdd => by have := hd d hdd; omega⟩
  ·intro j o h1 h2; omega
  ·intro j o h1 h2; omega
  ·intro j oj t h1 h2; omega
 |o :: l, i, dead, a, hl, hn, hd, h => by
  simp only [List.length_cons] at hn
  have ho : ops[i]? = some o := by simpa using (hl 0 (by simp)).symm
  have hin : i < n := by omega
  have hl' : ∀ j, j < l.length → l[j]? = ops[i + 1 + j]? := fun j hj => by
   have := hl (j + 1) (by simpa using hj)
   simpa [Nat.add_assoc, Nat.add_comm 1 j] using this
  have haft := hk.after i o hin ho
  -- what the operation looks at stands to the end
  have hstay : ∀ (F b : Act) (dead' : List Nat) (vs : Nat → Value), Yhy P ops B X (i + 1) n dead' b F vs → (∀ t, t ∈ o.looksAt ops → b.tmps[t]? = a.tmps[t]?) → ∀ t, t ∈ o.looksAt ops → a.tmps[t]? = F.tmps[t]? := by
   intro F b dead' vs hr hb t ht
   rw [hr.old t (fun j oj h1 h2 h3 h4 => absurd (hk.looks i o j oj t hin ho h2 h3 h4 ht).1 (by omega)), hb t ht]
  have hput : ∀ (v : Value) t, t ∈ o.looksAt ops → (a.put o.dst v).tmps[t]? = a.tmps[t]? := fun v t ht =>
   Yau _ _ _ _ (fun he => absurd (hk.looks i o i o t hin ho hin ho he ht).1 (by omega))
  rcases h with ⟨hdd, h⟩ | ⟨hdd, hw, v, hv, h⟩ | ⟨hdd, hw, hv, h⟩ | ⟨hdd, hw, h⟩
  ·obtain ⟨vs, dead', F, hf, hr, hdi, hdn⟩ := Ydt hk l (i + 1) (i :: dead) a hl' (by omega) (fun d hm => by
    rcases List.mem_cons.1 hm with rfl | hm
    ·omega
    ·have := hd d hm; omega) h
   have hmem : i ∈ dead' := (hdi i (by omega)).2 (by simp)
   have hdi' : ∀ d, d < i → (d ∈ dead' ↔ d ∈ dead) := fun d hlt => by
    rw [hdi d (by omega)]
    constructor
    ·intro hm; rcases List.mem_cons.1 hm with rfl | hm
     ·omega
     ·exact hm
    ·intro hm; exact List.mem_cons_of_mem _ hm
   refine ⟨vs, dead', F, hf, ⟨?_, ?_, hr.defers, hr.size, ?_, ?_⟩, hdi', hdn⟩
   ·intro j oj h1 h2 h3 h4
    by_cases e : j = i
    ·subst e; exact absurd hmem h4
    ·exact hr.live j oj (by omega) h2 h3 h4
   ·intro j oj h1 h2 h3 h4
    by_cases e : j = i
    ·subst e
     have : oj = o := Option.some.inj (h3.symm.trans ho)
     subst this
     left; rw [Ybf haft hdi']; exact hdd
    ·exact hr.died j oj (by omega) h2 h3 h4
   ·intro t ht; exact hr.old t (fun j oj h1 => ht j oj (by omega))
   ·intro j oj t h1 h2 h3 h4
    by_cases e : j = i
    ·subst e; exact absurd hmem h4
    ·exact hr.new j oj t (by omega) h2 h3 h4
  ·obtain ⟨vs, dead', F, hf, hr, hdi, hdn⟩ := Ydt hk l (i + 1) dead _ hl' (by omega) (fun d hm => by have := hd d hm; omega) h
   have hmem : i ∉ dead' := fun hm => by have := hd i ((hdi i (by omega)).1 hm); omega
   have hs := Ya8 (hk.sel i o ho) (hstay F _ dead' vs hr (hput v))
   have hne : ∀ j, i + 1 ≤ j → (if j = i then v else vs j) = vs j := fun j hj => if_neg (by omega)
   refine ⟨fun j => if j = i then v else vs j, dead', F, hf, ⟨?_, ?_, by rw [hr.defers, Ya5], by rw [hr.size, Yae], ?_, ?_⟩, fun d hlt => hdi d (by omega), hdn⟩
   ·intro j oj h1 h2 h3 h4
    by_cases e : j = i
    ·subst e
     have : oj = o := Option.some.inj (h3.symm.trans ho)
     subst this
     refine ⟨by rw [Ybf haft (fun d hlt => hdi d (by omega))]; exact hdd, .inl ⟨by rw [← hs.2]; exact hw, fun w hB => ?_⟩⟩
     rw [← Ya2 hs.1]
     simp only [if_true]
     exact Ye9 (hv w hB)
    ·simp only [if_neg e]
     have := hr.live j oj (by omega) h2 h3 h4
     rwa [Yae] at this
   ·intro j oj h1 h2 h3 h4
    by_cases e : j = i
    ·subst e; exact absurd h4 hmem
    ·exact hr.died j oj (by omega) h2 h3 h4
   ·intro t ht
    rw [hr.old t (fun j oj h1 => ht j oj (by omega)), Yau _ _ _ _ (fun he => hmem (ht i o (Nat.le_refl _) hin ho he))]
   ·intro j oj t h1 h2 h3 h4 h5 h6
    by_cases e : j = i
    ·subst e
     have : oj = o := Option.some.inj (h3.symm.trans ho)
     subst this
     simp only [if_true]
     rw [hr.old t (fun k ok g1 g2 g3 g4 => absurd (hk.dst j oj k ok t h2 h3 g2 g3 g4 h5) (by omega)), h5, Yb5 _ _ _ h6]
    ·simp only [if_neg e]; exact hr.new j oj t (by omega) h2 h3 h4 h5 (by rw [Yae]; exact h6)
  ·obtain ⟨vs, dead', F, hf, hr, hdi, hdn⟩ := Ydt hk l (i + 1) (i :: dead) a hl' (by omega) (fun d hm => by
    rcases List.mem_cons.1 hm with rfl | hm
    ·omega
    ·have := hd d hm; omega) h
   have hmem : i ∈ dead' := (hdi i (by omega)).2 (by simp)
   have hdi' : ∀ d, d < i → (d ∈ dead' ↔ d ∈ dead) := fun d hlt => by
    rw [hdi d (by omega)]
    constructor
    ·intro hm; rcases List.mem_cons.1 hm with rfl | hm
     ·omega
     ·exact hm
    ·intro hm; exact List.mem_cons_of_mem _ hm
   have hs := Ya8 (hk.sel i o ho) (hstay F _ dead' vs hr (fun _ _ => rfl))
   refine ⟨vs, dead', F, hf, ⟨?_, ?_, hr.defers, hr.size, ?_, ?_⟩, hdi', hdn⟩
   ·intro j oj h1 h2 h3 h4
    by_cases e : j = i
    ·subst e; exact absurd hmem h4
    ·exact hr.live j oj (by omega) h2 h3 h4
   ·intro j oj h1 h2 h3 h4
    by_cases e : j = i
    ·subst e
     have : oj = o := Option.some.inj (h3.symm.trans ho)
     subst this
     right
     refine ⟨by rw [← hs.2]; exact hw, fun w hB => ?_⟩
     rw [← Ya2 hs.1]
     exact Yd8 (hv w hB)
    ·exact hr.died j oj (by omega) h2 h3 h4
   ·intro t ht; exact hr.old t (fun j oj h1 => ht j oj (by omega))
   ·intro j oj t h1 h2 h3 h4
    by_cases e : j = i
    ·subst e; exact absurd hmem h4
    ·exact hr.new j oj t (by omega) h2 h3 h4
  ·obtain ⟨vs, dead', F, hf, hr, hdi, hdn⟩ := Ydt hk l (i + 1) dead _ hl' (by omega) (fun d hm => by have := hd d hm; omega) h
   have hmem : i ∉ dead' := fun hm => by have := hd i ((hdi i (by omega)).1 hm); omega
   have hs := Ya8 (hk.sel i o ho) (hstay F _ dead' vs hr (hput undef))
   refine ⟨fun j => if j = i then undef else vs j, dead', F, hf, ⟨?_, ?_, by rw [hr.defers, Ya5], by rw [hr.size, Yae], ?_, ?_⟩, fun d hlt => hdi d (by omega), hdn⟩
   ·intro j oj h1 h2 h3 h4
    by_cases e : j = i
    ·subst e
     have : oj = o := Option.some.inj (h3.symm.trans ho)
     subst this
     refine ⟨by rw [Ybf haft (fun d hlt => hdi d (by omega))]; exact hdd, .inr ⟨by rw [← hs.2]; exact hw, by simp⟩⟩
    ·simp only [if_neg e]
     have := hr.live j oj (by omega) h2 h3 h4
     rwa [Yae] at this
   ·intro j oj h1 h2 h3 h4
    by_cases e : j = i
    ·subst e; exact absurd h4 hmem
    ·exact hr.died j oj (by omega) h2 h3 h4
   ·intro t ht
    rw [hr.old t (fun j oj h1 => ht j oj (by omega)), Yau _ _ _ _ (fun he => hmem (ht i o (Nat.le_refl _) hin ho he))]
   ·intro j oj t h1 h2 h3 h4 h5 h6
    by_cases e : j = i
    ·subst e
     have : oj = o := Option.some.inj (h3.symm.trans ho)
     subst this
     simp only [if_true]
     rw [hr.old t (fun k ok g1 g2 g3 g4 => absurd (hk.dst j oj k ok t h2 h3 g2 g3 g4 h5) (by omega)), h5, Yb5 _ _ _ h6]
    ·simp only [if_neg e]; exact hr.new j oj t (by omega) h2 h3 h4 h5 (by rw [Yae]; exact h6)
theorem Yic {p q : Nat → Bool} {i : Nat} (hp : p i = true) (hq : q i = false) (h : ∀ j, j ≠ i → p j = q j) : ∀ n, i < n → (List.range n).countP p = (List.range n).countP q + 1
 |0, hn => by omega
 |n + 1, hn => by
  rw [List.range_succ, List.countP_append, List.countP_append]
  by_cases e : i = n
  ·subst e
   have : (List.range i).countP p = (List.range i).countP q := List.countP_congr fun j hj => by
    rw [h j (by have := List.mem_range.1 hj; omega)]
   simp [this, hp, hq]
  ·have := Yic hp hq h n (by omega)
   have hn' : p n = q n := h n (fun e' => e e'.symm)
   simp only [List.countP_cons, List.countP_nil, hn'] at this ⊢
   omega
def Ybo (n : Nat) (listed : Array Bool) : Nat := (List.range n).countP fun i => !listed.getD i true
theorem Yez {n i : Nat} {listed : Array Bool} (hi : i < n) (h : listed.getD i true = false) : Ybo n listed = Ybo n (listed.setIfInBounds i true) + 1 := by
 refine Yic (i := i) (by simp only [h]; rfl) ?_ ?_ n hi
 ·have hlt : i < listed.size := by
   rcases Nat.lt_or_ge i listed.size with h' | h'
   ·exact h'
   ·simp [Array.getElem?_eq_none h'] at h
  simp [hlt]
 ·intro j hj
  simp only [getD_set_ne true (Ne.symm hj)]
theorem Yem {n : Nat} {listed : Array Bool} (h : Ybo n listed = 0) (i : Nat) (hi : i < n) : listed.getD i true = true := by
 have := List.countP_eq_zero.1 h i (List.mem_range.2 hi)
 simpa using this
structure Ykh (ops : Array Oper) (B : World → Prop) (n : Nat) (dead : List Nat) (a0 F : Act) (listed : Array Bool) (a : Act) (w : World) : Prop where
 head : HeadInv .any ops n listed
 world : B w
 defers : a.defers = a0.defers
 size : a.tmps.size = a0.tmps.size
 live : ∀ (j : Nat), j < n → listed.getD j false = true → j ∉ dead
 old : ∀ t, (∀ (j : Nat) (oj : Oper), j < n → ops[j]? = some oj → oj.dst = some t → listed.getD j false = false) → a.tmps[t]? = a0.tmps[t]?
 new : ∀ (j : Nat) (oj : Oper) t, j < n → ops[j]? = some oj → listed.getD j false = true → oj.dst = some t → a.tmps[t]? = F.tmps[t]?
theorem Ye7 {ops : Array Oper} {n : Nat} (hk : Ydp ops n) {listed : Array Bool} (hs : listed.size = ops.size) : ∀ (i : Nat), i < n → listed.getD i true = false → ∃ j, j < n ∧ j ∈ Region.ready .any ops listed := by
 intro i
 induction i using Nat.strongRecOn with
 |_ i ih =>
  intro hi hun
  have hlt : i < ops.size := by have := hk.le; omega
  obtain ⟨o, ho⟩ : ∃ o, ops[i]? = some o := ⟨ops[i], Array.getElem?_eq_getElem hlt⟩
  by_cases h : ∀ e ∈ o.after, Region.binds .any e = true → listed.getD e.on false = true
  ·exact ⟨i, hi, mem_ready.2 ⟨hun, o, ho, h⟩⟩
  ·simp only [Classical.not_forall] at h
   obtain ⟨e, he, hb, hl⟩ := h
   have hon := hk.after i o hi ho e he hb
   exact ih e.on hon (by omega) (getD_in (by omega) (by simpa using hl))
theorem Yh1 {P : Program} {ops : Array Oper} {B : World → Prop} {X : List PanicEntry → World → Prop} {Q : Exit → Act → World → Prop} {n : Nat} {dead : List Nat} {a0 F : Act} {vs : Nat → Value}
  (hk : Ydp ops n) (hr : Yhy P ops B X 0 n dead a0 F vs) (hdn : ∀ d, d ∈ dead → d < n)
  (hwait : ∀ listed, HeadInv .any ops n listed → ∀ i, i < n → listed.getD i true = false → ∀ t, n ≤ t → t ∉ Region.ready .any ops listed)
  (hX : ∀ c a' w', X c w' → a'.defers = a0.defers → a'.tmps.size = a0.tmps.size → (∀ t, (∀ (j : Nat) (oj : Oper), j < n → ops[j]? = some oj → oj.dst ≠ some t) → a'.tmps[t]? = a0.tmps[t]?) → Q (.panic c) a' w')
  (hfin : ∀ listed w, HeadInv .any ops n listed → (∀ i, i < n → listed.getD i true = true) → dead = [] → B w → wpAny P .any ops Q (ops.size - n) listed F w) :
  ∀ (m : Nat) (listed : Array Bool) (a : Act) (w : World), Ybo n listed = m → Ykh ops B n dead a0 F listed a w → wpAny P .any ops Q (m + (ops.size - n)) listed a w
 |0, listed, a, w, hm, inv => by
  have hall := Yem hm
  have hall' : ∀ i, i < n → listed.getD i false = true := fun i hi => by
   have h1 := hall i hi
   have h2 : i < listed.size := by rw [inv.head.size]; have := hk.le; omega
   simp [h2] at h1 ⊢; exact h1
  have hdead : dead = [] := by
   cases hde : dead with
   |nil => rfl
   |cons d r =>
    have hd : d ∈ dead := by rw [hde]; simp
    exact absurd hd (inv.live d (hdn d hd) (hall' d (hdn d hd)))
  have hF : a = F := by
   have h1 : a.tmps = F.tmps := by
    apply Array.ext_getElem?
    intro t
    by_cases h : ∃ (j : Nat) (oj : Oper), j < n ∧ ops[j]? = some oj ∧ oj.dst = some t
    ·obtain ⟨j, oj, h1, h2, h3⟩ := h
     exact inv.new j oj t h1 h2 (hall' j h1) h3
    ·rw [inv.old t (fun j oj h1 h2 h3 => absurd ⟨j, oj, h1, h2, h3⟩ h), hr.old t (fun j oj _ h1 h2 h3 => absurd ⟨j, oj, h1, h2, h3⟩ h)]
   have h2 : a.defers = F.defers := by rw [inv.defers, hr.defers]
   cases a; cases F; simp_all
  rw [Nat.zero_add, hF]
  exact hfin listed w inv.head hall hdead inv.world
 |m + 1, listed, a, w, hm, inv => by
  rw [show m + 1 + (ops.size - n) = (m + (ops.size - n)) + 1 by omega]
  obtain ⟨i0, hi0, hun0⟩ : ∃ i, i < n ∧ listed.getD i true = false := by
   have : (List.range n).countP (fun i => !listed.getD i true) ≠ 0 := by
    show Ybo n listed ≠ 0
    omega
   rw [Ne, List.countP_eq_zero] at this
   simp only [Classical.not_forall] at this
   obtain ⟨i, hi, h⟩ := this
   exact ⟨i, List.mem_range.1 hi, by simpa using h⟩
  have hrd := Ye7 hk inv.head.size i0 hi0 hun0
  refine ⟨fun h0 => ?_, fun i hi => ?_⟩
  ·obtain ⟨j, _, hj⟩ := hrd
   rw [h0] at hj; cases hj
  ·have hin : i < n := by
    rcases Nat.lt_or_ge i n with h | h
    ·exact h
    ·exact absurd hi (hwait listed inv.head i0 hi0 hun0 i h)
   obtain ⟨hun, o, ho, hall⟩ := mem_ready.1 hi
   have hunf : listed.getD i false = false := getD_both hun
   have hm' := Yez hin hun
   -- what the operation looks at is as in the frame at the head's end
   have hlook : ∀ t, t ∈ o.looksAt ops → a.tmps[t]? = F.tmps[t]? := by
    intro t ht
    by_cases h : ∃ (j : Nat) (oj : Oper), j < n ∧ ops[j]? = some oj ∧ oj.dst = some t
    ·obtain ⟨j, oj, h1, h2, h3⟩ := h
     obtain ⟨_, e, he, hb, hon⟩ := hk.looks i o j oj t hin ho h1 h2 h3 ht
     exact inv.new j oj t h1 h2 (by rw [← hon]; exact hall e he hb) h3
    ·rw [inv.old t (fun j oj h1 h2 h3 => absurd ⟨j, oj, h1, h2, h3⟩ h), hr.old t (fun j oj _ h1 h2 h3 => absurd ⟨j, oj, h1, h2, h3⟩ h)]
   have hs := Ya8 (hk.sel i o ho) hlook
   have hnd : Yac dead o = false := by
    rw [Bool.eq_false_iff]
    intro hd
    simp only [Yac, List.any_eq_true, Bool.and_eq_true, List.contains_iff_mem, Array.mem_toList_iff] at hd
    obtain ⟨e, he, hb, hm⟩ := hd
    exact inv.live e.on (hdn _ hm) (hall e he hb) hm
   -- the next frame
   have hnext : ∀ (v : Value) (w' : World), B w' → i ∉ dead → same o.dst a0.tmps.size v (vs i) → Ykh ops B n dead a0 F (listed.setIfInBounds i true) (a.put o.dst v) w' := by
    intro v w' hB hnot hv
    have hlt : i < listed.size := by rw [inv.head.size]; have := hk.le; omega
    refine ⟨inv.head.set hi hin, hB, by rw [Ya5, inv.defers], by rw [Yae, inv.size], ?_, ?_, ?_⟩
    ·intro j hj hl
     by_cases e : i = j
     ·subst e; exact hnot
     ·rw [getD_set_ne false e] at hl; exact inv.live j hj hl
    ·intro t ht
     have hne : o.dst ≠ some t := fun he => by
      have := ht i o hin ho he
      simp [hlt] at this
     rw [Yau _ _ _ _ hne]
     refine inv.old t fun j oj h1 h2 h3 => ?_
     have := ht j oj h1 h2 h3
     by_cases e : i = j
     ·subst e; exact hunf
     ·rwa [getD_set_ne false e] at this
    ·intro j oj t h1 h2 h3 h4
     by_cases e : i = j
     ·subst e
      have : oj = o := Option.some.inj (h2.symm.trans ho)
      subst this
      rcases Nat.lt_or_ge t a.tmps.size with ht | ht
      ·rw [h4, Yb5 _ _ _ ht, hr.new i oj t (Nat.zero_le _) hin ho hnot h4 (by rw [← inv.size]; exact ht), hv t h4 (by rw [← inv.size]; exact ht)]
      ·rw [Array.getElem?_eq_none (by rw [Yae]; exact ht), Array.getElem?_eq_none (by rw [hr.size, ← inv.size]; exact ht)]
     ·rw [getD_set_ne false e] at h3
      have hne : o.dst ≠ some t := fun he => e (hk.dst i o j oj t hin ho h1 h2 h4 he)
      rw [Yau _ _ _ _ hne]
      exact inv.new j oj t h1 h2 h3 h4
   have hpan : ∀ c w', X c w' → Q (.panic c) a w' := fun c w' hx =>
    hX c a w' hx inv.defers inv.size fun t ht => inv.old t fun j oj h1 h2 h3 => absurd h3 (ht j oj h1 h2)
   unfold wpOp
   simp only [ho]
   by_cases hde : i ∈ dead
   ·rcases hr.died i o (Nat.zero_le _) hin ho hde with h | ⟨hw, h⟩
    ·rw [h] at hnd; cases hnd
    ·rw [if_pos (by rw [hs.2]; exact hw)]
     refine .inl (Yb8 ?_)
     rw [Ya2 hs.1]
     exact Yci (h w inv.world) (fun _ _ hf => hf.elim) hpan
   ·obtain ⟨_, ⟨hw, h⟩ | ⟨hw, h⟩⟩ := hr.live i o (Nat.zero_le _) hin ho hde
    ·rw [if_pos (by rw [hs.2]; exact hw)]
     refine .inl (Yb8 ?_)
     rw [Ya2 hs.1]
     refine Yci (h w inv.world) (fun v w' hv => ?_) hpan
     exact Yh1 hk hr hdn hwait hX hfin m _ _ _ (by omega) (hnext v w' hv.2 hde hv.1)
    ·rw [if_neg (by rw [hs.2, hw]; simp)]
     exact Yh1 hk hr hdn hwait hX hfin m _ _ _ (by omega) (hnext undef w inv.world hde (fun _ _ _ => h.symm))
def Yer (ops : Array Oper) (n : Nat) : Bool :=
 Yiv ops n && (decide (n = ops.size) || (decide (n < ops.size) && Region.sinkB .any ops n && Region.chainB .any ops n)) &&
  Region.seqB .any ops (ops.size - n) n (Array.replicate n true ++ Array.replicate (ops.size - n) false)
def noDst (l : List Oper) (n : Nat) (t : Tmp) : Bool := (l.take n).all fun o => o.dst != some t
theorem Ye3 {l : List Oper} {n : Nat} {t : Tmp} (h : noDst l n t = true) : ∀ (j : Nat) (oj : Oper), j < n → l[j]? = some oj → oj.dst ≠ some t := by
 intro j oj hj ho he
 have hm : oj ∈ l.take n := List.mem_of_getElem? (i := j) (by rw [List.getElem?_take, if_pos hj]; exact ho)
 have := List.all_eq_true.1 h oj hm
 simp [he] at this
theorem Yx {P : Program} {id : Nat} {Q : Exit → Act → World → Prop} {a : Act} {w : World} {l : List Oper} (n : Nat) (B : World → Prop) (X : List PanicEntry → World → Prop) (hm : P.follows .mixedOrders = true) (hok : Yer l.toArray n = true)
  (hB : B w.drew)
  (hX : ∀ c a' w', X c w' → a'.defers = a.defers → a'.tmps.size = a.tmps.size → (∀ t, noDst l n t = true → a'.tmps[t]? = a.tmps[t]?) → Q (.panic c) a' w')
  (h : Ycj P l.toArray B X (fun dead F => dead = [] → ∀ w1, B w1 → wpList P l.toArray Q (l.drop n) F w1) [] 0 (l.take n) a) : (Code.region id l.toArray true).wp P Q a w := by
 simp only [Yer, Bool.and_eq_true, Bool.or_eq_true, decide_eq_true_eq] at hok
 obtain ⟨⟨hh, ht⟩, hq⟩ := hok
 have hk := Yen hh
 have hle : n ≤ l.length := by simpa using hk.le
 have htl : (l.take n).length = n := by simp; omega
 obtain ⟨vs, dead, F, hf, hr, _, hdn⟩ := Ydt hk (l.take n) 0 [] a (fun j hj => by
  have hj' : j < n := by rw [htl] at hj; exact hj
  simp [hj']) (by simpa using htl) (by simp) h
 have hun : Ybo n (Array.replicate l.toArray.size false) = n := by
  have : ∀ i, i ∈ List.range n → (!(Array.replicate l.toArray.size false).getD i true) = true := fun i hi => by
   have hi' : i < l.toArray.size := by have := List.mem_range.1 hi; simp; omega
   have hi'' : i < l.length := by simpa using hi'
   simp [hi'']
  unfold Ybo
  rw [List.countP_eq_length.2 this, List.length_range]
 have inv0 : HeadInv .any l.toArray n (Array.replicate l.toArray.size false) :=
  ⟨by simp, fun j oj _ hl => (by rw [getD_replicate_false] at hl; cases hl), fun t _ ht => getD_in (by simpa using ht) (getD_replicate_false _ _)⟩
 have hgo := Yh1 (Q := Q) hk hr hdn ?_ (fun c a' w' hx h1 h2 h3 => hX c a' w' hx h1 h2 fun t ht' => h3 t fun j oj g1 g2 => Ye3 ht' j oj g1 (by simpa using g2)) ?_ n _ a w.drew hun
  ⟨inv0, hB, rfl, rfl, fun j _ hl => (by rw [getD_replicate_false] at hl; cases hl), fun _ _ => rfl, fun j oj t _ _ hl => (by rw [getD_replicate_false] at hl; cases hl)⟩
 ·refine wp_region_any hm ?_
  rw [show n + (l.toArray.size - n) = l.toArray.size by simp; omega] at hgo
  exact hgo
 ·intro listed inv i hi hun t hnt
  rcases ht with ht | ⟨⟨h1, h2⟩, h3⟩
  ·intro hrd
   obtain ⟨_, o, ho, _⟩ := mem_ready.1 hrd
   have := (Array.getElem?_eq_some_iff.1 ho).1
   omega
  ·exact tail_waits h2 h3 h1 inv _ i rfl hi hun t hnt
 ·intro listed w1 inv hall hd hBw
  have hlst : listed = Array.replicate n true ++ Array.replicate (l.toArray.size - n) false := by
   apply Array.ext
   ·rw [inv.size]; simp; omega
   ·intro i h1 h2
    by_cases hi : i < n
    ·have := hall i hi
     simp [h1] at this
     rw [this, Array.getElem_append_left (by simpa using hi)]
     simp
    ·have := inv.tail i (by omega) (by rw [← inv.size]; exact h1)
     simp [h1] at this
     rw [this, Array.getElem_append_right (by simpa using hi)]
     simp
  have hdl : (l.drop n).length = l.toArray.size - n := by simp
  have := wpAny_of_seq (md := .any) (P := P) (ops := l.toArray) (Q' := Q) (l.drop n) n listed F w1 (fun j => by simp [List.getElem?_drop]) (by rw [hdl, hlst]; exact hq) (hf hd w1 hBw)
  rwa [hdl] at this
end
end Go.Proofs.YtjkolegknpflfaaDoor
