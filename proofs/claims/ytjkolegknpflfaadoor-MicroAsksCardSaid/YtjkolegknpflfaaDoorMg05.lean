/-
  Parts of the proof (their names shortened by a program). No condition.
-/
import Derived.Test.YtjkolegknpflfaaDoorMg01
import Derived.Test.YtjkolegknpflfaaDoorMg04
import Derived.Test.YtjkolegknpflfaaDoorMg03
import Derived.Outline
import Derived.BigQuiet
import Derived.Deep.QuietTactic
import Derived.Deep.Cut
import Derived.Recover
namespace Go.Proofs.YtjkolegknpflfaaDoor
open Go Go.RowKit
set_option linter.unusedVariables false
set_option linter.unusedSimpArgs false
set_option maxRecDepth 100000
set_option maxHeartbeats 16000000
section
def Ya7 (r : Nat → Value) (i : Nat) (v : Value) : Nat → Value := fun j => if j = i then v else r j
def Yh (ops : Array Oper) (r : Nat → Value) : List Nat → Act → Act
 |[], F => F
 |j :: l, F => (Yh ops r l F).put ((ops[j]?).bind (·.dst)) (r j)
theorem Ybc (ops : Array Oper) (r : Nat → Value) (F : Act) : ∀ l, (Yh ops r l F).tmps.size = F.tmps.size
 |[] => rfl
 |j :: l => by rw [Yh, Yl, Ybc]
theorem Ydi (ops : Array Oper) (r : Nat → Value) (F : Act) : ∀ l, (Yh ops r l F).defers = F.defers
 |[] => rfl
 |j :: l => by rw [Yh, Yad, Ydi]
theorem Ya9 (ops : Array Oper) (r : Nat → Value) (F : Act) (t : Tmp) : ∀ l, (∀ j, j ∈ l → (ops[j]?).bind (·.dst) ≠ some t) → (Yh ops r l F).tmps[t]? = F.tmps[t]?
 |[], _ => rfl
 |j :: l, h => by rw [Yh, Yr _ _ _ _ (h j (by simp)), Ya9 ops r F t l (fun k hk => h k (by simp [hk]))]
theorem Ycc (ops : Array Oper) (r : Nat → Value) (F : Act) (t : Tmp) (hs : t < F.tmps.size) (j : Nat) (hd : (ops[j]?).bind (·.dst) = some t) : ∀ l, j ∈ l → (∀ k, k ∈ l → (ops[k]?).bind (·.dst) = some t → k = j) → (Yh ops r l F).tmps[t]? = some (r j)
 |[], h, _ => by cases h
 |k :: l, h, hu => by
  by_cases e : (ops[k]?).bind (·.dst) = some t
  ·have := hu k (by simp) e
   subst this
   rw [Yh, e, Yay _ _ _ (by rw [Ybc]; exact hs)]
  ·rw [Yh, Yr _ _ _ _ e]
   refine Ycc ops r F t hs j hd l ?_ (fun q hq => hu q (by simp [hq]))
   rcases List.mem_cons.1 h with rfl | h
   ·exact absurd hd e
   ·exact h
theorem Yfp {P : Program} {o : Oper} {a : Act} {w : World} {C : Value → World → Prop} {X : List PanicEntry → World → Prop} {t : Tmp} (ht : o.dst = some t) (hs : t < a.tmps.size)
  (h : o.wp P a w (fun a' w' => ∃ v, a' = a.put o.dst v ∧ C v w') (PX X)) : Yav P o a w C X := by
 have hput : ∀ u v, a.put o.dst u = a.put o.dst v → u = v := fun u v he => Ybe he t ht hs
 unfold Oper.wp at h
 unfold Yav
 generalize (execOp a.eval o).run P w = r at *
 cases r with
 |ok n w' =>
  cases n
  case value u => obtain ⟨v, h1, h2⟩ := h; rw [hput _ _ h1]; exact h2
  case skip => obtain ⟨v, h1, h2⟩ := h; rw [hput _ _ h1]; exact h2
  case defer d => obtain ⟨v, h1, h2⟩ := h; exact absurd h1 (Ycg a o.dst undef v d)
  case enter f args =>
   refine Calls.mono h (fun e w'' he => ?_)
   cases e with
   |returned u => obtain ⟨v, h1, h2⟩ := he; show C u w''; rw [hput _ _ h1]; exact h2
   |panicked c => exact he
   |outgrown => obtain ⟨_, _, hf⟩ := he; exact hf
  case row row args => exact Rows.mono h (fun u w'' he => by obtain ⟨v, h1, h2⟩ := he; rw [hput _ _ h1]; exact h2)
  all_goals exact h
 |halt x w' =>
  cases x
  case panic v => exact h
  all_goals exact h
def Ya4 (P : Program) (ops : Array Oper) (B : (Nat → Bool) → (Nat → Value) → World → Prop) (X : List PanicEntry → World → Prop) (n : Nat) (fin : List Nat → List Nat → Act → Prop) : List Nat → List Nat → Nat → List Oper → Act → Prop
 |dead, free, _, [], a => fin dead free a
 |dead, free, i, o :: rest, a =>
  (Yk dead o = true ∧ Ya4 P ops B X n fin (i :: dead) free (i + 1) rest a) ∨
  (Yk dead o = false ∧ (∀ r, Region.wanted o (yielded ops (Yh ops r free a).tmps) = true) ∧ ∃ v, (∀ d r w, d i = false → (∀ e ∈ o.after, Region.binds .any e = true → d e.on = true) → B d r w → o.wp P (Yh ops r free a) w (fun a' w' => a' = (Yh ops r free a).put o.dst v ∧ B (Yn d i) r w') (PX X)) ∧ Ya4 P ops B X n fin dead free (i + 1) rest (a.put o.dst v)) ∨
  (Yk dead o = false ∧ (∀ r, Region.wanted o (yielded ops (Yh ops r free a).tmps) = true) ∧ (∀ d r w, d i = false → (∀ e ∈ o.after, Region.binds .any e = true → d e.on = true) → B d r w → o.wp P (Yh ops r free a) w (fun _ _ => False) (PX X)) ∧ Ya4 P ops B X n fin (i :: dead) free (i + 1) rest a) ∨
  (Yk dead o = false ∧ (∀ r, Region.wanted o (yielded ops (Yh ops r free a).tmps) = false) ∧ (∀ d r w, d i = false → B d r w → B (Yn d i) r w) ∧ Ya4 P ops B X n fin dead free (i + 1) rest (a.put o.dst undef)) ∨
  (Yk dead o = false ∧ (∀ r, Region.wanted o (yielded ops (Yh ops r free a).tmps) = true) ∧ (∃ t, o.dst = some t ∧ t < a.tmps.size) ∧
   (∀ d r w, d i = false → (∀ e ∈ o.after, Region.binds .any e = true → d e.on = true) → B d r w → o.wp P (Yh ops r free a) w (fun a' w' => ∃ v, a' = (Yh ops r free a).put o.dst v ∧ B (Yn d i) (Ya7 r i v) w') (PX X)) ∧ Ya4 P ops B X n fin dead (i :: free) (i + 1) rest a)
section
variable {P : Program} {ops : Array Oper} {B : (Nat → Bool) → (Nat → Value) → World → Prop} {X : List PanicEntry → World → Prop} {n : Nat} {fin : List Nat → List Nat → Act → Prop} {dead free : List Nat} {i : Nat} {o : Oper} {rest : List Oper} {a : Act}
theorem Yeq (h : fin dead free a) : Ya4 P ops B X n fin dead free i [] a := h
theorem Yy {a2 : (Nat → Value) → Act} (hd : Yk dead o = false) (hw : ∀ r, Region.wanted o (yielded ops (Yh ops r free a).tmps) = true)
  (h : ∀ (d : Nat → Bool) (r : Nat → Value) (K : Act → World → Prop), d i = false → (∀ e ∈ o.after, Region.binds .any e = true → d e.on = true) → (∀ w', B (Yn d i) r w' → K (a2 r) w') → ∀ w, B d r w → o.wp P (Yh ops r free a) w K (PX X))
  {a3 : Act} (ha : ∃ v, (∀ r, a2 r = (Yh ops r free a).put o.dst v) ∧ a3 = a.put o.dst v) (k : Ya4 P ops B X n fin dead free (i + 1) rest a3) : Ya4 P ops B X n fin dead free i (o :: rest) a := by
 obtain ⟨v, hv, rfl⟩ := ha
 exact .inr (.inl ⟨hd, hw, v, fun d r w hdi hdep hB => h d r _ hdi hdep (fun w' hB' => ⟨hv r, hB'⟩) w hB, k⟩)
theorem Ycu {a2 : Act} (hd : Yk dead o = false) (hw : Region.wanted o (yielded ops a.tmps) = true)
  (h : ∀ (d : Nat → Bool) (r : Nat → Value) (K : Act → World → Prop), d i = false → (∀ e ∈ o.after, Region.binds .any e = true → d e.on = true) → (∀ w', B (Yn d i) r w' → K a2 w') → ∀ w, B d r w → o.wp P a w K (PX X))
  (ha : ∃ v, a2 = a.put o.dst v) (k : Ya4 P ops B X n fin dead [] (i + 1) rest a2) : Ya4 P ops B X n fin dead [] i (o :: rest) a := by
 obtain ⟨v, rfl⟩ := ha
 exact .inr (.inl ⟨hd, fun _ => hw, v, fun d r w hdi hdep hB => h d r _ hdi hdep (fun w' hB' => ⟨rfl, hB'⟩) w hB, k⟩)
theorem Yb5 (hd : Yk dead o = false) (hw : ∀ r, Region.wanted o (yielded ops (Yh ops r free a).tmps) = true) (t : Tmp) (ht : o.dst = some t) (hs : t < a.tmps.size)
  (h : ∀ (d : Nat → Bool) (r : Nat → Value) (K : Act → World → Prop), d i = false → ∀ w, B d r w → (∀ v w', B (Yn d i) (Ya7 r i v) w' → K ((Yh ops r free a).put o.dst v) w') → o.wp P (Yh ops r free a) w K (PX X))
  (k : Ya4 P ops B X n fin dead (i :: free) (i + 1) rest a) : Ya4 P ops B X n fin dead free i (o :: rest) a :=
 .inr (.inr (.inr (.inr ⟨hd, hw, ⟨t, ht, hs⟩, fun d r w hdi _ hB => h d r _ hdi w hB (fun v w' hB' => ⟨v, rfl, hB'⟩), k⟩)))
end
structure Yd0 (P : Program) (ops : Array Oper) (B : (Nat → Bool) → (Nat → Value) → World → Prop) (X : List PanicEntry → World → Prop) (i n : Nat) (dead free : List Nat) (a F : Act) (vs : Nat → Value) : Prop where
 live : ∀ (j : Nat) (o : Oper), i ≤ j → j < n → ops[j]? = some o → j ∉ dead → j ∉ free →
  Yk dead o = false ∧ (((∀ r, Region.wanted o (yielded ops (Yh ops r free F).tmps) = true) ∧ ∀ d r w, d j = false → (∀ e ∈ o.after, Region.binds .any e = true → d e.on = true) → B d r w → Yav P o (Yh ops r free F) w (fun v w' => same o.dst a.tmps.size v (vs j) ∧ B (Yn d j) r w') X) ∨ ((∀ r, Region.wanted o (yielded ops (Yh ops r free F).tmps) = false) ∧ vs j = undef ∧ ∀ d r w, d j = false → B d r w → B (Yn d j) r w))
 died : ∀ (j : Nat) (o : Oper), i ≤ j → j < n → ops[j]? = some o → j ∈ dead →
  Yk dead o = true ∨ ((∀ r, Region.wanted o (yielded ops (Yh ops r free F).tmps) = true) ∧ ∀ d r w, d j = false → (∀ e ∈ o.after, Region.binds .any e = true → d e.on = true) → B d r w → Yav P o (Yh ops r free F) w (fun _ _ => False) X)
 freed : ∀ (j : Nat) (o : Oper), i ≤ j → j < n → ops[j]? = some o → j ∈ free →
  j ∉ dead ∧ (∀ r, Region.wanted o (yielded ops (Yh ops r free F).tmps) = true) ∧ (∃ t, o.dst = some t ∧ t < a.tmps.size) ∧ ∀ d r w, d j = false → (∀ e ∈ o.after, Region.binds .any e = true → d e.on = true) → B d r w → Yav P o (Yh ops r free F) w (fun v w' => B (Yn d j) (Ya7 r j v) w') X
 defers : F.defers = a.defers
 size : F.tmps.size = a.tmps.size
 old : ∀ t, (∀ (j : Nat) (oj : Oper), i ≤ j → j < n → ops[j]? = some oj → oj.dst = some t → j ∈ dead ∨ j ∈ free) → F.tmps[t]? = a.tmps[t]?
 new : ∀ (j : Nat) (oj : Oper) t, i ≤ j → j < n → ops[j]? = some oj → j ∉ dead → j ∉ free → oj.dst = some t → t < a.tmps.size → F.tmps[t]? = some (vs j)
theorem Yd3 {i : Nat} {dead dead' : List Nat} (h : ∀ d, d < i + 1 → (d ∈ dead' ↔ d ∈ i :: dead)) : i ∈ dead' ∧ ∀ d, d < i → (d ∈ dead' ↔ d ∈ dead) := by
 refine ⟨(h i (by omega)).2 (by simp), fun d hlt => ?_⟩
 rw [h d (by omega)]
 constructor
 ·intro hm; rcases List.mem_cons.1 hm with rfl | hm
  ·omega
  ·exact hm
 ·intro hm; exact List.mem_cons_of_mem _ hm
theorem Yen {i : Nat} {dead : List Nat} (hd : ∀ d, d ∈ dead → d < i) : ∀ d, d ∈ i :: dead → d < i + 1 := by
 intro d hm
 rcases List.mem_cons.1 hm with rfl | hm
 ·omega
 ·have := hd d hm; omega
theorem Ybl {P : Program} {ops : Array Oper} {B : (Nat → Bool) → (Nat → Value) → World → Prop} {X : List PanicEntry → World → Prop} {n : Nat} {fin : List Nat → List Nat → Act → Prop} (hk : Ybw ops n) :
  ∀ (l : List Oper) (i : Nat) (dead free : List Nat) (a : Act), (∀ j, j < l.length → l[j]? = ops[i + j]?) → i + l.length = n → (∀ d, d ∈ dead → d < i) → (∀ d, d ∈ free → d < i) → Ya4 P ops B X n fin dead free i l a →
  ∃ (vs : Nat → Value) (dead' free' : List Nat) (F : Act), fin dead' free' F ∧ Yd0 P ops B X i n dead' free' a F vs ∧ (∀ d, d < i → (d ∈ dead' ↔ d ∈ dead)) ∧ (∀ d, d ∈ dead' → d < n) ∧ (∀ d, d < i → (d ∈ free' ↔ d ∈ free)) ∧ (∀ d, d ∈ free' → d < n)
 |[], i, dead, free, a, _, hn, hd, hfr, h => by
  have hin : i = n := by simpa using hn
  refine ⟨fun _ => undef, dead, free, a, h, ⟨?_, ?_, ?_, rfl, rfl, fun _ _ => rfl, ?_⟩, fun _ _ => Iff.rfl, fun d hdd => by have := hd d hdd; omega, fun _ _ => Iff.rfl, fun d hdd => by have := hfr d hdd; omega⟩
  ·intro j o h1 h2; omega
  ·intro j o h1 h2; omega
  ·intro j o h1 h2; omega
  ·intro j oj t h1 h2; omega
 |o :: l, i, dead, free, a, hl, hn, hd, hfr, h => by
  simp only [List.length_cons] at hn
  have ho : ops[i]? = some o := by simpa using (hl 0 (by simp)).symm
  have hin : i < n := by omega
  have hl' : ∀ j, j < l.length → l[j]? = ops[i + 1 + j]? := fun j hj => by
   have := hl (j + 1) (by simpa using hj)
   simpa [Nat.add_assoc, Nat.add_comm 1 j] using this
  have haft := hk.after i o hin ho
  have hd1 : ∀ d, d ∈ dead → d < i + 1 := fun d hm => by have := hd d hm; omega
  have hf1 : ∀ d, d ∈ free → d < i + 1 := fun d hm => by have := hfr d hm; omega
  have hdstn : ∀ (k : Nat) (t : Tmp), (ops[k]?).bind (·.dst) = some t → ∃ ok, ops[k]? = some ok ∧ ok.dst = some t := by
   intro k t hkd
   cases hok : ops[k]? with
   |none => rw [hok] at hkd; cases hkd
   |some ok => rw [hok] at hkd; exact ⟨ok, rfl, hkd⟩
  -- what the operation looks at stands to the end
  have hstay : ∀ (F b : Act) (dead' free' : List Nat) (vs : Nat → Value) (r : Nat → Value), Yd0 P ops B X (i + 1) n dead' free' b F vs → (∀ t, t ∈ o.looksAt ops → b.tmps[t]? = a.tmps[t]?) → b.tmps.size = a.tmps.size →
    (∀ d, d < i → (d ∈ free' ↔ d ∈ free)) → (∀ d, d ∈ free' → d < n) → ∀ t, t ∈ o.looksAt ops → (Yh ops r free a).tmps[t]? = (Yh ops r free' F).tmps[t]? := by
   intro F b dead' free' vs r hr hb hbs hfi hfn t ht
   have hlt : ∀ k, k < n → (ops[k]?).bind (·.dst) = some t → k < i := fun k hkn hkd => by
    obtain ⟨ok, h1, h2⟩ := hdstn k t hkd
    exact (hk.looks i o k ok t hin ho hkn h1 h2 ht).1
   have hFa : F.tmps[t]? = a.tmps[t]? := by
    rw [hr.old t (fun j oj h1 h2 h3 h4 => absurd (hk.looks i o j oj t hin ho h2 h3 h4 ht).1 (by omega)), hb t ht]
   by_cases he : ∃ k, k ∈ free ∧ (ops[k]?).bind (·.dst) = some t
   ·obtain ⟨k, hkf, hkd⟩ := he
    obtain ⟨ok, h1, h2⟩ := hdstn k t hkd
    have hkn : k < n := by have := hfr k hkf; omega
    have hki : k < i := hfr k hkf
    have hu : ∀ (fr : List Nat), (∀ d, d ∈ fr → d < n) → ∀ q, q ∈ fr → (ops[q]?).bind (·.dst) = some t → q = k := by
     intro fr hfrn q hq hqd
     obtain ⟨oq, g1, g2⟩ := hdstn q t hqd
     exact hk.dst q oq k ok t (hfrn q hq) g1 hkn h1 h2 g2
    by_cases hts : t < a.tmps.size
    ·rw [Ycc ops r a t hts k hkd free hkf (hu free (fun d hd => Nat.lt_trans (hfr d hd) hin)), Ycc ops r F t (by rw [hr.size, hbs]; exact hts) k hkd free' ((hfi k hki).2 hkf) (hu free' hfn)]
    ·rw [Array.getElem?_eq_none (by rw [Ybc]; exact Nat.le_of_not_lt hts), Array.getElem?_eq_none (by rw [Ybc, hr.size, hbs]; exact Nat.le_of_not_lt hts)]
   ·rw [Ya9 ops r a t free (fun k hkf hkd => he ⟨k, hkf, hkd⟩), Ya9 ops r F t free' (fun k hkf hkd => he ⟨k, (hfi k (hlt k (hfn k hkf) hkd)).1 hkf, hkd⟩), hFa]
  have hput : ∀ (v : Value) t, t ∈ o.looksAt ops → (a.put o.dst v).tmps[t]? = a.tmps[t]? := fun v t ht =>
   Yr _ _ _ _ (fun he => absurd (hk.looks i o i o t hin ho hin ho he ht).1 (by omega))
  rcases h with ⟨hdd, h⟩ | ⟨hdd, hw, v, hv, h⟩ | ⟨hdd, hw, hv, h⟩ | ⟨hdd, hw, hsk, h⟩ | ⟨hdd, hw, htt, hv, h⟩
  ·obtain ⟨vs, dead', free', F, hf, hr, hdi, hdn, hfi, hfn⟩ := Ybl hk l (i + 1) (i :: dead) free a hl' (by omega) (Yen hd) hf1 h
   obtain ⟨hmem, hdi'⟩ := Yd3 hdi
   refine ⟨vs, dead', free', F, hf, ⟨?_, ?_, ?_, hr.defers, hr.size, ?_, ?_⟩, hdi', hdn, fun d hlt => hfi d (by omega), hfn⟩
   ·intro j oj h1 h2 h3 h4
    by_cases e : j = i
    ·subst e; exact absurd hmem h4
    ·exact hr.live j oj (by omega) h2 h3 h4
   ·intro j oj h1 h2 h3 h4
    by_cases e : j = i
    ·subst e
     have : oj = o := Option.some.inj (h3.symm.trans ho)
     subst this
     left; rw [Yak haft hdi']; exact hdd
    ·exact hr.died j oj (by omega) h2 h3 h4
   ·intro j oj h1 h2 h3 h4
    by_cases e : j = i
    ·subst e; have := hfr j ((hfi j (by omega)).1 h4); omega
    ·exact hr.freed j oj (by omega) h2 h3 h4
   ·intro t ht; exact hr.old t (fun j oj h1 => ht j oj (by omega))
   ·intro j oj t h1 h2 h3 h4
    by_cases e : j = i
    ·subst e; exact absurd hmem h4
    ·exact hr.new j oj t (by omega) h2 h3 h4
  ·obtain ⟨vs, dead', free', F, hf, hr, hdi, hdn, hfi, hfn⟩ := Ybl hk l (i + 1) dead free _ hl' (by omega) hd1 hf1 h
   have hmem : i ∉ dead' := fun hm => by have := hd i ((hdi i (by omega)).1 hm); omega
   have hmef : i ∉ free' := fun hm => by have := hfr i ((hfi i (by omega)).1 hm); omega
   have hs := fun r => Yaf (hk.sel i o ho) (hstay F _ dead' free' vs r hr (hput v) (Yl _ _ _) (fun d hlt => hfi d (by omega)) hfn)
   refine ⟨fun j => if j = i then v else vs j, dead', free', F, hf, ⟨?_, ?_, ?_, by rw [hr.defers, Yad], by rw [hr.size, Yl], ?_, ?_⟩, fun d hlt => hdi d (by omega), hdn, fun d hlt => hfi d (by omega), hfn⟩
   ·intro j oj h1 h2 h3 h4 h5
    by_cases e : j = i
    ·subst e
     have : oj = o := Option.some.inj (h3.symm.trans ho)
     subst this
     refine ⟨by rw [Yak haft (fun d hlt => hdi d (by omega))]; exact hdd, .inl ⟨fun r => by rw [← (hs r).2]; exact hw r, fun d r w hd0 hdep hB => ?_⟩⟩
     rw [← Yaa (hs r).1]
     simp only [if_true]
     have := Ycy (hv d r w hd0 hdep hB)
     rwa [Ybc] at this
    ·simp only [if_neg e]
     have := hr.live j oj (by omega) h2 h3 h4 h5
     rwa [Yl] at this
   ·intro j oj h1 h2 h3 h4
    by_cases e : j = i
    ·subst e; exact absurd h4 hmem
    ·exact hr.died j oj (by omega) h2 h3 h4
   ·intro j oj h1 h2 h3 h4
    by_cases e : j = i
    ·subst e; exact absurd h4 hmef
    ·have := hr.freed j oj (by omega) h2 h3 h4
     rwa [Yl] at this
   ·intro t ht
    rw [hr.old t (fun j oj h1 => ht j oj (by omega)), Yr _ _ _ _ (fun he => by rcases ht i o (Nat.le_refl _) hin ho he with h | h; exact hmem h; exact hmef h)]
   ·intro j oj t h1 h2 h3 h4 h4f h5 h6
    by_cases e : j = i
    ·subst e
     have : oj = o := Option.some.inj (h3.symm.trans ho)
     subst this
     simp only [if_true]
     rw [hr.old t (fun k ok g1 g2 g3 g4 => absurd (hk.dst j oj k ok t h2 h3 g2 g3 g4 h5) (by omega)), h5, Yay _ _ _ h6]
    ·simp only [if_neg e]; exact hr.new j oj t (by omega) h2 h3 h4 h4f h5 (by rw [Yl]; exact h6)
  ·obtain ⟨vs, dead', free', F, hf, hr, hdi, hdn, hfi, hfn⟩ := Ybl hk l (i + 1) (i :: dead) free a hl' (by omega) (Yen hd) hf1 h
   obtain ⟨hmem, hdi'⟩ := Yd3 hdi
   have hs := fun r => Yaf (hk.sel i o ho) (hstay F _ dead' free' vs r hr (fun _ _ => rfl) rfl (fun d hlt => hfi d (by omega)) hfn)
   refine ⟨vs, dead', free', F, hf, ⟨?_, ?_, ?_, hr.defers, hr.size, ?_, ?_⟩, hdi', hdn, fun d hlt => hfi d (by omega), hfn⟩
   ·intro j oj h1 h2 h3 h4
    by_cases e : j = i
    ·subst e; exact absurd hmem h4
    ·exact hr.live j oj (by omega) h2 h3 h4
   ·intro j oj h1 h2 h3 h4
    by_cases e : j = i
    ·subst e
     have : oj = o := Option.some.inj (h3.symm.trans ho)
     subst this
     right
     refine ⟨fun r => by rw [← (hs r).2]; exact hw r, fun d r w hd0 hdep hB => ?_⟩
     rw [← Yaa (hs r).1]
     exact Yca (hv d r w hd0 hdep hB)
    ·exact hr.died j oj (by omega) h2 h3 h4
   ·intro j oj h1 h2 h3 h4
    by_cases e : j = i
    ·subst e; have := hfr j ((hfi j (by omega)).1 h4); omega
    ·exact hr.freed j oj (by omega) h2 h3 h4
   ·intro t ht; exact hr.old t (fun j oj h1 => ht j oj (by omega))
   ·intro j oj t h1 h2 h3 h4
    by_cases e : j = i
    ·subst e; exact absurd hmem h4
    ·exact hr.new j oj t (by omega) h2 h3 h4
  ·obtain ⟨vs, dead', free', F, hf, hr, hdi, hdn, hfi, hfn⟩ := Ybl hk l (i + 1) dead free _ hl' (by omega) hd1 hf1 h
   have hmem : i ∉ dead' := fun hm => by have := hd i ((hdi i (by omega)).1 hm); omega
   have hmef : i ∉ free' := fun hm => by have := hfr i ((hfi i (by omega)).1 hm); omega
   have hs := fun r => Yaf (hk.sel i o ho) (hstay F _ dead' free' vs r hr (hput undef) (Yl _ _ _) (fun d hlt => hfi d (by omega)) hfn)
   refine ⟨fun j => if j = i then undef else vs j, dead', free', F, hf, ⟨?_, ?_, ?_, by rw [hr.defers, Yad], by rw [hr.size, Yl], ?_, ?_⟩, fun d hlt => hdi d (by omega), hdn, fun d hlt => hfi d (by omega), hfn⟩
   ·intro j oj h1 h2 h3 h4 h5
    by_cases e : j = i
    ·subst e
     have : oj = o := Option.some.inj (h3.symm.trans ho)
     subst this
     refine ⟨by rw [Yak haft (fun d hlt => hdi d (by omega))]; exact hdd, .inr ⟨fun r => by rw [← (hs r).2]; exact hw r, by simp, hsk⟩⟩
    ·simp only [if_neg e]
     have := hr.live j oj (by omega) h2 h3 h4 h5
     rwa [Yl] at this
   ·intro j oj h1 h2 h3 h4
    by_cases e : j = i
    ·subst e; exact absurd h4 hmem
    ·exact hr.died j oj (by omega) h2 h3 h4
   ·intro j oj h1 h2 h3 h4
    by_cases e : j = i
    ·subst e; exact absurd h4 hmef
    ·have := hr.freed j oj (by omega) h2 h3 h4
     rwa [Yl] at this
   ·intro t ht
    rw [hr.old t (fun j oj h1 => ht j oj (by omega)), Yr _ _ _ _ (fun he => by rcases ht i o (Nat.le_refl _) hin ho he with h | h; exact hmem h; exact hmef h)]
   ·intro j oj t h1 h2 h3 h4 h4f h5 h6
    by_cases e : j = i
    ·subst e
     have : oj = o := Option.some.inj (h3.symm.trans ho)
     subst this
     simp only [if_true]
     rw [hr.old t (fun k ok g1 g2 g3 g4 => absurd (hk.dst j oj k ok t h2 h3 g2 g3 g4 h5) (by omega)), h5, Yay _ _ _ h6]
    ·simp only [if_neg e]; exact hr.new j oj t (by omega) h2 h3 h4 h4f h5 (by rw [Yl]; exact h6)
  ·obtain ⟨vs, dead', free', F, hf, hr, hdi, hdn, hfi, hfn⟩ := Ybl hk l (i + 1) dead (i :: free) a hl' (by omega) hd1 (Yen hfr) h
   obtain ⟨hmem, hfi'⟩ := Yd3 hfi
   have hmed : i ∉ dead' := fun hm => by have := hd i ((hdi i (by omega)).1 hm); omega
   have hs := fun r => Yaf (hk.sel i o ho) (hstay F _ dead' free' vs r hr (fun _ _ => rfl) rfl hfi' hfn)
   refine ⟨vs, dead', free', F, hf, ⟨?_, ?_, ?_, hr.defers, hr.size, ?_, ?_⟩, fun d hlt => hdi d (by omega), hdn, hfi', hfn⟩
   ·intro j oj h1 h2 h3 h4 h5
    by_cases e : j = i
    ·subst e; exact absurd hmem h5
    ·exact hr.live j oj (by omega) h2 h3 h4 h5
   ·intro j oj h1 h2 h3 h4
    by_cases e : j = i
    ·subst e; exact absurd h4 hmed
    ·exact hr.died j oj (by omega) h2 h3 h4
   ·intro j oj h1 h2 h3 h4
    by_cases e : j = i
    ·subst e
     have : oj = o := Option.some.inj (h3.symm.trans ho)
     subst this
     obtain ⟨t, ht1, ht2⟩ := htt
     refine ⟨hmed, fun r => by rw [← (hs r).2]; exact hw r, ⟨t, ht1, ht2⟩, fun d r w hd0 hdep hB => ?_⟩
     rw [← Yaa (hs r).1]
     exact Yfp ht1 (by rw [Ybc]; exact ht2) (hv d r w hd0 hdep hB)
    ·exact hr.freed j oj (by omega) h2 h3 h4
   ·intro t ht; exact hr.old t (fun j oj h1 => ht j oj (by omega))
   ·intro j oj t h1 h2 h3 h4 h5
    by_cases e : j = i
    ·subst e; exact absurd hmem h5
    ·exact hr.new j oj t (by omega) h2 h3 h4 h5
structure Yd6 (ops : Array Oper) (B : (Nat → Bool) → (Nat → Value) → World → Prop) (n : Nat) (dead free : List Nat) (a0 F : Act) (r : Nat → Value) (listed : Array Bool) (a : Act) (w : World) : Prop where
 head : HeadInv .any ops n listed
 world : B (Yas listed) r w
 defers : a.defers = a0.defers
 size : a.tmps.size = a0.tmps.size
 live : ∀ (j : Nat), j < n → listed.getD j false = true → j ∉ dead
 old : ∀ t, (∀ (j : Nat) (oj : Oper), j < n → ops[j]? = some oj → oj.dst = some t → listed.getD j false = false) → a.tmps[t]? = a0.tmps[t]?
 new : ∀ (j : Nat) (oj : Oper) t, j < n → ops[j]? = some oj → j ∉ free → listed.getD j false = true → oj.dst = some t → a.tmps[t]? = F.tmps[t]?
 newf : ∀ (j : Nat) (oj : Oper) t, j < n → ops[j]? = some oj → j ∈ free → listed.getD j false = true → oj.dst = some t → a.tmps[t]? = some (r j)
theorem Yc2 {P : Program} {ops : Array Oper} {B : (Nat → Bool) → (Nat → Value) → World → Prop} {X : List PanicEntry → World → Prop} {Q : Exit → Act → World → Prop} {n : Nat} {dead free : List Nat} {a0 F : Act} {vs : Nat → Value}
  (hk : Ybw ops n) (hr : Yd0 P ops B X 0 n dead free a0 F vs) (hdn : ∀ d, d ∈ dead → d < n) (hfn : ∀ d, d ∈ free → d < n)
  (hwait : ∀ listed, HeadInv .any ops n listed → ∀ i, i < n → listed.getD i true = false → ∀ t, n ≤ t → t ∉ Region.ready .any ops listed)
  (hX : ∀ c a' w', X c w' → a'.defers = a0.defers → a'.tmps.size = a0.tmps.size → (∀ t, (∀ (j : Nat) (oj : Oper), j < n → ops[j]? = some oj → oj.dst ≠ some t) → a'.tmps[t]? = a0.tmps[t]?) → Q (.panic c) a' w')
  (hfin : ∀ listed r w, HeadInv .any ops n listed → (∀ i, i < n → listed.getD i true = true) → dead = [] → B (Yas listed) r w → wpAny P .any ops Q (ops.size - n) listed (Yh ops r free F) w) :
  ∀ (m : Nat) (r : Nat → Value) (listed : Array Bool) (a : Act) (w : World), Yao n listed = m → Yd6 ops B n dead free a0 F r listed a w → wpAny P .any ops Q (m + (ops.size - n)) listed a w
 |0, r, listed, a, w, hm, inv => by
  have hall := Ycj hm
  have hall' : ∀ i, i < n → listed.getD i false = true := fun i hi => by
   have h1 := hall i hi
   have h2 : i < listed.size := by rw [inv.head.size]; have := hk.le; omega
   simp [h2] at h1 ⊢; exact h1
  have hdead : dead = [] := by
   cases hde : dead with
   |nil => rfl
   |cons d r =>
    have hd : d ∈ dead := by rw [hde]; simp
    exact absurd hd (inv.live d (hdn d hd) (hall' d (hdn d hd)))
  have hF : a = Yh ops r free F := by
   have h1 : a.tmps = (Yh ops r free F).tmps := by
    apply Array.ext_getElem?
    intro t
    by_cases h : ∃ (j : Nat) (oj : Oper), j < n ∧ ops[j]? = some oj ∧ oj.dst = some t
    ·obtain ⟨j, oj, h1, h2, h3⟩ := h
     have hu : ∀ k, k ∈ free → (ops[k]?).bind (·.dst) = some t → k = j := by
      intro k hkf hkd
      cases hok : ops[k]? with
      |none => rw [hok] at hkd; cases hkd
      |some ok =>
       rw [hok] at hkd
       exact hk.dst k ok j oj t (hfn k hkf) hok h1 h2 h3 hkd
     by_cases hf : j ∈ free
     ·obtain ⟨_, _, ⟨t', ht1, ht2⟩, _⟩ := hr.freed j oj (Nat.zero_le _) h1 h2 hf
      have : t' = t := by rw [ht1] at h3; injection h3
      subst this
      rw [inv.newf j oj t' h1 h2 hf (hall' j h1) h3, Ycc ops r F t' (by rw [hr.size]; exact ht2) j (by rw [h2]; exact h3) free hf hu]
     ·rw [inv.new j oj t h1 h2 hf (hall' j h1) h3, Ya9 ops r F t free (fun k hkf hkd => hf (by rw [← hu k hkf hkd]; exact hkf))]
    ·rw [inv.old t (fun j oj h1 h2 h3 => absurd ⟨j, oj, h1, h2, h3⟩ h), Ya9 ops r F t free (fun k hkf hkd => ?_), hr.old t (fun j oj _ h1 h2 h3 => absurd ⟨j, oj, h1, h2, h3⟩ h)]
     cases hok : ops[k]? with
     |none => rw [hok] at hkd; cases hkd
     |some ok => rw [hok] at hkd; exact h ⟨k, ok, hfn k hkf, hok, hkd⟩
   have h2 : a.defers = (Yh ops r free F).defers := by rw [inv.defers, Ydi, hr.defers]
   revert h1 h2
   generalize Yh ops r free F = G
   intro h1 h2
   cases a; cases G; simp_all
  rw [Nat.zero_add, hF]
  exact hfin listed r w inv.head hall hdead inv.world
 |m + 1, r, listed, a, w, hm, inv => by
  rw [show m + 1 + (ops.size - n) = (m + (ops.size - n)) + 1 by omega]
  obtain ⟨i0, hi0, hun0⟩ : ∃ i, i < n ∧ listed.getD i true = false := by
   have : (List.range n).countP (fun i => !listed.getD i true) ≠ 0 := by
    show Yao n listed ≠ 0
    omega
   rw [Ne, List.countP_eq_zero] at this
   simp only [Classical.not_forall] at this
   obtain ⟨i, hi, h⟩ := this
   exact ⟨i, List.mem_range.1 hi, by simpa using h⟩
  have hrd := Ycx hk inv.head.size i0 hi0 hun0
  refine ⟨fun h0 => ?_, fun i hi => ?_⟩
  ·obtain ⟨j, _, hj⟩ := hrd
   rw [h0] at hj; cases hj
  ·have hin : i < n := by
    rcases Nat.lt_or_ge i n with h | h
    ·exact h
    ·exact absurd hi (hwait listed inv.head i0 hi0 hun0 i h)
   obtain ⟨hun, o, ho, hall⟩ := mem_ready.1 hi
   have hunf : listed.getD i false = false := getD_both hun
   have hm' := Ycw hin hun
   have hlt : i < listed.size := by rw [inv.head.size]; have := hk.le; omega
   -- what the operation looks at is as in the frame at the head's end
   have hlook : ∀ t, t ∈ o.looksAt ops → a.tmps[t]? = (Yh ops r free F).tmps[t]? := by
    intro t ht
    by_cases h : ∃ (j : Nat) (oj : Oper), j < n ∧ ops[j]? = some oj ∧ oj.dst = some t
    ·obtain ⟨j, oj, h1, h2, h3⟩ := h
     obtain ⟨_, e, he, hb, hon⟩ := hk.looks i o j oj t hin ho h1 h2 h3 ht
     have hlj : listed.getD j false = true := by rw [← hon]; exact hall e he hb
     have hu : ∀ k, k ∈ free → (ops[k]?).bind (·.dst) = some t → k = j := by
      intro k hkf hkd
      cases hok : ops[k]? with
      |none => rw [hok] at hkd; cases hkd
      |some ok =>
       rw [hok] at hkd
       exact hk.dst k ok j oj t (hfn k hkf) hok h1 h2 h3 hkd
     by_cases hf : j ∈ free
     ·obtain ⟨_, _, ⟨t', ht1, ht2⟩, _⟩ := hr.freed j oj (Nat.zero_le _) h1 h2 hf
      have : t' = t := by rw [ht1] at h3; injection h3
      subst this
      rw [inv.newf j oj t' h1 h2 hf hlj h3, Ycc ops r F t' (by rw [hr.size]; exact ht2) j (by rw [h2]; exact h3) free hf hu]
     ·rw [inv.new j oj t h1 h2 hf hlj h3, Ya9 ops r F t free (fun k hkf hkd => hf (by rw [← hu k hkf hkd]; exact hkf))]
    ·rw [inv.old t (fun j oj h1 h2 h3 => absurd ⟨j, oj, h1, h2, h3⟩ h), Ya9 ops r F t free (fun k hkf hkd => ?_), hr.old t (fun j oj _ h1 h2 h3 => absurd ⟨j, oj, h1, h2, h3⟩ h)]
     cases hok : ops[k]? with
     |none => rw [hok] at hkd; cases hkd
     |some ok => rw [hok] at hkd; exact h ⟨k, ok, hfn k hkf, hok, hkd⟩
   have hs := Yaf (hk.sel i o ho) hlook
   have hnd : Yk dead o = false := by
    rw [Bool.eq_false_iff]
    intro hd
    simp only [Yk, List.any_eq_true, Bool.and_eq_true, List.contains_iff_mem, Array.mem_toList_iff] at hd
    obtain ⟨e, he, hb, hm⟩ := hd
    exact inv.live e.on (hdn _ hm) (hall e he hb) hm
   have hd0 : Yas listed i = false := hunf
   have hold : ∀ (v : Value) t, (∀ (j : Nat) (oj : Oper), j < n → ops[j]? = some oj → oj.dst = some t → (listed.setIfInBounds i true).getD j false = false) → (a.put o.dst v).tmps[t]? = a0.tmps[t]? := by
    intro v t ht
    have hne : o.dst ≠ some t := fun he => by
     have := ht i o hin ho he
     simp [hlt] at this
    rw [Yr _ _ _ _ hne]
    refine inv.old t fun j oj h1 h2 h3 => ?_
    have := ht j oj h1 h2 h3
    by_cases e : i = j
    ·subst e; exact hunf
    ·rwa [getD_set_ne false e] at this
   -- the next frame
   have hnext : ∀ (v : Value) (w' : World), B (Yn (Yas listed) i) r w' → i ∉ dead → i ∉ free → same o.dst a0.tmps.size v (vs i) → Yd6 ops B n dead free a0 F r (listed.setIfInBounds i true) (a.put o.dst v) w' := by
    intro v w' hB hnot hnf hv
    refine ⟨inv.head.set hi hin, by rw [Ydb hlt]; exact hB, by rw [Yad, inv.defers], by rw [Yl, inv.size], ?_, hold v, ?_, ?_⟩
    ·intro j hj hl
     by_cases e : i = j
     ·subst e; exact hnot
     ·rw [getD_set_ne false e] at hl; exact inv.live j hj hl
    ·intro j oj t h1 h2 h2f h3 h4
     by_cases e : i = j
     ·subst e
      have : oj = o := Option.some.inj (h2.symm.trans ho)
      subst this
      rcases Nat.lt_or_ge t a.tmps.size with ht | ht
      ·rw [h4, Yay _ _ _ ht, hr.new i oj t (Nat.zero_le _) hin ho hnot hnf h4 (by rw [← inv.size]; exact ht), hv t h4 (by rw [← inv.size]; exact ht)]
      ·rw [Array.getElem?_eq_none (by rw [Yl]; exact ht), Array.getElem?_eq_none (by rw [hr.size, ← inv.size]; exact ht)]
     ·rw [getD_set_ne false e] at h3
      have hne : o.dst ≠ some t := fun he => e (hk.dst i o j oj t hin ho h1 h2 h4 he)
      rw [Yr _ _ _ _ hne]
      exact inv.new j oj t h1 h2 h2f h3 h4
    ·intro j oj t h1 h2 h2f h3 h4
     by_cases e : i = j
     ·subst e; exact absurd h2f hnf
     ·rw [getD_set_ne false e] at h3
      have hne : o.dst ≠ some t := fun he => e (hk.dst i o j oj t hin ho h1 h2 h4 he)
      rw [Yr _ _ _ _ hne]
      exact inv.newf j oj t h1 h2 h2f h3 h4
   have hnextf : ∀ (v : Value) (w' : World), B (Yn (Yas listed) i) (Ya7 r i v) w' → i ∉ dead → i ∈ free → Yd6 ops B n dead free a0 F (Ya7 r i v) (listed.setIfInBounds i true) (a.put o.dst v) w' := by
    intro v w' hB hnot hnf
    obtain ⟨_, _, ⟨t0, ht1, ht2⟩, _⟩ := hr.freed i o (Nat.zero_le _) hin ho hnf
    refine ⟨inv.head.set hi hin, by rw [Ydb hlt]; exact hB, by rw [Yad, inv.defers], by rw [Yl, inv.size], ?_, hold v, ?_, ?_⟩
    ·intro j hj hl
     by_cases e : i = j
     ·subst e; exact hnot
     ·rw [getD_set_ne false e] at hl; exact inv.live j hj hl
    ·intro j oj t h1 h2 h2f h3 h4
     by_cases e : i = j
     ·subst e; exact absurd hnf h2f
     ·rw [getD_set_ne false e] at h3
      have hne : o.dst ≠ some t := fun he => e (hk.dst i o j oj t hin ho h1 h2 h4 he)
      rw [Yr _ _ _ _ hne]
      exact inv.new j oj t h1 h2 h2f h3 h4
    ·intro j oj t h1 h2 h2f h3 h4
     by_cases e : i = j
     ·subst e
      have : oj = o := Option.some.inj (h2.symm.trans ho)
      subst this
      have : t0 = t := by rw [ht1] at h4; injection h4
      subst this
      rw [h4, Yay _ _ _ (by rw [inv.size]; exact ht2)]
      simp [Ya7]
     ·rw [getD_set_ne false e] at h3
      have hne : o.dst ≠ some t := fun he => e (hk.dst i o j oj t hin ho h1 h2 h4 he)
      rw [Yr _ _ _ _ hne, inv.newf j oj t h1 h2 h2f h3 h4]
      simp only [Ya7]
      rw [if_neg (fun h => e h.symm)]
   have hpan : ∀ c w', X c w' → Q (.panic c) a w' := fun c w' hx =>
    hX c a w' hx inv.defers inv.size fun t ht => inv.old t fun j oj h1 h2 h3 => absurd h3 (ht j oj h1 h2)
   unfold wpOp
   simp only [ho]
   by_cases hde : i ∈ dead
   ·rcases hr.died i o (Nat.zero_le _) hin ho hde with h | ⟨hw, h⟩
    ·rw [h] at hnd; cases hnd
    ·rw [if_pos (by rw [hs.2]; exact hw r)]
     refine .inl (Ya3 ?_)
     rw [Yaa hs.1]
     exact Ya6 (h _ r w hd0 hall inv.world) (fun _ _ hf => hf.elim) hpan
   ·by_cases hfe : i ∈ free
    ·obtain ⟨_, hw, _, h⟩ := hr.freed i o (Nat.zero_le _) hin ho hfe
     rw [if_pos (by rw [hs.2]; exact hw r)]
     refine .inl (Ya3 ?_)
     rw [Yaa hs.1]
     refine Ya6 (h _ r w hd0 hall inv.world) (fun v w' hv => ?_) hpan
     exact Yc2 hk hr hdn hfn hwait hX hfin m _ _ _ _ (by omega) (hnextf v w' hv hde hfe)
    ·obtain ⟨_, ⟨hw, h⟩ | ⟨hw, h, hsk⟩⟩ := hr.live i o (Nat.zero_le _) hin ho hde hfe
     ·rw [if_pos (by rw [hs.2]; exact hw r)]
      refine .inl (Ya3 ?_)
      rw [Yaa hs.1]
      refine Ya6 (h _ r w hd0 hall inv.world) (fun v w' hv => ?_) hpan
      exact Yc2 hk hr hdn hfn hwait hX hfin m _ _ _ _ (by omega) (hnext v w' hv.2 hde hfe hv.1)
     ·rw [if_neg (by rw [hs.2, hw r]; simp)]
      exact Yc2 hk hr hdn hfn hwait hX hfin m _ _ _ _ (by omega) (hnext undef w (hsk _ r w hd0 inv.world) hde hfe (fun _ _ _ => h.symm))
theorem Ye2 {P : Program} {id : Nat} {Q : Exit → Act → World → Prop} {a : Act} {w : World} {l : List Oper} (n : Nat) (B : (Nat → Bool) → (Nat → Value) → World → Prop) (X : List PanicEntry → World → Prop) (hm : P.follows .mixedOrders = true) (hok : Yct l.toArray n = true)
  (hB : ∀ r, B (fun _ => false) r w.drew)
  (hX : ∀ c a' w', X c w' → a'.defers = a.defers → a'.tmps.size = a.tmps.size → (∀ t, noDst l n t = true → a'.tmps[t]? = a.tmps[t]?) → Q (.panic c) a' w')
  (h : Ya4 P l.toArray B X n (fun dead free F => dead = [] → ∀ r w1 d, (∀ j, j < n → d j = true) → B d r w1 → wpList P l.toArray Q (l.drop n) (Yh l.toArray r free F) w1) [] [] 0 (l.take n) a) : (Code.region id l.toArray true).wp P Q a w := by
 simp only [Yct, Bool.and_eq_true, Bool.or_eq_true, decide_eq_true_eq] at hok
 obtain ⟨⟨hh, ht⟩, hq⟩ := hok
 have hk := Yck hh
 have hle : n ≤ l.length := by simpa using hk.le
 have htl : (l.take n).length = n := by simp; omega
 obtain ⟨vs, dead, free, F, hf, hr, _, hdn, _, hfn⟩ := Ybl hk (l.take n) 0 [] [] a (fun j hj => by
  have hj' : j < n := by rw [htl] at hj; exact hj
  simp [hj']) (by simpa using htl) (by simp) (by simp) h
 have hun : Yao n (Array.replicate l.toArray.size false) = n := by
  have : ∀ i, i ∈ List.range n → (!(Array.replicate l.toArray.size false).getD i true) = true := fun i hi => by
   have hi' : i < l.toArray.size := by have := List.mem_range.1 hi; simp; omega
   have hi'' : i < l.length := by simpa using hi'
   simp [hi'']
  unfold Yao
  rw [List.countP_eq_length.2 this, List.length_range]
 have inv0 : HeadInv .any l.toArray n (Array.replicate l.toArray.size false) :=
  ⟨by simp, fun j oj _ hl => (by rw [getD_replicate_false] at hl; cases hl), fun t _ ht => getD_in (by simpa using ht) (getD_replicate_false _ _)⟩
 have hgo := Yc2 (Q := Q) hk hr hdn hfn ?_ (fun c a' w' hx h1 h2 h3 => hX c a' w' hx h1 h2 fun t ht' => h3 t fun j oj g1 g2 => Ycz ht' j oj g1 (by simpa using g2)) ?_ n (fun _ => undef) _ a w.drew hun
  ⟨inv0, by rw [Yeb]; exact hB _, rfl, rfl, fun j _ hl => (by rw [getD_replicate_false] at hl; cases hl), fun _ _ => rfl, fun j oj t _ _ _ hl => (by rw [getD_replicate_false] at hl; cases hl), fun j oj t _ _ _ hl => (by rw [getD_replicate_false] at hl; cases hl)⟩
 ·refine wp_region_any hm ?_
  rw [show n + (l.toArray.size - n) = l.toArray.size by simp; omega] at hgo
  exact hgo
 ·intro listed inv i hi hun t hnt
  rcases ht with ht | ⟨⟨h1, h2⟩, h3⟩
  ·intro hrd
   obtain ⟨_, o, ho, _⟩ := mem_ready.1 hrd
   have := (Array.getElem?_eq_some_iff.1 ho).1
   omega
  ·exact tail_waits h2 h3 h1 inv _ i rfl hi hun t hnt
 ·intro listed r w1 inv hall hd hBw
  have hlst : listed = Array.replicate n true ++ Array.replicate (l.toArray.size - n) false := by
   apply Array.ext
   ·rw [inv.size]; simp; omega
   ·intro i h1 h2
    by_cases hi : i < n
    ·have := hall i hi
     simp [h1] at this
     rw [this, Array.getElem_append_left (by simpa using hi)]
     simp
    ·have := inv.tail i (by omega) (by rw [← inv.size]; exact h1)
     simp [h1] at this
     rw [this, Array.getElem_append_right (by simpa using hi)]
     simp
  have hdl : (l.drop n).length = l.toArray.size - n := by simp
  have := wpAny_of_seq (md := .any) (P := P) (ops := l.toArray) (Q' := Q) (l.drop n) n listed (Yh l.toArray r free F) w1 (fun j => by simp [List.getElem?_drop]) (by rw [hdl, hlst]; exact hq) (hf hd r w1 (Yas listed) (fun j hj => by
   have h1 := hall j hj
   have h2 : j < listed.size := by rw [inv.size]; have := hk.le; omega
   simp only [Yas]
   simp [h2] at h1 ⊢; exact h1) hBw)
  rwa [hdl] at this
end
structure Yez (M : Mem) (a pb : Nat) (w : World) (g : Nat) (cur : Array Value) (w1 : World) : Prop where
 f : w1.heap[w.heap.size]? = some (.cells #[.int .i64 0, .int .u32 0, .int .u32 0, .int .i64 0] 37 (0, 0))
 k : w1.heap[w.heap.size + 1]? = some (.cells #[.bool false] 4 (0, 0))
 m : Yg w1 a pb M
 u : Upd [pb] w w1
 g : w1.heap[g]? = some (.cells cur 98 (0, 0))
theorem Yez.store {M : Mem} {a pb : Nat} {w w1 : World} {g : Nat} {cur : Array Value} (h : Yez M a pb w g cur w1) (ha : a < w.heap.size) (hp : pb < w.heap.size) (hg : w.heap.size ≤ g) {y : Int} (h0 : 0 ≤ y) (h1 : y < 16384) {b : Int} (hb0 : 0 ≤ b) (hb1 : b ≤ 255) :
  Yez (M.setB y.toNat b) a pb w g cur (w1.setCell ⟨pb, Ycr y, none⟩ (.int .u8 b)) :=
 ⟨Yc _ (by simp <;> omega) h.f, Yc _ (by simp <;> omega) h.k, h.m.store h0 h1 hb0 hb1, h.u.setCell (by simp) _, Yc _ (by simp <;> omega) h.g⟩
def Mem.putN (M : Mem) (x v : Int) : Nat → Mem
 |0 => M
 |j + 1 => (M.putN x v j).setB (Yx x j).toNat (v / 2 ^ (8 * j) % 256)
theorem Yd8 : (Tryd.prog.info? 37).map (·.size) = some 4 := by kernel_rfl
theorem Ye7 {w : World} {b : Nat} {t : TypeId} {a0 a1 a2 a3 : Value} (h : w.heap[b]? = some (.cells #[a0, a1, a2, a3] t (0, 0))) (u0 u1 u2 u3 : Value) :
  ((((w.setCell ⟨b, 0, none⟩ u0).setCell ⟨b, 0 + 1, none⟩ u1).setCell ⟨b, 0 + 2, none⟩ u2).setCell ⟨b, 0 + 3, none⟩ u3).heap[b]? = some (.cells #[u0, u1, u2, u3] t (0, 0)) :=
 Yd (Yd (Yd (Yd h 0 u0) 1 u1) 2 u2) 3 u3
theorem Ycv {S : List Nat} {w0 w : World} {b : Nat} (h : Upd S w0 w) (hb : b ∈ S ∨ w0.heap.size ≤ b) (u0 u1 u2 u3 : Value) :
  Upd S w0 ((((w.setCell ⟨b, 0, none⟩ u0).setCell ⟨b, 0 + 1, none⟩ u1).setCell ⟨b, 0 + 2, none⟩ u2).setCell ⟨b, 0 + 3, none⟩ u3) :=
 (((h.setCell (p := ⟨b, 0, none⟩) hb _).setCell (p := ⟨b, 0 + 1, none⟩) hb _).setCell (p := ⟨b, 0 + 2, none⟩) hb _).setCell (p := ⟨b, 0 + 3, none⟩) hb _
structure Flt where
 k : Int
 pc : Int
 a : Int
 wt : Int
 deriving DecidableEq
def Flt.cells (f : Flt) : Array Value := #[.int .i64 f.k, .int .u32 f.pc, .int .u32 f.a, .int .i64 f.wt]
def Flt.val (f : Flt) : Value := .agg #[.int .i64 f.k, .int .u32 f.pc, .int .u32 f.a, .int .i64 f.wt]
def Flt.zero : Flt := ⟨0, 0, 0, 0⟩
def Mem.rdF (M : Mem) (x bytes right : Int) : Flt := match M.bad x (Yt right) (Yan bytes).toNat with | none => Flt.zero | some i => ⟨1, 0, Yx x i, Yt right⟩
def Mem.wrF (M : Mem) (x bytes : Int) : Flt := match M.bad x 2 (Yan bytes).toNat with | none => Flt.zero | some i => ⟨1, 0, Yx x i, 2⟩
theorem Mem.readF_val (M : Mem) (x bytes right : Int) : M.readF x bytes right = (M.rdF x bytes right).val := by
 unfold Mem.readF Mem.rdF; cases M.bad x (Yt right) (Yan bytes).toNat <;> rfl
theorem Yal {tmps : Array Value} {w : World} (a : Tmp) (b : Nat) (k : Bool) (ha : tmps.getD a undef = .pointer (some ⟨b, 0, none⟩)) (hb : w.heap[b]? = some (.cells #[.bool k] 4 (0, 0))) : (Ya8 tmps (.cell a 4)).run Tryd.prog w = .ok (.bool k) w := by
 have hc : w.cell? ⟨b, 0, none⟩ = some (.bool k) := by rw [Yb hb]; rfl
 simp only [Ya8, Sem.run_bind, ha]
 simp [asAddr, go_sem, hc]
theorem Yb7 {tmps : Array Value} {w : World} (a : Tmp) (b : Nat) (F : Flt) (ha : tmps.getD a undef = .pointer (some ⟨b, 0, none⟩)) (hb : w.heap[b]? = some (.cells #[.int .i64 F.k, .int .u32 F.pc, .int .u32 F.a, .int .i64 F.wt] 37 (0, 0))) :
  (Ya8 tmps (.cell a 37)).run Tryd.prog w = .ok F.val w :=
 Yfu a 37 b _ _ ha hb Tryd.underlying37 rfl Yd8
structure WrD (S : List Nat) (s : St) (o : Opd) (F : Flt) (gb : Nat) (w : World) (d : Nat → Bool) (w1 : World) : Prop where
 sb : w1.heap[w.heap.size]? = some (.cells s.cells 28 (0, 0))
 g : w1.heap[gb]? = some (.cells #[.int .i64 F.k, .int .u32 F.pc, .int .u32 F.a, .int .i64 F.wt] 37 (0, 0))
 r : ∃ X : St, w1.heap[w.heap.size + 1 + 1]? = some (.cells X.cells 28 (0, 0)) ∧ (d 3 = true → X = s)
 f : ∃ Y : Flt, w1.heap[w.heap.size + 1 + 1 + 1]? = some (.cells #[.int .i64 Y.k, .int .u32 Y.pc, .int .u32 Y.a, .int .i64 Y.wt] 37 (0, 0)) ∧ (d 4 = true → Y = F)
 gb : w.heap.size + 1 + 1 + 1 < gb
 u : Upd S w w1
theorem WrD.skip {S : List Nat} {s : St} {o : Opd} {F : Flt} {gb : Nat} {w w1 : World} {d : Nat → Bool} {i : Nat} (h : WrD S s o F gb w d w1) (h3 : i ≠ 3) (h4 : i ≠ 4) : WrD S s o F gb w (Yn d i) w1 := by
 have e3 : Yn d i 3 = d 3 := by simp only [Yn]; rw [if_neg (fun e => h3 e.symm)]
 have e4 : Yn d i 4 = d 4 := by simp only [Yn]; rw [if_neg (fun e => h4 e.symm)]
 exact ⟨h.sb, h.g, by rw [e3]; exact h.r, by rw [e4]; exact h.f, h.gb, h.u⟩
theorem Yea {op : Oper} {a : Act} {w : World} {K : Act → World → Prop} {Q : Exit → Act → World → Prop} (s : St) (b : Nat) (x y : Operand) (ho : op.op = .store 28 x y) (hx : a.eval x = .pointer (some ⟨b, 0, none⟩)) (hy : a.eval y = .agg s.cells)
  {c : Array Value} (hb : w.heap[b]? = some (.cells c 28 (0, 0))) (hc : c.size = 17) (hK : ∀ w', w.setCells b 0 s.cells.toList = w' → K (a.put op.dst undef) w') : op.wp Tryd.prog a w K Q := by
 refine wp_store_mid 28 x y ho b 0 s.cells hx hy (Ycb hb 0 s.cells.size (by rw [hc, St.size]; exact Nat.le_refl _)) (by rw [St.size]; exact Yag) s.one ?_
 exact hK _ rfl
structure CanB (w w1 : World) : Prop where
 f : w1.heap[w.heap.size]? = some (.cells #[.int .i64 0, .int .u32 0, .int .u32 0, .int .i64 0] 37 (0, 0))
 k : w1.heap[w.heap.size + 1]? = some (.cells #[.bool false] 4 (0, 0))
 u : Upd [] w w1
theorem CanB.start (w : World) : CanB w ((w.alloc (.cells #[.int .i64 0, .int .u32 0, .int .u32 0, .int .i64 0] 37)).alloc (.cells #[.bool false] 4)) :=
 ⟨heap_alloc2_old _ _ _, heap_alloc2_new _ _ _, ((Upd.refl _ _).alloc _).alloc _⟩
structure FkB (S : List Nat) (w : World) (F : Flt) (K : Bool) (w1 : World) : Prop where
 f : w1.heap[w.heap.size]? = some (.cells #[.int .i64 F.k, .int .u32 F.pc, .int .u32 F.a, .int .i64 F.wt] 37 (0, 0))
 k : w1.heap[w.heap.size + 1]? = some (.cells #[.bool K] 4 (0, 0))
 u : Upd S w w1
theorem FkB.start (w : World) : FkB [] w Flt.zero false ((w.alloc (.cells #[.int .i64 0, .int .u32 0, .int .u32 0, .int .i64 0] 37)).alloc (.cells #[.bool false] 4)) :=
 ⟨heap_alloc2_old _ _ _, heap_alloc2_new _ _ _, ((Upd.refl _ _).alloc _).alloc _⟩
theorem FkB.step {S S' T : List Nat} {w w1 w2 : World} {F : Flt} {K : Bool} (h : FkB T w F K w1) (u : Upd S w1 w2) (hS : ∀ x, x ∈ S → x < w.heap.size) (hu : Upd S' w w2) : FkB S' w F K w2 :=
 ⟨u.get h.f (fun hh => by have := hS _ hh; omega), u.get h.k (fun hh => by have := hS _ hh; omega), hu⟩
section
theorem Yz {S : List Nat} {a b : World} (h : Upd S a b) (n : Nat) : Upd S a (b.drewN n) := ⟨h.os, h.tape, h.output, h.size, h.block⟩
structure Rn where
 s : St
 p : St
 T : Nat → Int
def Yef (T : Nat → Int) : List Value := (List.range 64).map fun i => .int .u32 (T i)
def Ydc (a : Nat) (r : Rn) : List Value := [.pointer (some ⟨a, 0, none⟩)] ++ (r.s.cells.toList ++ (r.p.cells.toList ++ Yef r.T))
def Yj (a : Nat) (r : Rn) : Array Value := (Ydc a r).toArray
theorem St.len (s : St) : s.cells.toList.length = 17 := rfl
theorem Yfy (T : Nat → Int) : (Yef T).length = 64 := by simp [Yef]
theorem Ybi (a : Nat) (r : Rn) : (Yj a r).size = 99 := by simp [Yj, Ydc, St.size, Yfy]
theorem rn_s (a : Nat) (r : Rn) (j : Nat) (hj : j < 17) : (Yj a r)[1 + j]? = r.s.cells[j]? := by
 unfold Yj
 rw [List.getElem?_toArray]
 unfold Ydc
 rw [List.getElem?_append_right (by simp), List.getElem?_append_left (by rw [St.len]; simp; omega), Array.getElem?_toList]
 congr 1
 simp
theorem rn_p (a : Nat) (r : Rn) (j : Nat) (hj : j < 17) : (Yj a r)[18 + j]? = r.p.cells[j]? := by
 unfold Yj
 rw [List.getElem?_toArray]
 unfold Ydc
 rw [List.getElem?_append_right (by simp; omega), List.getElem?_append_right (by rw [St.len]; simp), List.getElem?_append_left (by rw [St.len, St.len]; simp; omega), Array.getElem?_toList]
 congr 1
 rw [St.len]; simp
theorem Yax (a : Nat) (r : Rn) (j : Nat) (hj : j < 64) : (Yj a r)[35 + j]? = some (.int .u32 (r.T j)) := by
 unfold Yj
 rw [List.getElem?_toArray]
 unfold Ydc
 rw [List.getElem?_append_right (by simp; omega), List.getElem?_append_right (by rw [St.len]; simp; omega), List.getElem?_append_right (by rw [St.len, St.len]; simp; omega), St.len, St.len]
 have e : 35 + j - [Value.pointer (some ⟨a, 0, none⟩)].length - 17 - 17 = j := by simp; omega
 rw [e, Yef, List.getElem?_map, List.getElem?_range hj]
 rfl
theorem rn_a (a : Nat) (r : Rn) : (Yj a r)[0]? = some (.pointer (some ⟨a, 0, none⟩)) := rfl
def Rn.setT (r : Rn) (j : Nat) (v : Int) : Rn := { r with T := fun i => if i = j then v else r.T i }
theorem Ye6 {C : Array Value} {a : Nat} {r : Rn} (hs : C.size = 99) (h0 : C[0]? = some (.pointer (some ⟨a, 0, none⟩))) (h1 : ∀ j, j < 17 → C[1 + j]? = r.s.cells[j]?) (h2 : ∀ j, j < 17 → C[18 + j]? = r.p.cells[j]?) (h3 : ∀ j, j < 64 → C[35 + j]? = some (.int .u32 (r.T j))) : C = Yj a r := by
 apply Array.ext_getElem?
 intro k
 by_cases k0 : k = 0
 ·rw [k0, h0, rn_a]
 by_cases k1 : k < 18
 ·have := h1 (k - 1) (by omega)
  rw [show 1 + (k - 1) = k by omega] at this
  rw [this, ← rn_s a r (k - 1) (by omega), show 1 + (k - 1) = k by omega]
 by_cases k2 : k < 35
 ·have := h2 (k - 18) (by omega)
  rw [show 18 + (k - 18) = k by omega] at this
  rw [this, ← rn_p a r (k - 18) (by omega), show 18 + (k - 18) = k by omega]
 by_cases k3 : k < 99
 ·have := h3 (k - 35) (by omega)
  rw [show 35 + (k - 35) = k by omega] at this
  rw [this, ← Yax a r (k - 35) (by omega), show 35 + (k - 35) = k by omega]
 ·rw [Array.getElem?_eq_none (by omega), Array.getElem?_eq_none (by rw [Ybi]; omega)]
theorem rn_setT (a : Nat) (r : Rn) (j : Nat) (v : Int) (hj : j < 64) : (Yj a r).setIfInBounds (35 + j) (.int .u32 v) = Yj a (r.setT j v) := by
 refine Ye6 (by rw [Array.size_setIfInBounds, Ybi]) ?_ (fun i hi => ?_) (fun i hi => ?_) (fun i hi => ?_)
 ·rw [Array.getElem?_setIfInBounds, if_neg (by omega), rn_a]
 ·rw [Array.getElem?_setIfInBounds, if_neg (by omega), rn_s a r i hi]; rfl
 ·rw [Array.getElem?_setIfInBounds, if_neg (by omega), rn_p a r i hi]; rfl
 ·rw [Array.getElem?_setIfInBounds]
  by_cases e : i = j
  ·rw [if_pos (by omega), Ybi, if_pos (by omega)]; simp [Rn.setT, e]
  ·rw [if_neg (by omega), Yax a r i hi]; simp [Rn.setT, e]
theorem rn_setS (a : Nat) (r : Rn) (s' : St) (j : Nat) (v : Value) (hj : j < 17) (h : r.s.cells.setIfInBounds j v = s'.cells) : (Yj a r).setIfInBounds (1 + j) v = Yj a { r with s := s' } := by
 refine Ye6 (by rw [Array.size_setIfInBounds, Ybi]) ?_ (fun i hi => ?_) (fun i hi => ?_) (fun i hi => ?_)
 ·rw [Array.getElem?_setIfInBounds, if_neg (by omega), rn_a]
 ·rw [Array.getElem?_setIfInBounds, ← h, Array.getElem?_setIfInBounds, St.size]
  by_cases e : j = i
  ·rw [if_pos (by omega), if_pos e, if_pos hj, if_pos (by rw [Ybi]; omega)]
  ·rw [if_neg (by omega), if_neg e, rn_s a r i hi]
 ·rw [Array.getElem?_setIfInBounds, if_neg (by omega), rn_p a r i hi]
 ·rw [Array.getElem?_setIfInBounds, if_neg (by omega), Yax a r i hi]
structure Rn.Ok (r : Rn) : Prop where
 s : r.s.Ok
 p : r.p.Ok
 T : ∀ j, 0 ≤ r.T j ∧ r.T j < 4294967296
structure Ys (w : World) (d a : Nat) (r : Rn) : Prop where
 h : w.heap[d]? = some (.cells (Yj a r) 54 (0, 0))
 ok : r.Ok
section
variable {w w' : World} {d a : Nat} {r : Rn}
theorem Ys.keep {S : List Nat} (h : Ys w d a r) (u : Upd S w w') (hd : d ∉ S) : Ys w' d a r := ⟨u.get h.h hd, h.ok⟩
theorem Ys.lt (h : Ys w d a r) : d < w.heap.size := Yf h.h
theorem Ys.cell (h : Ys w d a r) (o : Nat) : w.cell? ⟨d, o, none⟩ = (Yj a r)[o]? := Yb h.h o
theorem Rn.setT_ok (h : r.Ok) (j : Nat) {v : Int} (hv : 0 ≤ v ∧ v < 4294967296) : (r.setT j v).Ok :=
 ⟨h.s, h.p, fun i => by unfold Rn.setT; dsimp only; split; exact hv; exact h.T i⟩
theorem Ys.setT (h : Ys w d a r) (j : Nat) (hj : j < 64) {v : Int} (hv : 0 ≤ v ∧ v < 4294967296) : Ys (w.setCell ⟨d, 35 + j, none⟩ (.int .u32 v)) d a (r.setT j v) :=
 ⟨by rw [← rn_setT a r j v hj]; exact Yd h.h _ _, Rn.setT_ok h.ok j hv⟩
theorem Ys.setS (h : Ys w d a r) (s' : St) (j : Nat) (v : Value) (hj : j < 17) (hs : r.s.cells.setIfInBounds j v = s'.cells) (ho : s'.Ok) : Ys (w.setCell ⟨d, 1 + j, none⟩ v) d a { r with s := s' } :=
 ⟨by rw [← rn_setS a r s' j v hj hs]; exact Yd h.h _ _, ho, h.ok.p, h.ok.T⟩
end
end
section
structure Mrm.Ok (m : Mrm) : Prop where
 mod : 0 ≤ m.mod ∧ m.mod ≤ 3
 reg : 0 ≤ m.reg ∧ m.reg < 8
 rm : 0 ≤ m.rm ∧ m.rm < 8
section
variable {w w2 w3 : World} {d : Nat} {v : Value} {L : List Int} {g k k' : Nat} {m : Mrm} {o o' : Opd}
end
end
structure BArg (w : World) (v : Value) (L : List Int) (g : Nat) : Prop where
 b : BySl w v L g
 n : L.length ≤ maxLen
 r : BOk L
 c : ∀ b n c, v = .slice b n c → n ≤ c
 g : g ≤ w.heap.size
section
structure Ins.Ok (i : Ins) : Prop where
 a : i.a.Ok
 b : i.b.Ok
section
variable {w w' : World} {d a pb : Nat} {s : St} {i : Ins} {M : Mem}
end
end
section
def Ym (F : Flt) : Array Value := #[.int .i64 F.k, .int .u32 F.pc, .int .u32 F.a, .int .i64 F.wt]
theorem Ya {d : Nat → Bool} {m i : Nat} (h : i ≠ m) : Yn d m i = d i := by simp [Yn, h]
theorem Yar {d : Nat → Bool} {m : Nat} : Yn d m m = true := by simp [Yn]
theorem Ycd {r : Nat → Value} {m i : Nat} {v : Value} (h : i ≠ m) : Ya7 r m v i = r i := by simp [Ya7, h]
theorem Ydo {r : Nat → Value} {m : Nat} {v : Value} : Ya7 r m v m = v := by simp [Ya7]
theorem Yc8 {op : Oper} {A : Act} {w : World} {K : Act → World → Prop} {Q : Exit → Act → World → Prop} (F Z : Flt) (g : Nat) (x y : Operand) (ho : op.op = .store 37 x y) (hx : A.eval x = .pointer (some ⟨g, 0, none⟩)) (hy : A.eval y = F.val)
  (hb : w.heap[g]? = some (.cells (Ym Z) 37 (0, 0))) (hK : K (A.put op.dst undef) (w.setCells g 0 (Ym F).toList)) : op.wp Tryd.prog A w K Q :=
 wp_store_mid 37 x y ho g 0 (Ym F) hx hy (Ycb hb 0 4 (by simp [Ym])) Yd8 (by simp [Ym, Value.oneCell']) hK
section
variable {w w1 w2 : World} {d a pb ob : Nat} {s : St} {i : Ins} {M M' : Mem} {o : Opd} {S : St} {F : Flt} {c e f p q : Nat} {T : List Nat} {dn : Nat → Bool} {r : Nat → Value}
end
end
def oddB (x : Int) : Nat → Bool
 |0 => false
 |k + 1 => oddB x k != (x / 2 ^ k % 2 == 1)
def parB (x : Int) : Bool := !oddB x 8
structure Fl where
 cf : Bool
 pf : Bool
 af : Bool
 zf : Bool
 sf : Bool
 of_ : Bool
def Fl.cells (f : Fl) : Array Value := #[.bool f.cf, .bool f.pf, .bool f.af, .bool f.zf, .bool f.sf, .bool f.of_]
def Fl.zero : Fl := ⟨false, false, false, false, false, false⟩
def St.fl (s : St) : Fl := ⟨s.cf, s.pf, s.af, s.zf, s.sf, s.of_⟩
def Fl.by (f : Fl) (r : Int) : Fl := { f with zf := r == 0, sf := decide (2147483648 ≤ r), pf := parB r }
structure AlS (w : World) (f : Fl) (w1 : World) : Prop where
 z7 : w1.heap[w.heap.size]? = some (.cells f.cells 25 (0, 0))
 z9 : w1.heap[w.heap.size + 1]? = some (.cells Fl.zero.cells 25 (0, 0))
 z10 : w1.heap[w.heap.size + 1 + 1]? = some (.cells f.cells 25 (0, 0))
 u : Upd [] w w1
theorem AlS.of {w w1 : World} {f : Fl} (hu : Upd [] (((w.alloc (.cells f.cells 25)).alloc (.cells Fl.zero.cells 25)).alloc (.cells f.cells 25)) w1) : AlS w f w1 := by
 have h2 := heap_alloc_new ((w.alloc (.cells f.cells 25)).alloc (.cells Fl.zero.cells 25)) (.cells f.cells 25)
 rw [show ((w.alloc (.cells f.cells 25)).alloc (.cells Fl.zero.cells 25)).heap.size = w.heap.size + 1 + 1 from by simp] at h2
 exact ⟨hu.get (Ye _ (heap_alloc2_old _ _ _)) (by simp), hu.get (Ye _ (heap_alloc2_new _ _ _)) (by simp), hu.get h2 (by simp), ((((Upd.refl [] w).alloc _).alloc _).alloc _).also hu (by simp)⟩
structure AlE (w : World) (f : Fl) (w1 : World) : Prop where
 r7 : w1.heap[w.heap.size]? = some (.cells f.cells 25 (0, 0))
 r9 : w1.heap[w.heap.size + 1]? = some (.cells Fl.zero.cells 25 (0, 0))
 u : Upd [] w w1
theorem AlE.drew {w w1 : World} {f : Fl} (h : AlE w f w1) : AlE w f w1.drew := by
 have u := (Upd.refl [] w1).drew
 exact ⟨u.get h.r7 (by simp), u.get h.r9 (by simp), h.u.drew⟩
theorem AlE.cf {w w1 : World} {f : Fl} (h : AlE w f w1) (x : Bool) : AlE w { f with cf := x } (w1.setCell ⟨w.heap.size, 0, none⟩ (.bool x)) :=
 ⟨Yd h.r7 0 (.bool x), ((Upd.refl [w.heap.size] w1).setCell (p := ⟨w.heap.size, 0, none⟩) (.inl (by simp)) (.bool x)).get h.r9 (by simp), h.u.setCell (p := ⟨w.heap.size, 0, none⟩) (.inr (Nat.le_refl _)) _⟩
theorem AlE.start {w : World} {f : Fl} : AlE w f (((w.alloc (.cells f.cells 25)).alloc (.cells Fl.zero.cells 25)).alloc (.cells f.cells 25)) :=
 ⟨(AlS.of (Upd.refl [] _)).z7, (AlS.of (Upd.refl [] _)).z9, (AlS.of (Upd.refl [] _)).u⟩
def condL (f : Fl) : List Bool := [f.of_, f.cf, f.zf, f.cf || f.zf, f.sf, f.pf, f.sf != f.of_, f.zf || (f.sf != f.of_)]
def condB (f : Fl) (c : Int) : Bool := (condL f).getD ((c % 16) / 2).toNat false != ((c % 16) % 2 == 1)
structure Mi.In (x : Mi) : Prop where
 t : 0 ≤ x.t ∧ x.t < 64
 a : 0 ≤ x.a ∧ x.a < 64
 b : 0 ≤ x.b ∧ x.b < 64
 c : 0 ≤ x.c ∧ x.c < 64
 n : 0 ≤ x.n ∧ x.n < 4294967296
def truthI (b : Bool) : Int := if b = true then 1 else 0
structure MB (w : World) (d ma M0 : Nat) (r : Rn) (C : Array Value) (w1 : World) : Prop where
 m : w1.heap[M0]? = some (.cells C 35 (0, 0))
 r : Ys w1 d ma r
 u : Upd [] w w1
theorem MB.step {w w1 w2 : World} {d ma M0 : Nat} {r : Rn} {C : Array Value} (h : MB w d ma M0 r C w1) (u : Upd [] w1 w2) : MB w d ma M0 r C w2 := ⟨u.get h.m (by simp), h.r.keep u (by simp), h.u.also u (by simp)⟩
theorem Ys.rs {w : World} {d ma : Nat} {r : Rn} (h : Ys w d ma r) : w.rangeAt d 1 r.s.cells.toList := fun j u hu => by
 have hj : j < 17 := by have := (List.getElem?_eq_some_iff.1 hu).1; rwa [St.len] at this
 rw [h.cell, rn_s _ _ _ hj, ← Array.getElem?_toList]; exact hu
theorem rn_putP (a : Nat) (r : Rn) (s' : St) : wr (Yj a r) 18 s'.cells.toList = Yj a { r with p := s' } := by
 have hl : 18 + s'.cells.toList.length ≤ (Yj a r).size := by rw [Ybi, St.len]; decide
 refine Ye6 (by rw [Yfq, Ybi]) ?_ (fun i hi => ?_) (fun i hi => ?_) (fun i hi => ?_)
 ·rw [Yb0 _ _ _ _ hl, if_neg (by omega), rn_a]
 ·rw [Yb0 _ _ _ _ hl, if_neg (by omega), rn_s a r i hi]
 ·rw [Yb0 _ _ _ _ hl, St.len, if_pos (by omega), show 18 + i - 18 = i by omega, Array.getElem?_toList]
 ·rw [Yb0 _ _ _ _ hl, St.len, if_neg (by omega), Yax a r i hi]
theorem Ys.putP {w w' : World} {d ma : Nat} {r : Rn} (h : Ys w d ma r) (hw : w.setCells d 18 r.s.cells.toList = w') : Ys w' d ma { r with p := r.s } := by
 subst hw
 exact ⟨by rw [Yq _ _ _ _ h.h, rn_putP], h.ok.s, h.ok.s, h.ok.T⟩
def flagB (s : St) (n : Int) : Bool := if n = 0 then s.cf else if n = 1 then s.pf else if n = 2 then s.af else if n = 3 then s.zf else if n = 4 then s.sf else if n = 5 then s.of_ else s.df
end Go.Proofs.YtjkolegknpflfaaDoor
