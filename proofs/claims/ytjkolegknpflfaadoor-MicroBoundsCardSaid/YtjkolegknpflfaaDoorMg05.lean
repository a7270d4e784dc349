/-
  Parts of the proof (their names shortened by a program). No condition.
-/
import Derived.Test.YtjkolegknpflfaaDoorMg01
import Derived.Test.YtjkolegknpflfaaDoorMg04
import Derived.Test.YtjkolegknpflfaaDoorMg03
import Derived.Outline
import Derived.BigQuiet
import Derived.Deep.QuietTactic
import Derived.Deep.Cut
import Derived.Recover
namespace Go.Proofs.YtjkolegknpflfaaDoor
open Go Go.RowKit
set_option linter.unusedVariables false
set_option linter.unusedSimpArgs false
set_option maxRecDepth 100000
set_option maxHeartbeats 16000000
section
def updV (r : Nat → Value) (i : Nat) (v : Value) : Nat → Value := fun j => if j = i then v else r j
def Yk (ops : Array Oper) (r : Nat → Value) : List Nat → Act → Act
 |[], F => F
 |j :: l, F => (Yk ops r l F).put ((ops[j]?).bind (·.dst)) (r j)
theorem Ya7 (ops : Array Oper) (r : Nat → Value) (F : Act) : ∀ l, (Yk ops r l F).tmps.size = F.tmps.size
 |[] => rfl
 |j :: l => by rw [Yk, Yj, Ya7]
theorem Yc0 (ops : Array Oper) (r : Nat → Value) (F : Act) : ∀ l, (Yk ops r l F).defers = F.defers
 |[] => rfl
 |j :: l => by rw [Yk, Yaa, Yc0]
theorem Ya4 (ops : Array Oper) (r : Nat → Value) (F : Act) (t : Tmp) : ∀ l, (∀ j, j ∈ l → (ops[j]?).bind (·.dst) ≠ some t) → (Yk ops r l F).tmps[t]? = F.tmps[t]?
 |[], _ => rfl
 |j :: l, h => by rw [Yk, Yq _ _ _ _ (h j (by simp)), Ya4 ops r F t l (fun k hk => h k (by simp [hk]))]
theorem Yb0 (ops : Array Oper) (r : Nat → Value) (F : Act) (t : Tmp) (hs : t < F.tmps.size) (j : Nat) (hd : (ops[j]?).bind (·.dst) = some t) : ∀ l, j ∈ l → (∀ k, k ∈ l → (ops[k]?).bind (·.dst) = some t → k = j) → (Yk ops r l F).tmps[t]? = some (r j)
 |[], h, _ => by cases h
 |k :: l, h, hu => by
  by_cases e : (ops[k]?).bind (·.dst) = some t
  ·have := hu k (by simp) e
   subst this
   rw [Yk, e, Yau _ _ _ (by rw [Ya7]; exact hs)]
  ·rw [Yk, Yq _ _ _ _ e]
   refine Yb0 ops r F t hs j hd l ?_ (fun q hq => hu q (by simp [hq]))
   rcases List.mem_cons.1 h with rfl | h
   ·exact absurd hd e
   ·exact h
theorem Yes {P : Program} {o : Oper} {a : Act} {w : World} {C : Value → World → Prop} {X : List PanicEntry → World → Prop} {t : Tmp} (ht : o.dst = some t) (hs : t < a.tmps.size)
  (h : o.wp P a w (fun a' w' => ∃ v, a' = a.put o.dst v ∧ C v w') (PX X)) : Yat P o a w C X := by
 have hput : ∀ u v, a.put o.dst u = a.put o.dst v → u = v := fun u v he => Yba he t ht hs
 unfold Oper.wp at h
 unfold Yat
 generalize (execOp a.eval o).run P w = r at *
 cases r with
 |ok n w' =>
  cases n
  case value u => obtain ⟨v, h1, h2⟩ := h; rw [hput _ _ h1]; exact h2
  case skip => obtain ⟨v, h1, h2⟩ := h; rw [hput _ _ h1]; exact h2
  case defer d => obtain ⟨v, h1, h2⟩ := h; exact absurd h1 (Yb3 a o.dst undef v d)
  case enter f args =>
   refine Calls.mono h (fun e w'' he => ?_)
   cases e with
   |returned u => obtain ⟨v, h1, h2⟩ := he; show C u w''; rw [hput _ _ h1]; exact h2
   |panicked c => exact he
   |outgrown => obtain ⟨_, _, hf⟩ := he; exact hf
  case row row args => exact Rows.mono h (fun u w'' he => by obtain ⟨v, h1, h2⟩ := he; rw [hput _ _ h1]; exact h2)
  all_goals exact h
 |halt x w' =>
  cases x
  case panic v => exact h
  all_goals exact h
def Ya2 (P : Program) (ops : Array Oper) (B : (Nat → Bool) → (Nat → Value) → World → Prop) (X : List PanicEntry → World → Prop) (n : Nat) (fin : List Nat → List Nat → Act → Prop) : List Nat → List Nat → Nat → List Oper → Act → Prop
 |dead, free, _, [], a => fin dead free a
 |dead, free, i, o :: rest, a =>
  (Yi dead o = true ∧ Ya2 P ops B X n fin (i :: dead) free (i + 1) rest a) ∨
  (Yi dead o = false ∧ (∀ r, Region.wanted o (yielded ops (Yk ops r free a).tmps) = true) ∧ ∃ v, (∀ d r w, d i = false → (∀ e ∈ o.after, Region.binds .any e = true → d e.on = true) → B d r w → o.wp P (Yk ops r free a) w (fun a' w' => a' = (Yk ops r free a).put o.dst v ∧ B (Yw d i) r w') (PX X)) ∧ Ya2 P ops B X n fin dead free (i + 1) rest (a.put o.dst v)) ∨
  (Yi dead o = false ∧ (∀ r, Region.wanted o (yielded ops (Yk ops r free a).tmps) = true) ∧ (∀ d r w, d i = false → (∀ e ∈ o.after, Region.binds .any e = true → d e.on = true) → B d r w → o.wp P (Yk ops r free a) w (fun _ _ => False) (PX X)) ∧ Ya2 P ops B X n fin (i :: dead) free (i + 1) rest a) ∨
  (Yi dead o = false ∧ (∀ r, Region.wanted o (yielded ops (Yk ops r free a).tmps) = false) ∧ (∀ d r w, d i = false → B d r w → B (Yw d i) r w) ∧ Ya2 P ops B X n fin dead free (i + 1) rest (a.put o.dst undef)) ∨
  (Yi dead o = false ∧ (∀ r, Region.wanted o (yielded ops (Yk ops r free a).tmps) = true) ∧ (∃ t, o.dst = some t ∧ t < a.tmps.size) ∧
   (∀ d r w, d i = false → (∀ e ∈ o.after, Region.binds .any e = true → d e.on = true) → B d r w → o.wp P (Yk ops r free a) w (fun a' w' => ∃ v, a' = (Yk ops r free a).put o.dst v ∧ B (Yw d i) (updV r i v) w') (PX X)) ∧ Ya2 P ops B X n fin dead (i :: free) (i + 1) rest a)
section
variable {P : Program} {ops : Array Oper} {B : (Nat → Bool) → (Nat → Value) → World → Prop} {X : List PanicEntry → World → Prop} {n : Nat} {fin : List Nat → List Nat → Act → Prop} {dead free : List Nat} {i : Nat} {o : Oper} {rest : List Oper} {a : Act}
theorem Yfg (h : fin dead free a) : Ya2 P ops B X n fin dead free i [] a := h
theorem Yc1 {a2 : (Nat → Value) → Act} (hd : Yi dead o = false) (hw : ∀ r, Region.wanted o (yielded ops (Yk ops r free a).tmps) = true)
  (h : ∀ (d : Nat → Bool) (r : Nat → Value) (K : Act → World → Prop), d i = false → (∀ e ∈ o.after, Region.binds .any e = true → d e.on = true) → (∀ w', B (Yw d i) r w' → K (a2 r) w') → ∀ w, B d r w → o.wp P (Yk ops r free a) w K (PX X))
  {a3 : Act} (ha : ∃ v, (∀ r, a2 r = (Yk ops r free a).put o.dst v) ∧ a3 = a.put o.dst v) (k : Ya2 P ops B X n fin dead free (i + 1) rest a3) : Ya2 P ops B X n fin dead free i (o :: rest) a := by
 obtain ⟨v, hv, rfl⟩ := ha
 exact .inr (.inl ⟨hd, hw, v, fun d r w hdi hdep hB => h d r _ hdi hdep (fun w' hB' => ⟨hv r, hB'⟩) w hB, k⟩)
theorem Yci {a2 : Act} (hd : Yi dead o = false) (hw : Region.wanted o (yielded ops a.tmps) = true)
  (h : ∀ (d : Nat → Bool) (r : Nat → Value) (K : Act → World → Prop), d i = false → (∀ e ∈ o.after, Region.binds .any e = true → d e.on = true) → (∀ w', B (Yw d i) r w' → K a2 w') → ∀ w, B d r w → o.wp P a w K (PX X))
  (ha : ∃ v, a2 = a.put o.dst v) (k : Ya2 P ops B X n fin dead [] (i + 1) rest a2) : Ya2 P ops B X n fin dead [] i (o :: rest) a := by
 obtain ⟨v, rfl⟩ := ha
 exact .inr (.inl ⟨hd, fun _ => hw, v, fun d r w hdi hdep hB => h d r _ hdi hdep (fun w' hB' => ⟨rfl, hB'⟩) w hB, k⟩)
theorem Ye0 (hd : Yi dead o = false) (hw : ∀ r, Region.wanted o (yielded ops (Yk ops r free a).tmps) = true) (t : Tmp) (ht : o.dst = some t) (hs : t < a.tmps.size)
  (h : ∀ (d : Nat → Bool) (r : Nat → Value) (K : Act → World → Prop), d i = false → ∀ w, B d r w → (∀ v w', B (Yw d i) (updV r i v) w' → K ((Yk ops r free a).put o.dst v) w') → o.wp P (Yk ops r free a) w K (PX X))
  (k : Ya2 P ops B X n fin dead (i :: free) (i + 1) rest a) : Ya2 P ops B X n fin dead free i (o :: rest) a :=
 .inr (.inr (.inr (.inr ⟨hd, hw, ⟨t, ht, hs⟩, fun d r w hdi _ hB => h d r _ hdi w hB (fun v w' hB' => ⟨v, rfl, hB'⟩), k⟩)))
end
structure Ydk (P : Program) (ops : Array Oper) (B : (Nat → Bool) → (Nat → Value) → World → Prop) (X : List PanicEntry → World → Prop) (i n : Nat) (dead free : List Nat) (a F : Act) (vs : Nat → Value) : Prop where
 live : ∀ (j : Nat) (o : Oper), i ≤ j → j < n → ops[j]? = some o → j ∉ dead → j ∉ free →
  Yi dead o = false ∧ (((∀ r, Region.wanted o (yielded ops (Yk ops r free F).tmps) = true) ∧ ∀ d r w, d j = false → (∀ e ∈ o.after, Region.binds .any e = true → d e.on = true) → B d r w → Yat P o (Yk ops r free F) w (fun v w' => same o.dst a.tmps.size v (vs j) ∧ B (Yw d j) r w') X) ∨ ((∀ r, Region.wanted o (yielded ops (Yk ops r free F).tmps) = false) ∧ vs j = undef ∧ ∀ d r w, d j = false → B d r w → B (Yw d j) r w))
 died : ∀ (j : Nat) (o : Oper), i ≤ j → j < n → ops[j]? = some o → j ∈ dead →
  Yi dead o = true ∨ ((∀ r, Region.wanted o (yielded ops (Yk ops r free F).tmps) = true) ∧ ∀ d r w, d j = false → (∀ e ∈ o.after, Region.binds .any e = true → d e.on = true) → B d r w → Yat P o (Yk ops r free F) w (fun _ _ => False) X)
 freed : ∀ (j : Nat) (o : Oper), i ≤ j → j < n → ops[j]? = some o → j ∈ free →
  j ∉ dead ∧ (∀ r, Region.wanted o (yielded ops (Yk ops r free F).tmps) = true) ∧ (∃ t, o.dst = some t ∧ t < a.tmps.size) ∧ ∀ d r w, d j = false → (∀ e ∈ o.after, Region.binds .any e = true → d e.on = true) → B d r w → Yat P o (Yk ops r free F) w (fun v w' => B (Yw d j) (updV r j v) w') X
 defers : F.defers = a.defers
 size : F.tmps.size = a.tmps.size
 old : ∀ t, (∀ (j : Nat) (oj : Oper), i ≤ j → j < n → ops[j]? = some oj → oj.dst = some t → j ∈ dead ∨ j ∈ free) → F.tmps[t]? = a.tmps[t]?
 new : ∀ (j : Nat) (oj : Oper) t, i ≤ j → j < n → ops[j]? = some oj → j ∉ dead → j ∉ free → oj.dst = some t → t < a.tmps.size → F.tmps[t]? = some (vs j)
theorem Ydm {i : Nat} {dead dead' : List Nat} (h : ∀ d, d < i + 1 → (d ∈ dead' ↔ d ∈ i :: dead)) : i ∈ dead' ∧ ∀ d, d < i → (d ∈ dead' ↔ d ∈ dead) := by
 refine ⟨(h i (by omega)).2 (by simp), fun d hlt => ?_⟩
 rw [h d (by omega)]
 constructor
 ·intro hm; rcases List.mem_cons.1 hm with rfl | hm
  ·omega
  ·exact hm
 ·intro hm; exact List.mem_cons_of_mem _ hm
theorem Ydw {i : Nat} {dead : List Nat} (hd : ∀ d, d ∈ dead → d < i) : ∀ d, d ∈ i :: dead → d < i + 1 := by
 intro d hm
 rcases List.mem_cons.1 hm with rfl | hm
 ·omega
 ·have := hd d hm; omega
theorem Ybf {P : Program} {ops : Array Oper} {B : (Nat → Bool) → (Nat → Value) → World → Prop} {X : List PanicEntry → World → Prop} {n : Nat} {fin : List Nat → List Nat → Act → Prop} (hk : Ybo ops n) :
  ∀ (l : List Oper) (i : Nat) (dead free : List Nat) (a : Act), (∀ j, j < l.length → l[j]? = ops[i + j]?) → i + l.length = n → (∀ d, d ∈ dead → d < i) → (∀ d, d ∈ free → d < i) → Ya2 P ops B X n fin dead free i l a →
  ∃ (vs : Nat → Value) (dead' free' : List Nat) (F : Act), fin dead' free' F ∧ Ydk P ops B X i n dead' free' a F vs ∧ (∀ d, d < i → (d ∈ dead' ↔ d ∈ dead)) ∧ (∀ d, d ∈ dead' → d < n) ∧ (∀ d, d < i → (d ∈ free' ↔ d ∈ free)) ∧ (∀ d, d ∈ free' → d < n)
 |[], i, dead, free, a, _, hn, hd, hfr, h => by
  have hin : i = n := by simpa using hn
  refine ⟨fun _ => undef, dead, free, a, h, ⟨?_, ?_, ?_, rfl, rfl, fun _ _ => rfl, ?_⟩, fun _ _ => Iff.rfl, fun d hdd => by have := hd d hdd; omega, fun _ _ => Iff.rfl, fun d hdd => by have := hfr d hdd; omega⟩
  ·intro j o h1 h2; omega
  ·intro j o h1 h2; omega
  ·intro j o h1 h2; omega
  ·intro j oj t h1 h2; omega
 |o :: l, i, dead, free, a, hl, hn, hd, hfr, h => by
  simp only [List.length_cons] at hn
  have ho : ops[i]? = some o := by simpa using (hl 0 (by simp)).symm
  have hin : i < n := by omega
  have hl' : ∀ j, j < l.length → l[j]? = ops[i + 1 + j]? := fun j hj => by
   have := hl (j + 1) (by simpa using hj)
   simpa [Nat.add_assoc, Nat.add_comm 1 j] using this
  have haft := hk.after i o hin ho
  have hd1 : ∀ d, d ∈ dead → d < i + 1 := fun d hm => by have := hd d hm; omega
  have hf1 : ∀ d, d ∈ free → d < i + 1 := fun d hm => by have := hfr d hm; omega
  have hdstn : ∀ (k : Nat) (t : Tmp), (ops[k]?).bind (·.dst) = some t → ∃ ok, ops[k]? = some ok ∧ ok.dst = some t := by
   intro k t hkd
   cases hok : ops[k]? with
   |none => rw [hok] at hkd; cases hkd
   |some ok => rw [hok] at hkd; exact ⟨ok, rfl, hkd⟩
  -- what the operation looks at stands to the end
  have hstay : ∀ (F b : Act) (dead' free' : List Nat) (vs : Nat → Value) (r : Nat → Value), Ydk P ops B X (i + 1) n dead' free' b F vs → (∀ t, t ∈ o.looksAt ops → b.tmps[t]? = a.tmps[t]?) → b.tmps.size = a.tmps.size →
    (∀ d, d < i → (d ∈ free' ↔ d ∈ free)) → (∀ d, d ∈ free' → d < n) → ∀ t, t ∈ o.looksAt ops → (Yk ops r free a).tmps[t]? = (Yk ops r free' F).tmps[t]? := by
   intro F b dead' free' vs r hr hb hbs hfi hfn t ht
   have hlt : ∀ k, k < n → (ops[k]?).bind (·.dst) = some t → k < i := fun k hkn hkd => by
    obtain ⟨ok, h1, h2⟩ := hdstn k t hkd
    exact (hk.looks i o k ok t hin ho hkn h1 h2 ht).1
   have hFa : F.tmps[t]? = a.tmps[t]? := by
    rw [hr.old t (fun j oj h1 h2 h3 h4 => absurd (hk.looks i o j oj t hin ho h2 h3 h4 ht).1 (by omega)), hb t ht]
   by_cases he : ∃ k, k ∈ free ∧ (ops[k]?).bind (·.dst) = some t
   ·obtain ⟨k, hkf, hkd⟩ := he
    obtain ⟨ok, h1, h2⟩ := hdstn k t hkd
    have hkn : k < n := by have := hfr k hkf; omega
    have hki : k < i := hfr k hkf
    have hu : ∀ (fr : List Nat), (∀ d, d ∈ fr → d < n) → ∀ q, q ∈ fr → (ops[q]?).bind (·.dst) = some t → q = k := by
     intro fr hfrn q hq hqd
     obtain ⟨oq, g1, g2⟩ := hdstn q t hqd
     exact hk.dst q oq k ok t (hfrn q hq) g1 hkn h1 h2 g2
    by_cases hts : t < a.tmps.size
    ·rw [Yb0 ops r a t hts k hkd free hkf (hu free (fun d hd => Nat.lt_trans (hfr d hd) hin)), Yb0 ops r F t (by rw [hr.size, hbs]; exact hts) k hkd free' ((hfi k hki).2 hkf) (hu free' hfn)]
    ·rw [Array.getElem?_eq_none (by rw [Ya7]; exact Nat.le_of_not_lt hts), Array.getElem?_eq_none (by rw [Ya7, hr.size, hbs]; exact Nat.le_of_not_lt hts)]
   ·rw [Ya4 ops r a t free (fun k hkf hkd => he ⟨k, hkf, hkd⟩), Ya4 ops r F t free' (fun k hkf hkd => he ⟨k, (hfi k (hlt k (hfn k hkf) hkd)).1 hkf, hkd⟩), hFa]
  have hput : ∀ (v : Value) t, t ∈ o.looksAt ops → (a.put o.dst v).tmps[t]? = a.tmps[t]? := fun v t ht =>
   Yq _ _ _ _ (fun he => absurd (hk.looks i o i o t hin ho hin ho he ht).1 (by omega))
  rcases h with ⟨hdd, h⟩ | ⟨hdd, hw, v, hv, h⟩ | ⟨hdd, hw, hv, h⟩ | ⟨hdd, hw, hsk, h⟩ | ⟨hdd, hw, htt, hv, h⟩
  ·obtain ⟨vs, dead', free', F, hf, hr, hdi, hdn, hfi, hfn⟩ := Ybf hk l (i + 1) (i :: dead) free a hl' (by omega) (Ydw hd) hf1 h
   obtain ⟨hmem, hdi'⟩ := Ydm hdi
   refine ⟨vs, dead', free', F, hf, ⟨?_, ?_, ?_, hr.defers, hr.size, ?_, ?_⟩, hdi', hdn, fun d hlt => hfi d (by omega), hfn⟩
   ·intro j oj h1 h2 h3 h4
    by_cases e : j = i
    ·subst e; exact absurd hmem h4
    ·exact hr.live j oj (by omega) h2 h3 h4
   ·intro j oj h1 h2 h3 h4
    by_cases e : j = i
    ·subst e
     have : oj = o := Option.some.inj (h3.symm.trans ho)
     subst this
     left; rw [Yai haft hdi']; exact hdd
    ·exact hr.died j oj (by omega) h2 h3 h4
   ·intro j oj h1 h2 h3 h4
    by_cases e : j = i
    ·subst e; have := hfr j ((hfi j (by omega)).1 h4); omega
    ·exact hr.freed j oj (by omega) h2 h3 h4
   ·intro t ht; exact hr.old t (fun j oj h1 => ht j oj (by omega))
   ·intro j oj t h1 h2 h3 h4
    by_cases e : j = i
    ·subst e; exact absurd hmem h4
    ·exact hr.new j oj t (by omega) h2 h3 h4
  ·obtain ⟨vs, dead', free', F, hf, hr, hdi, hdn, hfi, hfn⟩ := Ybf hk l (i + 1) dead free _ hl' (by omega) hd1 hf1 h
   have hmem : i ∉ dead' := fun hm => by have := hd i ((hdi i (by omega)).1 hm); omega
   have hmef : i ∉ free' := fun hm => by have := hfr i ((hfi i (by omega)).1 hm); omega
   have hs := fun r => Yac (hk.sel i o ho) (hstay F _ dead' free' vs r hr (hput v) (Yj _ _ _) (fun d hlt => hfi d (by omega)) hfn)
   refine ⟨fun j => if j = i then v else vs j, dead', free', F, hf, ⟨?_, ?_, ?_, by rw [hr.defers, Yaa], by rw [hr.size, Yj], ?_, ?_⟩, fun d hlt => hdi d (by omega), hdn, fun d hlt => hfi d (by omega), hfn⟩
   ·intro j oj h1 h2 h3 h4 h5
    by_cases e : j = i
    ·subst e
     have : oj = o := Option.some.inj (h3.symm.trans ho)
     subst this
     refine ⟨by rw [Yai haft (fun d hlt => hdi d (by omega))]; exact hdd, .inl ⟨fun r => by rw [← (hs r).2]; exact hw r, fun d r w hd0 hdep hB => ?_⟩⟩
     rw [← Yz (hs r).1]
     simp only [if_true]
     have := Ycf (hv d r w hd0 hdep hB)
     rwa [Ya7] at this
    ·simp only [if_neg e]
     have := hr.live j oj (by omega) h2 h3 h4 h5
     rwa [Yj] at this
   ·intro j oj h1 h2 h3 h4
    by_cases e : j = i
    ·subst e; exact absurd h4 hmem
    ·exact hr.died j oj (by omega) h2 h3 h4
   ·intro j oj h1 h2 h3 h4
    by_cases e : j = i
    ·subst e; exact absurd h4 hmef
    ·have := hr.freed j oj (by omega) h2 h3 h4
     rwa [Yj] at this
   ·intro t ht
    rw [hr.old t (fun j oj h1 => ht j oj (by omega)), Yq _ _ _ _ (fun he => by rcases ht i o (Nat.le_refl _) hin ho he with h | h; exact hmem h; exact hmef h)]
   ·intro j oj t h1 h2 h3 h4 h4f h5 h6
    by_cases e : j = i
    ·subst e
     have : oj = o := Option.some.inj (h3.symm.trans ho)
     subst this
     simp only [if_true]
     rw [hr.old t (fun k ok g1 g2 g3 g4 => absurd (hk.dst j oj k ok t h2 h3 g2 g3 g4 h5) (by omega)), h5, Yau _ _ _ h6]
    ·simp only [if_neg e]; exact hr.new j oj t (by omega) h2 h3 h4 h4f h5 (by rw [Yj]; exact h6)
  ·obtain ⟨vs, dead', free', F, hf, hr, hdi, hdn, hfi, hfn⟩ := Ybf hk l (i + 1) (i :: dead) free a hl' (by omega) (Ydw hd) hf1 h
   obtain ⟨hmem, hdi'⟩ := Ydm hdi
   have hs := fun r => Yac (hk.sel i o ho) (hstay F _ dead' free' vs r hr (fun _ _ => rfl) rfl (fun d hlt => hfi d (by omega)) hfn)
   refine ⟨vs, dead', free', F, hf, ⟨?_, ?_, ?_, hr.defers, hr.size, ?_, ?_⟩, hdi', hdn, fun d hlt => hfi d (by omega), hfn⟩
   ·intro j oj h1 h2 h3 h4
    by_cases e : j = i
    ·subst e; exact absurd hmem h4
    ·exact hr.live j oj (by omega) h2 h3 h4
   ·intro j oj h1 h2 h3 h4
    by_cases e : j = i
    ·subst e
     have : oj = o := Option.some.inj (h3.symm.trans ho)
     subst this
     right
     refine ⟨fun r => by rw [← (hs r).2]; exact hw r, fun d r w hd0 hdep hB => ?_⟩
     rw [← Yz (hs r).1]
     exact Yb1 (hv d r w hd0 hdep hB)
    ·exact hr.died j oj (by omega) h2 h3 h4
   ·intro j oj h1 h2 h3 h4
    by_cases e : j = i
    ·subst e; have := hfr j ((hfi j (by omega)).1 h4); omega
    ·exact hr.freed j oj (by omega) h2 h3 h4
   ·intro t ht; exact hr.old t (fun j oj h1 => ht j oj (by omega))
   ·intro j oj t h1 h2 h3 h4
    by_cases e : j = i
    ·subst e; exact absurd hmem h4
    ·exact hr.new j oj t (by omega) h2 h3 h4
  ·obtain ⟨vs, dead', free', F, hf, hr, hdi, hdn, hfi, hfn⟩ := Ybf hk l (i + 1) dead free _ hl' (by omega) hd1 hf1 h
   have hmem : i ∉ dead' := fun hm => by have := hd i ((hdi i (by omega)).1 hm); omega
   have hmef : i ∉ free' := fun hm => by have := hfr i ((hfi i (by omega)).1 hm); omega
   have hs := fun r => Yac (hk.sel i o ho) (hstay F _ dead' free' vs r hr (hput undef) (Yj _ _ _) (fun d hlt => hfi d (by omega)) hfn)
   refine ⟨fun j => if j = i then undef else vs j, dead', free', F, hf, ⟨?_, ?_, ?_, by rw [hr.defers, Yaa], by rw [hr.size, Yj], ?_, ?_⟩, fun d hlt => hdi d (by omega), hdn, fun d hlt => hfi d (by omega), hfn⟩
   ·intro j oj h1 h2 h3 h4 h5
    by_cases e : j = i
    ·subst e
     have : oj = o := Option.some.inj (h3.symm.trans ho)
     subst this
     refine ⟨by rw [Yai haft (fun d hlt => hdi d (by omega))]; exact hdd, .inr ⟨fun r => by rw [← (hs r).2]; exact hw r, by simp, hsk⟩⟩
    ·simp only [if_neg e]
     have := hr.live j oj (by omega) h2 h3 h4 h5
     rwa [Yj] at this
   ·intro j oj h1 h2 h3 h4
    by_cases e : j = i
    ·subst e; exact absurd h4 hmem
    ·exact hr.died j oj (by omega) h2 h3 h4
   ·intro j oj h1 h2 h3 h4
    by_cases e : j = i
    ·subst e; exact absurd h4 hmef
    ·have := hr.freed j oj (by omega) h2 h3 h4
     rwa [Yj] at this
   ·intro t ht
    rw [hr.old t (fun j oj h1 => ht j oj (by omega)), Yq _ _ _ _ (fun he => by rcases ht i o (Nat.le_refl _) hin ho he with h | h; exact hmem h; exact hmef h)]
   ·intro j oj t h1 h2 h3 h4 h4f h5 h6
    by_cases e : j = i
    ·subst e
     have : oj = o := Option.some.inj (h3.symm.trans ho)
     subst this
     simp only [if_true]
     rw [hr.old t (fun k ok g1 g2 g3 g4 => absurd (hk.dst j oj k ok t h2 h3 g2 g3 g4 h5) (by omega)), h5, Yau _ _ _ h6]
    ·simp only [if_neg e]; exact hr.new j oj t (by omega) h2 h3 h4 h4f h5 (by rw [Yj]; exact h6)
  ·obtain ⟨vs, dead', free', F, hf, hr, hdi, hdn, hfi, hfn⟩ := Ybf hk l (i + 1) dead (i :: free) a hl' (by omega) hd1 (Ydw hfr) h
   obtain ⟨hmem, hfi'⟩ := Ydm hfi
   have hmed : i ∉ dead' := fun hm => by have := hd i ((hdi i (by omega)).1 hm); omega
   have hs := fun r => Yac (hk.sel i o ho) (hstay F _ dead' free' vs r hr (fun _ _ => rfl) rfl hfi' hfn)
   refine ⟨vs, dead', free', F, hf, ⟨?_, ?_, ?_, hr.defers, hr.size, ?_, ?_⟩, fun d hlt => hdi d (by omega), hdn, hfi', hfn⟩
   ·intro j oj h1 h2 h3 h4 h5
    by_cases e : j = i
    ·subst e; exact absurd hmem h5
    ·exact hr.live j oj (by omega) h2 h3 h4 h5
   ·intro j oj h1 h2 h3 h4
    by_cases e : j = i
    ·subst e; exact absurd h4 hmed
    ·exact hr.died j oj (by omega) h2 h3 h4
   ·intro j oj h1 h2 h3 h4
    by_cases e : j = i
    ·subst e
     have : oj = o := Option.some.inj (h3.symm.trans ho)
     subst this
     obtain ⟨t, ht1, ht2⟩ := htt
     refine ⟨hmed, fun r => by rw [← (hs r).2]; exact hw r, ⟨t, ht1, ht2⟩, fun d r w hd0 hdep hB => ?_⟩
     rw [← Yz (hs r).1]
     exact Yes ht1 (by rw [Ya7]; exact ht2) (hv d r w hd0 hdep hB)
    ·exact hr.freed j oj (by omega) h2 h3 h4
   ·intro t ht; exact hr.old t (fun j oj h1 => ht j oj (by omega))
   ·intro j oj t h1 h2 h3 h4 h5
    by_cases e : j = i
    ·subst e; exact absurd hmem h5
    ·exact hr.new j oj t (by omega) h2 h3 h4 h5
structure Ydl (ops : Array Oper) (B : (Nat → Bool) → (Nat → Value) → World → Prop) (n : Nat) (dead free : List Nat) (a0 F : Act) (r : Nat → Value) (listed : Array Bool) (a : Act) (w : World) : Prop where
 head : HeadInv .any ops n listed
 world : B (Yar listed) r w
 defers : a.defers = a0.defers
 size : a.tmps.size = a0.tmps.size
 live : ∀ (j : Nat), j < n → listed.getD j false = true → j ∉ dead
 old : ∀ t, (∀ (j : Nat) (oj : Oper), j < n → ops[j]? = some oj → oj.dst = some t → listed.getD j false = false) → a.tmps[t]? = a0.tmps[t]?
 new : ∀ (j : Nat) (oj : Oper) t, j < n → ops[j]? = some oj → j ∉ free → listed.getD j false = true → oj.dst = some t → a.tmps[t]? = F.tmps[t]?
 newf : ∀ (j : Nat) (oj : Oper) t, j < n → ops[j]? = some oj → j ∈ free → listed.getD j false = true → oj.dst = some t → a.tmps[t]? = some (r j)
theorem Ych {P : Program} {ops : Array Oper} {B : (Nat → Bool) → (Nat → Value) → World → Prop} {X : List PanicEntry → World → Prop} {Q : Exit → Act → World → Prop} {n : Nat} {dead free : List Nat} {a0 F : Act} {vs : Nat → Value}
  (hk : Ybo ops n) (hr : Ydk P ops B X 0 n dead free a0 F vs) (hdn : ∀ d, d ∈ dead → d < n) (hfn : ∀ d, d ∈ free → d < n)
  (hwait : ∀ listed, HeadInv .any ops n listed → ∀ i, i < n → listed.getD i true = false → ∀ t, n ≤ t → t ∉ Region.ready .any ops listed)
  (hX : ∀ c a' w', X c w' → a'.defers = a0.defers → a'.tmps.size = a0.tmps.size → (∀ t, (∀ (j : Nat) (oj : Oper), j < n → ops[j]? = some oj → oj.dst ≠ some t) → a'.tmps[t]? = a0.tmps[t]?) → Q (.panic c) a' w')
  (hfin : ∀ listed r w, HeadInv .any ops n listed → (∀ i, i < n → listed.getD i true = true) → dead = [] → B (Yar listed) r w → wpAny P .any ops Q (ops.size - n) listed (Yk ops r free F) w) :
  ∀ (m : Nat) (r : Nat → Value) (listed : Array Bool) (a : Act) (w : World), Yan n listed = m → Ydl ops B n dead free a0 F r listed a w → wpAny P .any ops Q (m + (ops.size - n)) listed a w
 |0, r, listed, a, w, hm, inv => by
  have hall := Yb5 hm
  have hall' : ∀ i, i < n → listed.getD i false = true := fun i hi => by
   have h1 := hall i hi
   have h2 : i < listed.size := by rw [inv.head.size]; have := hk.le; omega
   simp [h2] at h1 ⊢; exact h1
  have hdead : dead = [] := by
   cases hde : dead with
   |nil => rfl
   |cons d r =>
    have hd : d ∈ dead := by rw [hde]; simp
    exact absurd hd (inv.live d (hdn d hd) (hall' d (hdn d hd)))
  have hF : a = Yk ops r free F := by
   have h1 : a.tmps = (Yk ops r free F).tmps := by
    apply Array.ext_getElem?
    intro t
    by_cases h : ∃ (j : Nat) (oj : Oper), j < n ∧ ops[j]? = some oj ∧ oj.dst = some t
    ·obtain ⟨j, oj, h1, h2, h3⟩ := h
     have hu : ∀ k, k ∈ free → (ops[k]?).bind (·.dst) = some t → k = j := by
      intro k hkf hkd
      cases hok : ops[k]? with
      |none => rw [hok] at hkd; cases hkd
      |some ok =>
       rw [hok] at hkd
       exact hk.dst k ok j oj t (hfn k hkf) hok h1 h2 h3 hkd
     by_cases hf : j ∈ free
     ·obtain ⟨_, _, ⟨t', ht1, ht2⟩, _⟩ := hr.freed j oj (Nat.zero_le _) h1 h2 hf
      have : t' = t := by rw [ht1] at h3; injection h3
      subst this
      rw [inv.newf j oj t' h1 h2 hf (hall' j h1) h3, Yb0 ops r F t' (by rw [hr.size]; exact ht2) j (by rw [h2]; exact h3) free hf hu]
     ·rw [inv.new j oj t h1 h2 hf (hall' j h1) h3, Ya4 ops r F t free (fun k hkf hkd => hf (by rw [← hu k hkf hkd]; exact hkf))]
    ·rw [inv.old t (fun j oj h1 h2 h3 => absurd ⟨j, oj, h1, h2, h3⟩ h), Ya4 ops r F t free (fun k hkf hkd => ?_), hr.old t (fun j oj _ h1 h2 h3 => absurd ⟨j, oj, h1, h2, h3⟩ h)]
     cases hok : ops[k]? with
     |none => rw [hok] at hkd; cases hkd
     |some ok => rw [hok] at hkd; exact h ⟨k, ok, hfn k hkf, hok, hkd⟩
   have h2 : a.defers = (Yk ops r free F).defers := by rw [inv.defers, Yc0, hr.defers]
   revert h1 h2
   generalize Yk ops r free F = G
   intro h1 h2
   cases a; cases G; simp_all
  rw [Nat.zero_add, hF]
  exact hfin listed r w inv.head hall hdead inv.world
 |m + 1, r, listed, a, w, hm, inv => by
  rw [show m + 1 + (ops.size - n) = (m + (ops.size - n)) + 1 by omega]
  obtain ⟨i0, hi0, hun0⟩ : ∃ i, i < n ∧ listed.getD i true = false := by
   have : (List.range n).countP (fun i => !listed.getD i true) ≠ 0 := by
    show Yan n listed ≠ 0
    omega
   rw [Ne, List.countP_eq_zero] at this
   simp only [Classical.not_forall] at this
   obtain ⟨i, hi, h⟩ := this
   exact ⟨i, List.mem_range.1 hi, by simpa using h⟩
  have hrd := Ycn hk inv.head.size i0 hi0 hun0
  refine ⟨fun h0 => ?_, fun i hi => ?_⟩
  ·obtain ⟨j, _, hj⟩ := hrd
   rw [h0] at hj; cases hj
  ·have hin : i < n := by
    rcases Nat.lt_or_ge i n with h | h
    ·exact h
    ·exact absurd hi (hwait listed inv.head i0 hi0 hun0 i h)
   obtain ⟨hun, o, ho, hall⟩ := mem_ready.1 hi
   have hunf : listed.getD i false = false := getD_both hun
   have hm' := Ycm hin hun
   have hlt : i < listed.size := by rw [inv.head.size]; have := hk.le; omega
   -- what the operation looks at is as in the frame at the head's end
   have hlook : ∀ t, t ∈ o.looksAt ops → a.tmps[t]? = (Yk ops r free F).tmps[t]? := by
    intro t ht
    by_cases h : ∃ (j : Nat) (oj : Oper), j < n ∧ ops[j]? = some oj ∧ oj.dst = some t
    ·obtain ⟨j, oj, h1, h2, h3⟩ := h
     obtain ⟨_, e, he, hb, hon⟩ := hk.looks i o j oj t hin ho h1 h2 h3 ht
     have hlj : listed.getD j false = true := by rw [← hon]; exact hall e he hb
     have hu : ∀ k, k ∈ free → (ops[k]?).bind (·.dst) = some t → k = j := by
      intro k hkf hkd
      cases hok : ops[k]? with
      |none => rw [hok] at hkd; cases hkd
      |some ok =>
       rw [hok] at hkd
       exact hk.dst k ok j oj t (hfn k hkf) hok h1 h2 h3 hkd
     by_cases hf : j ∈ free
     ·obtain ⟨_, _, ⟨t', ht1, ht2⟩, _⟩ := hr.freed j oj (Nat.zero_le _) h1 h2 hf
      have : t' = t := by rw [ht1] at h3; injection h3
      subst this
      rw [inv.newf j oj t' h1 h2 hf hlj h3, Yb0 ops r F t' (by rw [hr.size]; exact ht2) j (by rw [h2]; exact h3) free hf hu]
     ·rw [inv.new j oj t h1 h2 hf hlj h3, Ya4 ops r F t free (fun k hkf hkd => hf (by rw [← hu k hkf hkd]; exact hkf))]
    ·rw [inv.old t (fun j oj h1 h2 h3 => absurd ⟨j, oj, h1, h2, h3⟩ h), Ya4 ops r F t free (fun k hkf hkd => ?_), hr.old t (fun j oj _ h1 h2 h3 => absurd ⟨j, oj, h1, h2, h3⟩ h)]
     cases hok : ops[k]? with
     |none => rw [hok] at hkd; cases hkd
     |some ok => rw [hok] at hkd; exact h ⟨k, ok, hfn k hkf, hok, hkd⟩
   have hs := Yac (hk.sel i o ho) hlook
   have hnd : Yi dead o = false := by
    rw [Bool.eq_false_iff]
    intro hd
    simp only [Yi, List.any_eq_true, Bool.and_eq_true, List.contains_iff_mem, Array.mem_toList_iff] at hd
    obtain ⟨e, he, hb, hm⟩ := hd
    exact inv.live e.on (hdn _ hm) (hall e he hb) hm
   have hd0 : Yar listed i = false := hunf
   have hold : ∀ (v : Value) t, (∀ (j : Nat) (oj : Oper), j < n → ops[j]? = some oj → oj.dst = some t → (listed.setIfInBounds i true).getD j false = false) → (a.put o.dst v).tmps[t]? = a0.tmps[t]? := by
    intro v t ht
    have hne : o.dst ≠ some t := fun he => by
     have := ht i o hin ho he
     simp [hlt] at this
    rw [Yq _ _ _ _ hne]
    refine inv.old t fun j oj h1 h2 h3 => ?_
    have := ht j oj h1 h2 h3
    by_cases e : i = j
    ·subst e; exact hunf
    ·rwa [getD_set_ne false e] at this
   -- the next frame
   have hnext : ∀ (v : Value) (w' : World), B (Yw (Yar listed) i) r w' → i ∉ dead → i ∉ free → same o.dst a0.tmps.size v (vs i) → Ydl ops B n dead free a0 F r (listed.setIfInBounds i true) (a.put o.dst v) w' := by
    intro v w' hB hnot hnf hv
    refine ⟨inv.head.set hi hin, by rw [Ycw hlt]; exact hB, by rw [Yaa, inv.defers], by rw [Yj, inv.size], ?_, hold v, ?_, ?_⟩
    ·intro j hj hl
     by_cases e : i = j
     ·subst e; exact hnot
     ·rw [getD_set_ne false e] at hl; exact inv.live j hj hl
    ·intro j oj t h1 h2 h2f h3 h4
     by_cases e : i = j
     ·subst e
      have : oj = o := Option.some.inj (h2.symm.trans ho)
      subst this
      rcases Nat.lt_or_ge t a.tmps.size with ht | ht
      ·rw [h4, Yau _ _ _ ht, hr.new i oj t (Nat.zero_le _) hin ho hnot hnf h4 (by rw [← inv.size]; exact ht), hv t h4 (by rw [← inv.size]; exact ht)]
      ·rw [Array.getElem?_eq_none (by rw [Yj]; exact ht), Array.getElem?_eq_none (by rw [hr.size, ← inv.size]; exact ht)]
     ·rw [getD_set_ne false e] at h3
      have hne : o.dst ≠ some t := fun he => e (hk.dst i o j oj t hin ho h1 h2 h4 he)
      rw [Yq _ _ _ _ hne]
      exact inv.new j oj t h1 h2 h2f h3 h4
    ·intro j oj t h1 h2 h2f h3 h4
     by_cases e : i = j
     ·subst e; exact absurd h2f hnf
     ·rw [getD_set_ne false e] at h3
      have hne : o.dst ≠ some t := fun he => e (hk.dst i o j oj t hin ho h1 h2 h4 he)
      rw [Yq _ _ _ _ hne]
      exact inv.newf j oj t h1 h2 h2f h3 h4
   have hnextf : ∀ (v : Value) (w' : World), B (Yw (Yar listed) i) (updV r i v) w' → i ∉ dead → i ∈ free → Ydl ops B n dead free a0 F (updV r i v) (listed.setIfInBounds i true) (a.put o.dst v) w' := by
    intro v w' hB hnot hnf
    obtain ⟨_, _, ⟨t0, ht1, ht2⟩, _⟩ := hr.freed i o (Nat.zero_le _) hin ho hnf
    refine ⟨inv.head.set hi hin, by rw [Ycw hlt]; exact hB, by rw [Yaa, inv.defers], by rw [Yj, inv.size], ?_, hold v, ?_, ?_⟩
    ·intro j hj hl
     by_cases e : i = j
     ·subst e; exact hnot
     ·rw [getD_set_ne false e] at hl; exact inv.live j hj hl
    ·intro j oj t h1 h2 h2f h3 h4
     by_cases e : i = j
     ·subst e; exact absurd hnf h2f
     ·rw [getD_set_ne false e] at h3
      have hne : o.dst ≠ some t := fun he => e (hk.dst i o j oj t hin ho h1 h2 h4 he)
      rw [Yq _ _ _ _ hne]
      exact inv.new j oj t h1 h2 h2f h3 h4
    ·intro j oj t h1 h2 h2f h3 h4
     by_cases e : i = j
     ·subst e
      have : oj = o := Option.some.inj (h2.symm.trans ho)
      subst this
      have : t0 = t := by rw [ht1] at h4; injection h4
      subst this
      rw [h4, Yau _ _ _ (by rw [inv.size]; exact ht2)]
      simp [updV]
     ·rw [getD_set_ne false e] at h3
      have hne : o.dst ≠ some t := fun he => e (hk.dst i o j oj t hin ho h1 h2 h4 he)
      rw [Yq _ _ _ _ hne, inv.newf j oj t h1 h2 h2f h3 h4]
      simp only [updV]
      rw [if_neg (fun h => e h.symm)]
   have hpan : ∀ c w', X c w' → Q (.panic c) a w' := fun c w' hx =>
    hX c a w' hx inv.defers inv.size fun t ht => inv.old t fun j oj h1 h2 h3 => absurd h3 (ht j oj h1 h2)
   unfold wpOp
   simp only [ho]
   by_cases hde : i ∈ dead
   ·rcases hr.died i o (Nat.zero_le _) hin ho hde with h | ⟨hw, h⟩
    ·rw [h] at hnd; cases hnd
    ·rw [if_pos (by rw [hs.2]; exact hw r)]
     refine .inl (Yay ?_)
     rw [Yz hs.1]
     exact Ya6 (h _ r w hd0 hall inv.world) (fun _ _ hf => hf.elim) hpan
   ·by_cases hfe : i ∈ free
    ·obtain ⟨_, hw, _, h⟩ := hr.freed i o (Nat.zero_le _) hin ho hfe
     rw [if_pos (by rw [hs.2]; exact hw r)]
     refine .inl (Yay ?_)
     rw [Yz hs.1]
     refine Ya6 (h _ r w hd0 hall inv.world) (fun v w' hv => ?_) hpan
     exact Ych hk hr hdn hfn hwait hX hfin m _ _ _ _ (by omega) (hnextf v w' hv hde hfe)
    ·obtain ⟨_, ⟨hw, h⟩ | ⟨hw, h, hsk⟩⟩ := hr.live i o (Nat.zero_le _) hin ho hde hfe
     ·rw [if_pos (by rw [hs.2]; exact hw r)]
      refine .inl (Yay ?_)
      rw [Yz hs.1]
      refine Ya6 (h _ r w hd0 hall inv.world) (fun v w' hv => ?_) hpan
      exact Ych hk hr hdn hfn hwait hX hfin m _ _ _ _ (by omega) (hnext v w' hv.2 hde hfe hv.1)
     ·rw [if_neg (by rw [hs.2, hw r]; simp)]
      exact Ych hk hr hdn hfn hwait hX hfin m _ _ _ _ (by omega) (hnext undef w (hsk _ r w hd0 inv.world) hde hfe (fun _ _ _ => h.symm))
theorem wp_drawE {P : Program} {id : Nat} {Q : Exit → Act → World → Prop} {a : Act} {w : World} {l : List Oper} (n : Nat) (B : (Nat → Bool) → (Nat → Value) → World → Prop) (X : List PanicEntry → World → Prop) (hm : P.follows .mixedOrders = true) (hok : Yb9 l.toArray n = true)
  (hB : ∀ r, B (fun _ => false) r w.drew)
  (hX : ∀ c a' w', X c w' → a'.defers = a.defers → a'.tmps.size = a.tmps.size → (∀ t, noDst l n t = true → a'.tmps[t]? = a.tmps[t]?) → Q (.panic c) a' w')
  (h : Ya2 P l.toArray B X n (fun dead free F => dead = [] → ∀ r w1 d, (∀ j, j < n → d j = true) → B d r w1 → wpList P l.toArray Q (l.drop n) (Yk l.toArray r free F) w1) [] [] 0 (l.take n) a) : (Code.region id l.toArray true).wp P Q a w := by
 simp only [Yb9, Bool.and_eq_true, Bool.or_eq_true, decide_eq_true_eq] at hok
 obtain ⟨⟨hh, ht⟩, hq⟩ := hok
 have hk := Yb4 hh
 have hle : n ≤ l.length := by simpa using hk.le
 have htl : (l.take n).length = n := by simp; omega
 obtain ⟨vs, dead, free, F, hf, hr, _, hdn, _, hfn⟩ := Ybf hk (l.take n) 0 [] [] a (fun j hj => by
  have hj' : j < n := by rw [htl] at hj; exact hj
  simp [hj']) (by simpa using htl) (by simp) (by simp) h
 have hun : Yan n (Array.replicate l.toArray.size false) = n := by
  have : ∀ i, i ∈ List.range n → (!(Array.replicate l.toArray.size false).getD i true) = true := fun i hi => by
   have hi' : i < l.toArray.size := by have := List.mem_range.1 hi; simp; omega
   have hi'' : i < l.length := by simpa using hi'
   simp [hi'']
  unfold Yan
  rw [List.countP_eq_length.2 this, List.length_range]
 have inv0 : HeadInv .any l.toArray n (Array.replicate l.toArray.size false) :=
  ⟨by simp, fun j oj _ hl => (by rw [getD_replicate_false] at hl; cases hl), fun t _ ht => getD_in (by simpa using ht) (getD_replicate_false _ _)⟩
 have hgo := Ych (Q := Q) hk hr hdn hfn ?_ (fun c a' w' hx h1 h2 h3 => hX c a' w' hx h1 h2 fun t ht' => h3 t fun j oj g1 g2 => Ycq ht' j oj g1 (by simpa using g2)) ?_ n (fun _ => undef) _ a w.drew hun
  ⟨inv0, by rw [Ydr]; exact hB _, rfl, rfl, fun j _ hl => (by rw [getD_replicate_false] at hl; cases hl), fun _ _ => rfl, fun j oj t _ _ _ hl => (by rw [getD_replicate_false] at hl; cases hl), fun j oj t _ _ _ hl => (by rw [getD_replicate_false] at hl; cases hl)⟩
 ·refine wp_region_any hm ?_
  rw [show n + (l.toArray.size - n) = l.toArray.size by simp; omega] at hgo
  exact hgo
 ·intro listed inv i hi hun t hnt
  rcases ht with ht | ⟨⟨h1, h2⟩, h3⟩
  ·intro hrd
   obtain ⟨_, o, ho, _⟩ := mem_ready.1 hrd
   have := (Array.getElem?_eq_some_iff.1 ho).1
   omega
  ·exact tail_waits h2 h3 h1 inv _ i rfl hi hun t hnt
 ·intro listed r w1 inv hall hd hBw
  have hlst : listed = Array.replicate n true ++ Array.replicate (l.toArray.size - n) false := by
   apply Array.ext
   ·rw [inv.size]; simp; omega
   ·intro i h1 h2
    by_cases hi : i < n
    ·have := hall i hi
     simp [h1] at this
     rw [this, Array.getElem_append_left (by simpa using hi)]
     simp
    ·have := inv.tail i (by omega) (by rw [← inv.size]; exact h1)
     simp [h1] at this
     rw [this, Array.getElem_append_right (by simpa using hi)]
     simp
  have hdl : (l.drop n).length = l.toArray.size - n := by simp
  have := wpAny_of_seq (md := .any) (P := P) (ops := l.toArray) (Q' := Q) (l.drop n) n listed (Yk l.toArray r free F) w1 (fun j => by simp [List.getElem?_drop]) (by rw [hdl, hlst]; exact hq) (hf hd r w1 (Yar listed) (fun j hj => by
   have h1 := hall j hj
   have h2 : j < listed.size := by rw [inv.size]; have := hk.le; omega
   simp only [Yar]
   simp [h2] at h1 ⊢; exact h1) hBw)
  rwa [hdl] at this
end
structure Yek (M : Mem) (a pb : Nat) (w : World) (g : Nat) (cur : Array Value) (w1 : World) : Prop where
 f : w1.heap[w.heap.size]? = some (.cells #[.int .i64 0, .int .u32 0, .int .u32 0, .int .i64 0] 37 (0, 0))
 k : w1.heap[w.heap.size + 1]? = some (.cells #[.bool false] 4 (0, 0))
 m : Yg w1 a pb M
 u : Upd [pb] w w1
 g : w1.heap[g]? = some (.cells cur 98 (0, 0))
theorem Yek.store {M : Mem} {a pb : Nat} {w w1 : World} {g : Nat} {cur : Array Value} (h : Yek M a pb w g cur w1) (ha : a < w.heap.size) (hp : pb < w.heap.size) (hg : w.heap.size ≤ g) {y : Int} (h0 : 0 ≤ y) (h1 : y < 16384) {b : Int} (hb0 : 0 ≤ b) (hb1 : b ≤ 255) :
  Yek (M.setB y.toNat b) a pb w g cur (w1.setCell ⟨pb, Ycb y, none⟩ (.int .u8 b)) :=
 ⟨Yb _ (by simp <;> omega) h.f, Yb _ (by simp <;> omega) h.k, h.m.store h0 h1 hb0 hb1, h.u.setCell (by simp) _, Yb _ (by simp <;> omega) h.g⟩
def Mem.putN (M : Mem) (x v : Int) : Nat → Mem
 |0 => M
 |j + 1 => (M.putN x v j).setB (Yy x j).toNat (v / 2 ^ (8 * j) % 256)
theorem Ydp : (Tryd.prog.info? 37).map (·.size) = some 4 := by kernel_rfl
theorem Yd7 {w : World} {b : Nat} {t : TypeId} {a0 a1 a2 a3 : Value} (h : w.heap[b]? = some (.cells #[a0, a1, a2, a3] t (0, 0))) (u0 u1 u2 u3 : Value) :
  ((((w.setCell ⟨b, 0, none⟩ u0).setCell ⟨b, 0 + 1, none⟩ u1).setCell ⟨b, 0 + 2, none⟩ u2).setCell ⟨b, 0 + 3, none⟩ u3).heap[b]? = some (.cells #[u0, u1, u2, u3] t (0, 0)) :=
 Yc (Yc (Yc (Yc h 0 u0) 1 u1) 2 u2) 3 u3
theorem Ycj {S : List Nat} {w0 w : World} {b : Nat} (h : Upd S w0 w) (hb : b ∈ S ∨ w0.heap.size ≤ b) (u0 u1 u2 u3 : Value) :
  Upd S w0 ((((w.setCell ⟨b, 0, none⟩ u0).setCell ⟨b, 0 + 1, none⟩ u1).setCell ⟨b, 0 + 2, none⟩ u2).setCell ⟨b, 0 + 3, none⟩ u3) :=
 (((h.setCell (p := ⟨b, 0, none⟩) hb _).setCell (p := ⟨b, 0 + 1, none⟩) hb _).setCell (p := ⟨b, 0 + 2, none⟩) hb _).setCell (p := ⟨b, 0 + 3, none⟩) hb _
structure Flt where
 k : Int
 pc : Int
 a : Int
 wt : Int
 deriving DecidableEq
def Flt.cells (f : Flt) : Array Value := #[.int .i64 f.k, .int .u32 f.pc, .int .u32 f.a, .int .i64 f.wt]
def Flt.val (f : Flt) : Value := .agg #[.int .i64 f.k, .int .u32 f.pc, .int .u32 f.a, .int .i64 f.wt]
def Flt.zero : Flt := ⟨0, 0, 0, 0⟩
def Mem.rdF (M : Mem) (x bytes right : Int) : Flt := match M.bad x (Yt right) (Yal bytes).toNat with | none => Flt.zero | some i => ⟨1, 0, Yy x i, Yt right⟩
def Mem.wrF (M : Mem) (x bytes : Int) : Flt := match M.bad x 2 (Yal bytes).toNat with | none => Flt.zero | some i => ⟨1, 0, Yy x i, 2⟩
theorem Mem.readF_val (M : Mem) (x bytes right : Int) : M.readF x bytes right = (M.rdF x bytes right).val := by
 unfold Mem.readF Mem.rdF; cases M.bad x (Yt right) (Yal bytes).toNat <;> rfl
theorem Ybm {tmps : Array Value} {w : World} (a : Tmp) (b : Nat) (k : Bool) (ha : tmps.getD a undef = .pointer (some ⟨b, 0, none⟩)) (hb : w.heap[b]? = some (.cells #[.bool k] 4 (0, 0))) : (Ya5 tmps (.cell a 4)).run Tryd.prog w = .ok (.bool k) w := by
 have hc : w.cell? ⟨b, 0, none⟩ = some (.bool k) := by rw [Ya hb]; rfl
 simp only [Ya5, Sem.run_bind, ha]
 simp [asAddr, go_sem, hc]
theorem Ydu {tmps : Array Value} {w : World} (a : Tmp) (b : Nat) (F : Flt) (ha : tmps.getD a undef = .pointer (some ⟨b, 0, none⟩)) (hb : w.heap[b]? = some (.cells #[.int .i64 F.k, .int .u32 F.pc, .int .u32 F.a, .int .i64 F.wt] 37 (0, 0))) :
  (Ya5 tmps (.cell a 37)).run Tryd.prog w = .ok F.val w :=
 Yey a 37 b _ _ ha hb Tryd.underlying37 rfl Ydp
structure WrD (S : List Nat) (s : St) (o : Opd) (F : Flt) (gb : Nat) (w : World) (d : Nat → Bool) (w1 : World) : Prop where
 sb : w1.heap[w.heap.size]? = some (.cells s.cells 28 (0, 0))
 g : w1.heap[gb]? = some (.cells #[.int .i64 F.k, .int .u32 F.pc, .int .u32 F.a, .int .i64 F.wt] 37 (0, 0))
 r : ∃ X : St, w1.heap[w.heap.size + 1 + 1]? = some (.cells X.cells 28 (0, 0)) ∧ (d 3 = true → X = s)
 f : ∃ Y : Flt, w1.heap[w.heap.size + 1 + 1 + 1]? = some (.cells #[.int .i64 Y.k, .int .u32 Y.pc, .int .u32 Y.a, .int .i64 Y.wt] 37 (0, 0)) ∧ (d 4 = true → Y = F)
 gb : w.heap.size + 1 + 1 + 1 < gb
 u : Upd S w w1
theorem WrD.skip {S : List Nat} {s : St} {o : Opd} {F : Flt} {gb : Nat} {w w1 : World} {d : Nat → Bool} {i : Nat} (h : WrD S s o F gb w d w1) (h3 : i ≠ 3) (h4 : i ≠ 4) : WrD S s o F gb w (Yw d i) w1 := by
 have e3 : Yw d i 3 = d 3 := by simp only [Yw]; rw [if_neg (fun e => h3 e.symm)]
 have e4 : Yw d i 4 = d 4 := by simp only [Yw]; rw [if_neg (fun e => h4 e.symm)]
 exact ⟨h.sb, h.g, by rw [e3]; exact h.r, by rw [e4]; exact h.f, h.gb, h.u⟩
structure CanB (w w1 : World) : Prop where
 f : w1.heap[w.heap.size]? = some (.cells #[.int .i64 0, .int .u32 0, .int .u32 0, .int .i64 0] 37 (0, 0))
 k : w1.heap[w.heap.size + 1]? = some (.cells #[.bool false] 4 (0, 0))
 u : Upd [] w w1
theorem CanB.start (w : World) : CanB w ((w.alloc (.cells #[.int .i64 0, .int .u32 0, .int .u32 0, .int .i64 0] 37)).alloc (.cells #[.bool false] 4)) :=
 ⟨heap_alloc2_old _ _ _, heap_alloc2_new _ _ _, ((Upd.refl _ _).alloc _).alloc _⟩
structure FkB (S : List Nat) (w : World) (F : Flt) (K : Bool) (w1 : World) : Prop where
 f : w1.heap[w.heap.size]? = some (.cells #[.int .i64 F.k, .int .u32 F.pc, .int .u32 F.a, .int .i64 F.wt] 37 (0, 0))
 k : w1.heap[w.heap.size + 1]? = some (.cells #[.bool K] 4 (0, 0))
 u : Upd S w w1
theorem FkB.start (w : World) : FkB [] w Flt.zero false ((w.alloc (.cells #[.int .i64 0, .int .u32 0, .int .u32 0, .int .i64 0] 37)).alloc (.cells #[.bool false] 4)) :=
 ⟨heap_alloc2_old _ _ _, heap_alloc2_new _ _ _, ((Upd.refl _ _).alloc _).alloc _⟩
theorem FkB.step {S S' T : List Nat} {w w1 w2 : World} {F : Flt} {K : Bool} (h : FkB T w F K w1) (u : Upd S w1 w2) (hS : ∀ x, x ∈ S → x < w.heap.size) (hu : Upd S' w w2) : FkB S' w F K w2 :=
 ⟨u.get h.f (fun hh => by have := hS _ hh; omega), u.get h.k (fun hh => by have := hS _ hh; omega), hu⟩
section
theorem Yah {S : List Nat} {a b : World} (h : Upd S a b) (n : Nat) : Upd S a (b.drewN n) := ⟨h.os, h.tape, h.output, h.size, h.block⟩
structure Rn where
 s : St
 p : St
 T : Nat → Int
def Ydq (T : Nat → Int) : List Value := (List.range 64).map fun i => .int .u32 (T i)
def Yc2 (a : Nat) (r : Rn) : List Value := [.pointer (some ⟨a, 0, none⟩)] ++ (r.s.cells.toList ++ (r.p.cells.toList ++ Ydq r.T))
def Yn (a : Nat) (r : Rn) : Array Value := (Yc2 a r).toArray
theorem St.len (s : St) : s.cells.toList.length = 17 := rfl
theorem Ye6 (T : Nat → Int) : (Ydq T).length = 64 := by simp [Ydq]
theorem Ybg (a : Nat) (r : Rn) : (Yn a r).size = 99 := by simp [Yn, Yc2, St.size, Ye6]
theorem rn_s (a : Nat) (r : Rn) (j : Nat) (hj : j < 17) : (Yn a r)[1 + j]? = r.s.cells[j]? := by
 unfold Yn
 rw [List.getElem?_toArray]
 unfold Yc2
 rw [List.getElem?_append_right (by simp), List.getElem?_append_left (by rw [St.len]; simp; omega), Array.getElem?_toList]
 congr 1
 simp
theorem rn_p (a : Nat) (r : Rn) (j : Nat) (hj : j < 17) : (Yn a r)[18 + j]? = r.p.cells[j]? := by
 unfold Yn
 rw [List.getElem?_toArray]
 unfold Yc2
 rw [List.getElem?_append_right (by simp; omega), List.getElem?_append_right (by rw [St.len]; simp), List.getElem?_append_left (by rw [St.len, St.len]; simp; omega), Array.getElem?_toList]
 congr 1
 rw [St.len]; simp
theorem Ya1 (a : Nat) (r : Rn) (j : Nat) (hj : j < 64) : (Yn a r)[35 + j]? = some (.int .u32 (r.T j)) := by
 unfold Yn
 rw [List.getElem?_toArray]
 unfold Yc2
 rw [List.getElem?_append_right (by simp; omega), List.getElem?_append_right (by rw [St.len]; simp; omega), List.getElem?_append_right (by rw [St.len, St.len]; simp; omega), St.len, St.len]
 have e : 35 + j - [Value.pointer (some ⟨a, 0, none⟩)].length - 17 - 17 = j := by simp; omega
 rw [e, Ydq, List.getElem?_map, List.getElem?_range hj]
 rfl
theorem rn_a (a : Nat) (r : Rn) : (Yn a r)[0]? = some (.pointer (some ⟨a, 0, none⟩)) := rfl
def Rn.setT (r : Rn) (j : Nat) (v : Int) : Rn := { r with T := fun i => if i = j then v else r.T i }
theorem Yeh {C : Array Value} {a : Nat} {r : Rn} (hs : C.size = 99) (h0 : C[0]? = some (.pointer (some ⟨a, 0, none⟩))) (h1 : ∀ j, j < 17 → C[1 + j]? = r.s.cells[j]?) (h2 : ∀ j, j < 17 → C[18 + j]? = r.p.cells[j]?) (h3 : ∀ j, j < 64 → C[35 + j]? = some (.int .u32 (r.T j))) : C = Yn a r := by
 apply Array.ext_getElem?
 intro k
 by_cases k0 : k = 0
 ·rw [k0, h0, rn_a]
 by_cases k1 : k < 18
 ·have := h1 (k - 1) (by omega)
  rw [show 1 + (k - 1) = k by omega] at this
  rw [this, ← rn_s a r (k - 1) (by omega), show 1 + (k - 1) = k by omega]
 by_cases k2 : k < 35
 ·have := h2 (k - 18) (by omega)
  rw [show 18 + (k - 18) = k by omega] at this
  rw [this, ← rn_p a r (k - 18) (by omega), show 18 + (k - 18) = k by omega]
 by_cases k3 : k < 99
 ·have := h3 (k - 35) (by omega)
  rw [show 35 + (k - 35) = k by omega] at this
  rw [this, ← Ya1 a r (k - 35) (by omega), show 35 + (k - 35) = k by omega]
 ·rw [Array.getElem?_eq_none (by omega), Array.getElem?_eq_none (by rw [Ybg]; omega)]
theorem rn_setT (a : Nat) (r : Rn) (j : Nat) (v : Int) (hj : j < 64) : (Yn a r).setIfInBounds (35 + j) (.int .u32 v) = Yn a (r.setT j v) := by
 refine Yeh (by rw [Array.size_setIfInBounds, Ybg]) ?_ (fun i hi => ?_) (fun i hi => ?_) (fun i hi => ?_)
 ·rw [Array.getElem?_setIfInBounds, if_neg (by omega), rn_a]
 ·rw [Array.getElem?_setIfInBounds, if_neg (by omega), rn_s a r i hi]; rfl
 ·rw [Array.getElem?_setIfInBounds, if_neg (by omega), rn_p a r i hi]; rfl
 ·rw [Array.getElem?_setIfInBounds]
  by_cases e : i = j
  ·rw [if_pos (by omega), Ybg, if_pos (by omega)]; simp [Rn.setT, e]
  ·rw [if_neg (by omega), Ya1 a r i hi]; simp [Rn.setT, e]
theorem rn_setS (a : Nat) (r : Rn) (s' : St) (j : Nat) (v : Value) (hj : j < 17) (h : r.s.cells.setIfInBounds j v = s'.cells) : (Yn a r).setIfInBounds (1 + j) v = Yn a { r with s := s' } := by
 refine Yeh (by rw [Array.size_setIfInBounds, Ybg]) ?_ (fun i hi => ?_) (fun i hi => ?_) (fun i hi => ?_)
 ·rw [Array.getElem?_setIfInBounds, if_neg (by omega), rn_a]
 ·rw [Array.getElem?_setIfInBounds, ← h, Array.getElem?_setIfInBounds, St.size]
  by_cases e : j = i
  ·rw [if_pos (by omega), if_pos e, if_pos hj, if_pos (by rw [Ybg]; omega)]
  ·rw [if_neg (by omega), if_neg e, rn_s a r i hi]
 ·rw [Array.getElem?_setIfInBounds, if_neg (by omega), rn_p a r i hi]
 ·rw [Array.getElem?_setIfInBounds, if_neg (by omega), Ya1 a r i hi]
structure Rn.Ok (r : Rn) : Prop where
 s : r.s.Ok
 p : r.p.Ok
 T : ∀ j, 0 ≤ r.T j ∧ r.T j < 4294967296
structure Yu (w : World) (d a : Nat) (r : Rn) : Prop where
 h : w.heap[d]? = some (.cells (Yn a r) 54 (0, 0))
 ok : r.Ok
section
variable {w w' : World} {d a : Nat} {r : Rn}
theorem Yu.keep {S : List Nat} (h : Yu w d a r) (u : Upd S w w') (hd : d ∉ S) : Yu w' d a r := ⟨u.get h.h hd, h.ok⟩
theorem Yu.lt (h : Yu w d a r) : d < w.heap.size := Yf h.h
theorem Yu.cell (h : Yu w d a r) (o : Nat) : w.cell? ⟨d, o, none⟩ = (Yn a r)[o]? := Ya h.h o
theorem Rn.setT_ok (h : r.Ok) (j : Nat) {v : Int} (hv : 0 ≤ v ∧ v < 4294967296) : (r.setT j v).Ok :=
 ⟨h.s, h.p, fun i => by unfold Rn.setT; dsimp only; split; exact hv; exact h.T i⟩
theorem Yu.setT (h : Yu w d a r) (j : Nat) (hj : j < 64) {v : Int} (hv : 0 ≤ v ∧ v < 4294967296) : Yu (w.setCell ⟨d, 35 + j, none⟩ (.int .u32 v)) d a (r.setT j v) :=
 ⟨by rw [← rn_setT a r j v hj]; exact Yc h.h _ _, Rn.setT_ok h.ok j hv⟩
theorem Yu.setS (h : Yu w d a r) (s' : St) (j : Nat) (v : Value) (hj : j < 17) (hs : r.s.cells.setIfInBounds j v = s'.cells) (ho : s'.Ok) : Yu (w.setCell ⟨d, 1 + j, none⟩ v) d a { r with s := s' } :=
 ⟨by rw [← rn_setS a r s' j v hj hs]; exact Yc h.h _ _, ho, h.ok.p, h.ok.T⟩
end
end
section
structure Mrm.Ok (m : Mrm) : Prop where
 mod : 0 ≤ m.mod ∧ m.mod ≤ 3
 reg : 0 ≤ m.reg ∧ m.reg < 8
 rm : 0 ≤ m.rm ∧ m.rm < 8
section
variable {w w2 w3 : World} {d : Nat} {v : Value} {L : List Int} {g k k' : Nat} {m : Mrm} {o o' : Opd}
end
end
structure BArg (w : World) (v : Value) (L : List Int) (g : Nat) : Prop where
 b : BySl w v L g
 n : L.length ≤ maxLen
 r : BOk L
 c : ∀ b n c, v = .slice b n c → n ≤ c
 g : g ≤ w.heap.size
section
structure Ins.Ok (i : Ins) : Prop where
 a : i.a.Ok
 b : i.b.Ok
section
variable {w w' : World} {d a pb : Nat} {s : St} {i : Ins} {M : Mem}
end
end
section
def Yx (F : Flt) : Array Value := #[.int .i64 F.k, .int .u32 F.pc, .int .u32 F.a, .int .i64 F.wt]
theorem Yad {d : Nat → Bool} {m i : Nat} (h : i ≠ m) : Yw d m i = d i := by simp [Yw, h]
theorem bq_eq {d : Nat → Bool} {m : Nat} : Yw d m m = true := by simp [Yw]
theorem vq_eq {r : Nat → Value} {m : Nat} {v : Value} : updV r m v m = v := by simp [updV]
theorem Yd5 {op : Oper} {A : Act} {w : World} {K : Act → World → Prop} {Q : Exit → Act → World → Prop} (F Z : Flt) (g : Nat) (x y : Operand) (ho : op.op = .store 37 x y) (hx : A.eval x = .pointer (some ⟨g, 0, none⟩)) (hy : A.eval y = F.val)
  (hb : w.heap[g]? = some (.cells (Yx Z) 37 (0, 0))) (hK : K (A.put op.dst undef) (w.setCells g 0 (Yx F).toList)) : op.wp Tryd.prog A w K Q :=
 wp_store_mid 37 x y ho g 0 (Yx F) hx hy (Ycg hb 0 4 (by simp [Yx])) Ydp (by simp [Yx, Value.oneCell']) hK
section
variable {w w1 w2 : World} {d a pb ob : Nat} {s : St} {i : Ins} {M M' : Mem} {o : Opd} {S : St} {F : Flt} {c e f p q : Nat} {T : List Nat} {dn : Nat → Bool} {r : Nat → Value}
end
end
def oddB (x : Int) : Nat → Bool
 |0 => false
 |k + 1 => oddB x k != (x / 2 ^ k % 2 == 1)
def parB (x : Int) : Bool := !oddB x 8
structure Fl where
 cf : Bool
 pf : Bool
 af : Bool
 zf : Bool
 sf : Bool
 of_ : Bool
def Fl.cells (f : Fl) : Array Value := #[.bool f.cf, .bool f.pf, .bool f.af, .bool f.zf, .bool f.sf, .bool f.of_]
def Fl.zero : Fl := ⟨false, false, false, false, false, false⟩
def St.fl (s : St) : Fl := ⟨s.cf, s.pf, s.af, s.zf, s.sf, s.of_⟩
def Fl.by (f : Fl) (r : Int) : Fl := { f with zf := r == 0, sf := decide (2147483648 ≤ r), pf := parB r }
structure AlS (w : World) (f : Fl) (w1 : World) : Prop where
 z7 : w1.heap[w.heap.size]? = some (.cells f.cells 25 (0, 0))
 z9 : w1.heap[w.heap.size + 1]? = some (.cells Fl.zero.cells 25 (0, 0))
 z10 : w1.heap[w.heap.size + 1 + 1]? = some (.cells f.cells 25 (0, 0))
 u : Upd [] w w1
theorem AlS.of {w w1 : World} {f : Fl} (hu : Upd [] (((w.alloc (.cells f.cells 25)).alloc (.cells Fl.zero.cells 25)).alloc (.cells f.cells 25)) w1) : AlS w f w1 := by
 have h2 := heap_alloc_new ((w.alloc (.cells f.cells 25)).alloc (.cells Fl.zero.cells 25)) (.cells f.cells 25)
 rw [show ((w.alloc (.cells f.cells 25)).alloc (.cells Fl.zero.cells 25)).heap.size = w.heap.size + 1 + 1 from by simp] at h2
 exact ⟨hu.get (Ye _ (heap_alloc2_old _ _ _)) (by simp), hu.get (Ye _ (heap_alloc2_new _ _ _)) (by simp), hu.get h2 (by simp), ((((Upd.refl [] w).alloc _).alloc _).alloc _).also hu (by simp)⟩
structure AlE (w : World) (f : Fl) (w1 : World) : Prop where
 r7 : w1.heap[w.heap.size]? = some (.cells f.cells 25 (0, 0))
 r9 : w1.heap[w.heap.size + 1]? = some (.cells Fl.zero.cells 25 (0, 0))
 u : Upd [] w w1
theorem AlE.drew {w w1 : World} {f : Fl} (h : AlE w f w1) : AlE w f w1.drew := by
 have u := (Upd.refl [] w1).drew
 exact ⟨u.get h.r7 (by simp), u.get h.r9 (by simp), h.u.drew⟩
theorem AlE.cf {w w1 : World} {f : Fl} (h : AlE w f w1) (x : Bool) : AlE w { f with cf := x } (w1.setCell ⟨w.heap.size, 0, none⟩ (.bool x)) :=
 ⟨Yc h.r7 0 (.bool x), ((Upd.refl [w.heap.size] w1).setCell (p := ⟨w.heap.size, 0, none⟩) (.inl (by simp)) (.bool x)).get h.r9 (by simp), h.u.setCell (p := ⟨w.heap.size, 0, none⟩) (.inr (Nat.le_refl _)) _⟩
theorem AlE.start {w : World} {f : Fl} : AlE w f (((w.alloc (.cells f.cells 25)).alloc (.cells Fl.zero.cells 25)).alloc (.cells f.cells 25)) :=
 ⟨(AlS.of (Upd.refl [] _)).z7, (AlS.of (Upd.refl [] _)).z9, (AlS.of (Upd.refl [] _)).u⟩
def condL (f : Fl) : List Bool := [f.of_, f.cf, f.zf, f.cf || f.zf, f.sf, f.pf, f.sf != f.of_, f.zf || (f.sf != f.of_)]
def condB (f : Fl) (c : Int) : Bool := (condL f).getD ((c % 16) / 2).toNat false != ((c % 16) % 2 == 1)
structure Mi.In (x : Mi) : Prop where
 t : 0 ≤ x.t ∧ x.t < 64
 a : 0 ≤ x.a ∧ x.a < 64
 b : 0 ≤ x.b ∧ x.b < 64
 c : 0 ≤ x.c ∧ x.c < 64
 n : 0 ≤ x.n ∧ x.n < 4294967296
def truthI (b : Bool) : Int := if b = true then 1 else 0
structure MB (w : World) (d ma M0 : Nat) (r : Rn) (C : Array Value) (w1 : World) : Prop where
 m : w1.heap[M0]? = some (.cells C 35 (0, 0))
 r : Yu w1 d ma r
 u : Upd [] w w1
theorem MB.step {w w1 w2 : World} {d ma M0 : Nat} {r : Rn} {C : Array Value} (h : MB w d ma M0 r C w1) (u : Upd [] w1 w2) : MB w d ma M0 r C w2 := ⟨u.get h.m (by simp), h.r.keep u (by simp), h.u.also u (by simp)⟩
theorem Yu.rs {w : World} {d ma : Nat} {r : Rn} (h : Yu w d ma r) : w.rangeAt d 1 r.s.cells.toList := fun j u hu => by
 have hj : j < 17 := by have := (List.getElem?_eq_some_iff.1 hu).1; rwa [St.len] at this
 rw [h.cell, rn_s _ _ _ hj, ← Array.getElem?_toList]; exact hu
theorem rn_putP (a : Nat) (r : Rn) (s' : St) : wr (Yn a r) 18 s'.cells.toList = Yn a { r with p := s' } := by
 have hl : 18 + s'.cells.toList.length ≤ (Yn a r).size := by rw [Ybg, St.len]; decide
 refine Yeh (by rw [Yew, Ybg]) ?_ (fun i hi => ?_) (fun i hi => ?_) (fun i hi => ?_)
 ·rw [Ybp _ _ _ _ hl, if_neg (by omega), rn_a]
 ·rw [Ybp _ _ _ _ hl, if_neg (by omega), rn_s a r i hi]
 ·rw [Ybp _ _ _ _ hl, St.len, if_pos (by omega), show 18 + i - 18 = i by omega, Array.getElem?_toList]
 ·rw [Ybp _ _ _ _ hl, St.len, if_neg (by omega), Ya1 a r i hi]
theorem Yu.putP {w w' : World} {d ma : Nat} {r : Rn} (h : Yu w d ma r) (hw : w.setCells d 18 r.s.cells.toList = w') : Yu w' d ma { r with p := r.s } := by
 subst hw
 exact ⟨by rw [Yab _ _ _ _ h.h, rn_putP], h.ok.s, h.ok.s, h.ok.T⟩
def flagB (s : St) (n : Int) : Bool := if n = 0 then s.cf else if n = 1 then s.pf else if n = 2 then s.af else if n = 3 then s.zf else if n = 4 then s.sf else if n = 5 then s.of_ else s.df
end Go.Proofs.YtjkolegknpflfaaDoor
