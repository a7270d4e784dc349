/-
  Parts of the proof (their names shortened by a program). No condition.
-/
import Derived.Test.YthakgjpejhjaoaaGreatMg01
import Derived.Test.YthakgjpejhjaoaaGreatMg05
import Derived.Test.YthakgjpejhjaoaaGreatMg07
namespace Go.Proofs.YthakgjpejhjaoaaGreat
open Go Go.RowKit
set_option linter.unusedVariables false
set_option linter.unusedSimpArgs false
set_option maxRecDepth 100000
set_option maxHeartbeats 16000000
section
def Ycw (r : Nat → Value) (i : Nat) (v : Value) : Nat → Value := fun j => if j = i then v else r j
def Yi (ops : Array Oper) (r : Nat → Value) : List Nat → Act → Act
 |[], F => F
 |j :: l, F => (Yi ops r l F).put ((ops[j]?).bind (·.dst)) (r j)
theorem Yd3 (ops : Array Oper) (r : Nat → Value) (F : Act) : ∀ l, (Yi ops r l F).tmps.size = F.tmps.size
 |[] => rfl
 |j :: l => by rw [Yi, Ya2, Yd3]
theorem Yhj (ops : Array Oper) (r : Nat → Value) (F : Act) : ∀ l, (Yi ops r l F).defers = F.defers
 |[] => rfl
 |j :: l => by rw [Yi, Yb6, Yhj]
theorem Ydv (ops : Array Oper) (r : Nat → Value) (F : Act) (t : Tmp) : ∀ l, (∀ j, j ∈ l → (ops[j]?).bind (·.dst) ≠ some t) → (Yi ops r l F).tmps[t]? = F.tmps[t]?
 |[], _ => rfl
 |j :: l, h => by rw [Yi, Ybs _ _ _ _ (h j (by simp)), Ydv ops r F t l (fun k hk => h k (by simp [hk]))]
theorem Yfr (ops : Array Oper) (r : Nat → Value) (F : Act) (t : Tmp) (hs : t < F.tmps.size) (j : Nat) (hd : (ops[j]?).bind (·.dst) = some t) : ∀ l, j ∈ l → (∀ k, k ∈ l → (ops[k]?).bind (·.dst) = some t → k = j) → (Yi ops r l F).tmps[t]? = some (r j)
 |[], h, _ => by cases h
 |k :: l, h, hu => by
  by_cases e : (ops[k]?).bind (·.dst) = some t
  ·have := hu k (by simp) e
   subst this
   rw [Yi, e, Ydg _ _ _ (by rw [Yd3]; exact hs)]
  ·rw [Yi, Ybs _ _ _ _ e]
   refine Yfr ops r F t hs j hd l ?_ (fun q hq => hu q (by simp [hq]))
   rcases List.mem_cons.1 h with rfl | h
   ·exact absurd hd e
   ·exact h
theorem Yly {P : Program} {o : Oper} {a : Act} {w : World} {C : Value → World → Prop} {X : List PanicEntry → World → Prop} {t : Tmp} (ht : o.dst = some t) (hs : t < a.tmps.size)
  (h : o.wp P a w (fun a' w' => ∃ v, a' = a.put o.dst v ∧ C v w') (PX X)) : Ydc P o a w C X := by
 have hput : ∀ u v, a.put o.dst u = a.put o.dst v → u = v := fun u v he => Yd6 he t ht hs
 unfold Oper.wp at h
 unfold Ydc
 generalize (execOp a.eval o).run P w = r at *
 cases r with
 |ok n w' =>
  cases n
  case value u => obtain ⟨v, h1, h2⟩ := h; rw [hput _ _ h1]; exact h2
  case skip => obtain ⟨v, h1, h2⟩ := h; rw [hput _ _ h1]; exact h2
  case defer d => obtain ⟨v, h1, h2⟩ := h; exact absurd h1 (Yf3 a o.dst undef v d)
  case enter f args =>
   refine Calls.mono h (fun e w'' he => ?_)
   cases e with
   |returned u => obtain ⟨v, h1, h2⟩ := he; show C u w''; rw [hput _ _ h1]; exact h2
   |panicked c => exact he
   |outgrown => obtain ⟨_, _, hf⟩ := he; exact hf
  case row row args => exact Rows.mono h (fun u w'' he => by obtain ⟨v, h1, h2⟩ := he; rw [hput _ _ h1]; exact h2)
  all_goals exact h
 |halt x w' =>
  cases x
  case panic v => exact h
  all_goals exact h
def Ycy (P : Program) (ops : Array Oper) (B : (Nat → Bool) → (Nat → Value) → World → Prop) (X : List PanicEntry → World → Prop) (n : Nat) (fin : List Nat → List Nat → Act → Prop) : List Nat → List Nat → Nat → List Oper → Act → Prop
 |dead, free, _, [], a => fin dead free a
 |dead, free, i, o :: rest, a =>
  (Yaq dead o = true ∧ Ycy P ops B X n fin (i :: dead) free (i + 1) rest a) ∨
  (Yaq dead o = false ∧ (∀ r, Region.wanted o (yielded ops (Yi ops r free a).tmps) = true) ∧ ∃ v, (∀ d r w, d i = false → (∀ e ∈ o.after, Region.binds .any e = true → d e.on = true) → B d r w → o.wp P (Yi ops r free a) w (fun a' w' => a' = (Yi ops r free a).put o.dst v ∧ B (Yah d i) r w') (PX X)) ∧ Ycy P ops B X n fin dead free (i + 1) rest (a.put o.dst v)) ∨
  (Yaq dead o = false ∧ (∀ r, Region.wanted o (yielded ops (Yi ops r free a).tmps) = true) ∧ (∀ d r w, d i = false → (∀ e ∈ o.after, Region.binds .any e = true → d e.on = true) → B d r w → o.wp P (Yi ops r free a) w (fun _ _ => False) (PX X)) ∧ Ycy P ops B X n fin (i :: dead) free (i + 1) rest a) ∨
  (Yaq dead o = false ∧ (∀ r, Region.wanted o (yielded ops (Yi ops r free a).tmps) = false) ∧ (∀ d r w, d i = false → B d r w → B (Yah d i) r w) ∧ Ycy P ops B X n fin dead free (i + 1) rest (a.put o.dst undef)) ∨
  (Yaq dead o = false ∧ (∀ r, Region.wanted o (yielded ops (Yi ops r free a).tmps) = true) ∧ (∃ t, o.dst = some t ∧ t < a.tmps.size) ∧
   (∀ d r w, d i = false → (∀ e ∈ o.after, Region.binds .any e = true → d e.on = true) → B d r w → o.wp P (Yi ops r free a) w (fun a' w' => ∃ v, a' = (Yi ops r free a).put o.dst v ∧ B (Yah d i) (Ycw r i v) w') (PX X)) ∧ Ycy P ops B X n fin dead (i :: free) (i + 1) rest a)
section
variable {P : Program} {ops : Array Oper} {B : (Nat → Bool) → (Nat → Value) → World → Prop} {X : List PanicEntry → World → Prop} {n : Nat} {fin : List Nat → List Nat → Act → Prop} {dead free : List Nat} {i : Nat} {o : Oper} {rest : List Oper} {a : Act}
theorem Yad (h : fin dead free a) : Ycy P ops B X n fin dead free i [] a := h
theorem Yt {a2 : (Nat → Value) → Act} (hd : Yaq dead o = false) (hw : ∀ r, Region.wanted o (yielded ops (Yi ops r free a).tmps) = true)
  (h : ∀ (d : Nat → Bool) (r : Nat → Value) (K : Act → World → Prop), d i = false → (∀ e ∈ o.after, Region.binds .any e = true → d e.on = true) → (∀ w', B (Yah d i) r w' → K (a2 r) w') → ∀ w, B d r w → o.wp P (Yi ops r free a) w K (PX X))
  {a3 : Act} (ha : ∃ v, (∀ r, a2 r = (Yi ops r free a).put o.dst v) ∧ a3 = a.put o.dst v) (k : Ycy P ops B X n fin dead free (i + 1) rest a3) : Ycy P ops B X n fin dead free i (o :: rest) a := by
 obtain ⟨v, hv, rfl⟩ := ha
 exact .inr (.inl ⟨hd, hw, v, fun d r w hdi hdep hB => h d r _ hdi hdep (fun w' hB' => ⟨hv r, hB'⟩) w hB, k⟩)
theorem Yb {a2 : Act} (hd : Yaq dead o = false) (hw : Region.wanted o (yielded ops a.tmps) = true)
  (h : ∀ (d : Nat → Bool) (r : Nat → Value) (K : Act → World → Prop), d i = false → (∀ e ∈ o.after, Region.binds .any e = true → d e.on = true) → (∀ w', B (Yah d i) r w' → K a2 w') → ∀ w, B d r w → o.wp P a w K (PX X))
  (ha : ∃ v, a2 = a.put o.dst v) (k : Ycy P ops B X n fin dead [] (i + 1) rest a2) : Ycy P ops B X n fin dead [] i (o :: rest) a := by
 obtain ⟨v, rfl⟩ := ha
 exact .inr (.inl ⟨hd, fun _ => hw, v, fun d r w hdi hdep hB => h d r _ hdi hdep (fun w' hB' => ⟨rfl, hB'⟩) w hB, k⟩)
theorem Ye0 (hd : Yaq dead o = false) (hw : Region.wanted o (yielded ops a.tmps) = true) (h : ∀ (d : Nat → Bool) (r : Nat → Value) w, d i = false → B d r w → o.wp P a w (fun _ _ => False) (PX X))
  (k : Ycy P ops B X n fin (i :: dead) [] (i + 1) rest a) : Ycy P ops B X n fin dead [] i (o :: rest) a := .inr (.inr (.inl ⟨hd, fun _ => hw, fun d r w hdi _ hB => h d r w hdi hB, k⟩))
theorem Ygq (hd : Yaq dead o = true) (k : Ycy P ops B X n fin (i :: dead) free (i + 1) rest a) : Ycy P ops B X n fin dead free i (o :: rest) a := .inl ⟨hd, k⟩
theorem Yr (hd : Yaq dead o = false) (hw : ∀ r, Region.wanted o (yielded ops (Yi ops r free a).tmps) = true) (t : Tmp) (ht : o.dst = some t) (hs : t < a.tmps.size)
  (h : ∀ (d : Nat → Bool) (r : Nat → Value) (K : Act → World → Prop), d i = false → ∀ w, B d r w → (∀ v w', B (Yah d i) (Ycw r i v) w' → K ((Yi ops r free a).put o.dst v) w') → o.wp P (Yi ops r free a) w K (PX X))
  (k : Ycy P ops B X n fin dead (i :: free) (i + 1) rest a) : Ycy P ops B X n fin dead free i (o :: rest) a :=
 .inr (.inr (.inr (.inr ⟨hd, hw, ⟨t, ht, hs⟩, fun d r w hdi _ hB => h d r _ hdi w hB (fun v w' hB' => ⟨v, rfl, hB'⟩), k⟩)))
end
structure Yh5 (P : Program) (ops : Array Oper) (B : (Nat → Bool) → (Nat → Value) → World → Prop) (X : List PanicEntry → World → Prop) (i n : Nat) (dead free : List Nat) (a F : Act) (vs : Nat → Value) : Prop where
 live : ∀ (j : Nat) (o : Oper), i ≤ j → j < n → ops[j]? = some o → j ∉ dead → j ∉ free →
  Yaq dead o = false ∧ (((∀ r, Region.wanted o (yielded ops (Yi ops r free F).tmps) = true) ∧ ∀ d r w, d j = false → (∀ e ∈ o.after, Region.binds .any e = true → d e.on = true) → B d r w → Ydc P o (Yi ops r free F) w (fun v w' => same o.dst a.tmps.size v (vs j) ∧ B (Yah d j) r w') X) ∨ ((∀ r, Region.wanted o (yielded ops (Yi ops r free F).tmps) = false) ∧ vs j = undef ∧ ∀ d r w, d j = false → B d r w → B (Yah d j) r w))
 died : ∀ (j : Nat) (o : Oper), i ≤ j → j < n → ops[j]? = some o → j ∈ dead →
  Yaq dead o = true ∨ ((∀ r, Region.wanted o (yielded ops (Yi ops r free F).tmps) = true) ∧ ∀ d r w, d j = false → (∀ e ∈ o.after, Region.binds .any e = true → d e.on = true) → B d r w → Ydc P o (Yi ops r free F) w (fun _ _ => False) X)
 freed : ∀ (j : Nat) (o : Oper), i ≤ j → j < n → ops[j]? = some o → j ∈ free →
  j ∉ dead ∧ (∀ r, Region.wanted o (yielded ops (Yi ops r free F).tmps) = true) ∧ (∃ t, o.dst = some t ∧ t < a.tmps.size) ∧ ∀ d r w, d j = false → (∀ e ∈ o.after, Region.binds .any e = true → d e.on = true) → B d r w → Ydc P o (Yi ops r free F) w (fun v w' => B (Yah d j) (Ycw r j v) w') X
 defers : F.defers = a.defers
 size : F.tmps.size = a.tmps.size
 old : ∀ t, (∀ (j : Nat) (oj : Oper), i ≤ j → j < n → ops[j]? = some oj → oj.dst = some t → j ∈ dead ∨ j ∈ free) → F.tmps[t]? = a.tmps[t]?
 new : ∀ (j : Nat) (oj : Oper) t, i ≤ j → j < n → ops[j]? = some oj → j ∉ dead → j ∉ free → oj.dst = some t → t < a.tmps.size → F.tmps[t]? = some (vs j)
theorem Yig {i : Nat} {dead dead' : List Nat} (h : ∀ d, d < i + 1 → (d ∈ dead' ↔ d ∈ i :: dead)) : i ∈ dead' ∧ ∀ d, d < i → (d ∈ dead' ↔ d ∈ dead) := by
 refine ⟨(h i (by omega)).2 (by simp), fun d hlt => ?_⟩
 rw [h d (by omega)]
 constructor
 ·intro hm; rcases List.mem_cons.1 hm with rfl | hm
  ·omega
  ·exact hm
 ·intro hm; exact List.mem_cons_of_mem _ hm
theorem Yi9 {i : Nat} {dead : List Nat} (hd : ∀ d, d ∈ dead → d < i) : ∀ d, d ∈ i :: dead → d < i + 1 := by
 intro d hm
 rcases List.mem_cons.1 hm with rfl | hm
 ·omega
 ·have := hd d hm; omega
theorem Yec {P : Program} {ops : Array Oper} {B : (Nat → Bool) → (Nat → Value) → World → Prop} {X : List PanicEntry → World → Prop} {n : Nat} {fin : List Nat → List Nat → Act → Prop} (hk : Ye8 ops n) :
  ∀ (l : List Oper) (i : Nat) (dead free : List Nat) (a : Act), (∀ j, j < l.length → l[j]? = ops[i + j]?) → i + l.length = n → (∀ d, d ∈ dead → d < i) → (∀ d, d ∈ free → d < i) → Ycy P ops B X n fin dead free i l a →
  ∃ (vs : Nat → Value) (dead' free' : List Nat) (F : Act), fin dead' free' F ∧ Yh5 P ops B X i n dead' free' a F vs ∧ (∀ d, d < i → (d ∈ dead' ↔ d ∈ dead)) ∧ (∀ d, d ∈ dead' → d < n) ∧ (∀ d, d < i → (d ∈ free' ↔ d ∈ free)) ∧ (∀ d, d ∈ free' → d < n)
 |[], i, dead, free, a, _, hn, hd, hfr, h => by
  have hin : i = n := by simpa using hn
  refine ⟨fun _ => undef, dead, free, a, h, ⟨?_, ?_, ?_, rfl, rfl, fun _ _ => rfl, ?_⟩, fun _ _ => Iff.rfl, fun d hdd => by have := hd d hdd; omega, fun _ _ => Iff.rfl, fun d hdd => by have := hfr d hdd; omega⟩
  ·intro j o h1 h2; omega
  ·intro j o h1 h2; omega
  ·intro j o h1 h2; omega
  ·intro j oj t h1 h2; omega
 |o :: l, i, dead, free, a, hl, hn, hd, hfr, h => by
  simp only [List.length_cons] at hn
  have ho : ops[i]? = some o := by simpa using (hl 0 (by simp)).symm
  have hin : i < n := by omega
  have hl' : ∀ j, j < l.length → l[j]? = ops[i + 1 + j]? := fun j hj => by
   have := hl (j + 1) (by simpa using hj)
   simpa [Nat.add_assoc, Nat.add_comm 1 j] using this
  have haft := hk.after i o hin ho
  have hd1 : ∀ d, d ∈ dead → d < i + 1 := fun d hm => by have := hd d hm; omega
  have hf1 : ∀ d, d ∈ free → d < i + 1 := fun d hm => by have := hfr d hm; omega
  have hdstn : ∀ (k : Nat) (t : Tmp), (ops[k]?).bind (·.dst) = some t → ∃ ok, ops[k]? = some ok ∧ ok.dst = some t := by
   intro k t hkd
   cases hok : ops[k]? with
   |none => rw [hok] at hkd; cases hkd
   |some ok => rw [hok] at hkd; exact ⟨ok, rfl, hkd⟩
  -- what the operation looks at stands to the end
  have hstay : ∀ (F b : Act) (dead' free' : List Nat) (vs : Nat → Value) (r : Nat → Value), Yh5 P ops B X (i + 1) n dead' free' b F vs → (∀ t, t ∈ o.looksAt ops → b.tmps[t]? = a.tmps[t]?) → b.tmps.size = a.tmps.size →
    (∀ d, d < i → (d ∈ free' ↔ d ∈ free)) → (∀ d, d ∈ free' → d < n) → ∀ t, t ∈ o.looksAt ops → (Yi ops r free a).tmps[t]? = (Yi ops r free' F).tmps[t]? := by
   intro F b dead' free' vs r hr hb hbs hfi hfn t ht
   have hlt : ∀ k, k < n → (ops[k]?).bind (·.dst) = some t → k < i := fun k hkn hkd => by
    obtain ⟨ok, h1, h2⟩ := hdstn k t hkd
    exact (hk.looks i o k ok t hin ho hkn h1 h2 ht).1
   have hFa : F.tmps[t]? = a.tmps[t]? := by
    rw [hr.old t (fun j oj h1 h2 h3 h4 => absurd (hk.looks i o j oj t hin ho h2 h3 h4 ht).1 (by omega)), hb t ht]
   by_cases he : ∃ k, k ∈ free ∧ (ops[k]?).bind (·.dst) = some t
   ·obtain ⟨k, hkf, hkd⟩ := he
    obtain ⟨ok, h1, h2⟩ := hdstn k t hkd
    have hkn : k < n := by have := hfr k hkf; omega
    have hki : k < i := hfr k hkf
    have hu : ∀ (fr : List Nat), (∀ d, d ∈ fr → d < n) → ∀ q, q ∈ fr → (ops[q]?).bind (·.dst) = some t → q = k := by
     intro fr hfrn q hq hqd
     obtain ⟨oq, g1, g2⟩ := hdstn q t hqd
     exact hk.dst q oq k ok t (hfrn q hq) g1 hkn h1 h2 g2
    by_cases hts : t < a.tmps.size
    ·rw [Yfr ops r a t hts k hkd free hkf (hu free (fun d hd => Nat.lt_trans (hfr d hd) hin)), Yfr ops r F t (by rw [hr.size, hbs]; exact hts) k hkd free' ((hfi k hki).2 hkf) (hu free' hfn)]
    ·rw [Array.getElem?_eq_none (by rw [Yd3]; exact Nat.le_of_not_lt hts), Array.getElem?_eq_none (by rw [Yd3, hr.size, hbs]; exact Nat.le_of_not_lt hts)]
   ·rw [Ydv ops r a t free (fun k hkf hkd => he ⟨k, hkf, hkd⟩), Ydv ops r F t free' (fun k hkf hkd => he ⟨k, (hfi k (hlt k (hfn k hkf) hkd)).1 hkf, hkd⟩), hFa]
  have hput : ∀ (v : Value) t, t ∈ o.looksAt ops → (a.put o.dst v).tmps[t]? = a.tmps[t]? := fun v t ht =>
   Ybs _ _ _ _ (fun he => absurd (hk.looks i o i o t hin ho hin ho he ht).1 (by omega))
  rcases h with ⟨hdd, h⟩ | ⟨hdd, hw, v, hv, h⟩ | ⟨hdd, hw, hv, h⟩ | ⟨hdd, hw, hsk, h⟩ | ⟨hdd, hw, htt, hv, h⟩
  ·obtain ⟨vs, dead', free', F, hf, hr, hdi, hdn, hfi, hfn⟩ := Yec hk l (i + 1) (i :: dead) free a hl' (by omega) (Yi9 hd) hf1 h
   obtain ⟨hmem, hdi'⟩ := Yig hdi
   refine ⟨vs, dead', free', F, hf, ⟨?_, ?_, ?_, hr.defers, hr.size, ?_, ?_⟩, hdi', hdn, fun d hlt => hfi d (by omega), hfn⟩
   ·intro j oj h1 h2 h3 h4
    by_cases e : j = i
    ·subst e; exact absurd hmem h4
    ·exact hr.live j oj (by omega) h2 h3 h4
   ·intro j oj h1 h2 h3 h4
    by_cases e : j = i
    ·subst e
     have : oj = o := Option.some.inj (h3.symm.trans ho)
     subst this
     left; rw [Ycg haft hdi']; exact hdd
    ·exact hr.died j oj (by omega) h2 h3 h4
   ·intro j oj h1 h2 h3 h4
    by_cases e : j = i
    ·subst e; have := hfr j ((hfi j (by omega)).1 h4); omega
    ·exact hr.freed j oj (by omega) h2 h3 h4
   ·intro t ht; exact hr.old t (fun j oj h1 => ht j oj (by omega))
   ·intro j oj t h1 h2 h3 h4
    by_cases e : j = i
    ·subst e; exact absurd hmem h4
    ·exact hr.new j oj t (by omega) h2 h3 h4
  ·obtain ⟨vs, dead', free', F, hf, hr, hdi, hdn, hfi, hfn⟩ := Yec hk l (i + 1) dead free _ hl' (by omega) hd1 hf1 h
   have hmem : i ∉ dead' := fun hm => by have := hd i ((hdi i (by omega)).1 hm); omega
   have hmef : i ∉ free' := fun hm => by have := hfr i ((hfi i (by omega)).1 hm); omega
   have hs := fun r => Yb9 (hk.sel i o ho) (hstay F _ dead' free' vs r hr (hput v) (Ya2 _ _ _) (fun d hlt => hfi d (by omega)) hfn)
   refine ⟨fun j => if j = i then v else vs j, dead', free', F, hf, ⟨?_, ?_, ?_, by rw [hr.defers, Yb6], by rw [hr.size, Ya2], ?_, ?_⟩, fun d hlt => hdi d (by omega), hdn, fun d hlt => hfi d (by omega), hfn⟩
   ·intro j oj h1 h2 h3 h4 h5
    by_cases e : j = i
    ·subst e
     have : oj = o := Option.some.inj (h3.symm.trans ho)
     subst this
     refine ⟨by rw [Ycg haft (fun d hlt => hdi d (by omega))]; exact hdd, .inl ⟨fun r => by rw [← (hs r).2]; exact hw r, fun d r w hd0 hdep hB => ?_⟩⟩
     rw [← Yb3 (hs r).1]
     simp only [if_true]
     have := Ygr (hv d r w hd0 hdep hB)
     rwa [Yd3] at this
    ·simp only [if_neg e]
     have := hr.live j oj (by omega) h2 h3 h4 h5
     rwa [Ya2] at this
   ·intro j oj h1 h2 h3 h4
    by_cases e : j = i
    ·subst e; exact absurd h4 hmem
    ·exact hr.died j oj (by omega) h2 h3 h4
   ·intro j oj h1 h2 h3 h4
    by_cases e : j = i
    ·subst e; exact absurd h4 hmef
    ·have := hr.freed j oj (by omega) h2 h3 h4
     rwa [Ya2] at this
   ·intro t ht
    rw [hr.old t (fun j oj h1 => ht j oj (by omega)), Ybs _ _ _ _ (fun he => by rcases ht i o (Nat.le_refl _) hin ho he with h | h; exact hmem h; exact hmef h)]
   ·intro j oj t h1 h2 h3 h4 h4f h5 h6
    by_cases e : j = i
    ·subst e
     have : oj = o := Option.some.inj (h3.symm.trans ho)
     subst this
     simp only [if_true]
     rw [hr.old t (fun k ok g1 g2 g3 g4 => absurd (hk.dst j oj k ok t h2 h3 g2 g3 g4 h5) (by omega)), h5, Ydg _ _ _ h6]
    ·simp only [if_neg e]; exact hr.new j oj t (by omega) h2 h3 h4 h4f h5 (by rw [Ya2]; exact h6)
  ·obtain ⟨vs, dead', free', F, hf, hr, hdi, hdn, hfi, hfn⟩ := Yec hk l (i + 1) (i :: dead) free a hl' (by omega) (Yi9 hd) hf1 h
   obtain ⟨hmem, hdi'⟩ := Yig hdi
   have hs := fun r => Yb9 (hk.sel i o ho) (hstay F _ dead' free' vs r hr (fun _ _ => rfl) rfl (fun d hlt => hfi d (by omega)) hfn)
   refine ⟨vs, dead', free', F, hf, ⟨?_, ?_, ?_, hr.defers, hr.size, ?_, ?_⟩, hdi', hdn, fun d hlt => hfi d (by omega), hfn⟩
   ·intro j oj h1 h2 h3 h4
    by_cases e : j = i
    ·subst e; exact absurd hmem h4
    ·exact hr.live j oj (by omega) h2 h3 h4
   ·intro j oj h1 h2 h3 h4
    by_cases e : j = i
    ·subst e
     have : oj = o := Option.some.inj (h3.symm.trans ho)
     subst this
     right
     refine ⟨fun r => by rw [← (hs r).2]; exact hw r, fun d r w hd0 hdep hB => ?_⟩
     rw [← Yb3 (hs r).1]
     exact Yfw (hv d r w hd0 hdep hB)
    ·exact hr.died j oj (by omega) h2 h3 h4
   ·intro j oj h1 h2 h3 h4
    by_cases e : j = i
    ·subst e; have := hfr j ((hfi j (by omega)).1 h4); omega
    ·exact hr.freed j oj (by omega) h2 h3 h4
   ·intro t ht; exact hr.old t (fun j oj h1 => ht j oj (by omega))
   ·intro j oj t h1 h2 h3 h4
    by_cases e : j = i
    ·subst e; exact absurd hmem h4
    ·exact hr.new j oj t (by omega) h2 h3 h4
  ·obtain ⟨vs, dead', free', F, hf, hr, hdi, hdn, hfi, hfn⟩ := Yec hk l (i + 1) dead free _ hl' (by omega) hd1 hf1 h
   have hmem : i ∉ dead' := fun hm => by have := hd i ((hdi i (by omega)).1 hm); omega
   have hmef : i ∉ free' := fun hm => by have := hfr i ((hfi i (by omega)).1 hm); omega
   have hs := fun r => Yb9 (hk.sel i o ho) (hstay F _ dead' free' vs r hr (hput undef) (Ya2 _ _ _) (fun d hlt => hfi d (by omega)) hfn)
   refine ⟨fun j => if j = i then undef else vs j, dead', free', F, hf, ⟨?_, ?_, ?_, by rw [hr.defers, Yb6], by rw [hr.size, Ya2], ?_, ?_⟩, fun d hlt => hdi d (by omega), hdn, fun d hlt => hfi d (by omega), hfn⟩
   ·intro j oj h1 h2 h3 h4 h5
    by_cases e : j = i
    ·subst e
     have : oj = o := Option.some.inj (h3.symm.trans ho)
     subst this
     refine ⟨by rw [Ycg haft (fun d hlt => hdi d (by omega))]; exact hdd, .inr ⟨fun r => by rw [← (hs r).2]; exact hw r, by simp, hsk⟩⟩
    ·simp only [if_neg e]
     have := hr.live j oj (by omega) h2 h3 h4 h5
     rwa [Ya2] at this
   ·intro j oj h1 h2 h3 h4
    by_cases e : j = i
    ·subst e; exact absurd h4 hmem
    ·exact hr.died j oj (by omega) h2 h3 h4
   ·intro j oj h1 h2 h3 h4
    by_cases e : j = i
    ·subst e; exact absurd h4 hmef
    ·have := hr.freed j oj (by omega) h2 h3 h4
     rwa [Ya2] at this
   ·intro t ht
    rw [hr.old t (fun j oj h1 => ht j oj (by omega)), Ybs _ _ _ _ (fun he => by rcases ht i o (Nat.le_refl _) hin ho he with h | h; exact hmem h; exact hmef h)]
   ·intro j oj t h1 h2 h3 h4 h4f h5 h6
    by_cases e : j = i
    ·subst e
     have : oj = o := Option.some.inj (h3.symm.trans ho)
     subst this
     simp only [if_true]
     rw [hr.old t (fun k ok g1 g2 g3 g4 => absurd (hk.dst j oj k ok t h2 h3 g2 g3 g4 h5) (by omega)), h5, Ydg _ _ _ h6]
    ·simp only [if_neg e]; exact hr.new j oj t (by omega) h2 h3 h4 h4f h5 (by rw [Ya2]; exact h6)
  ·obtain ⟨vs, dead', free', F, hf, hr, hdi, hdn, hfi, hfn⟩ := Yec hk l (i + 1) dead (i :: free) a hl' (by omega) hd1 (Yi9 hfr) h
   obtain ⟨hmem, hfi'⟩ := Yig hfi
   have hmed : i ∉ dead' := fun hm => by have := hd i ((hdi i (by omega)).1 hm); omega
   have hs := fun r => Yb9 (hk.sel i o ho) (hstay F _ dead' free' vs r hr (fun _ _ => rfl) rfl hfi' hfn)
   refine ⟨vs, dead', free', F, hf, ⟨?_, ?_, ?_, hr.defers, hr.size, ?_, ?_⟩, fun d hlt => hdi d (by omega), hdn, hfi', hfn⟩
   ·intro j oj h1 h2 h3 h4 h5
    by_cases e : j = i
    ·subst e; exact absurd hmem h5
    ·exact hr.live j oj (by omega) h2 h3 h4 h5
   ·intro j oj h1 h2 h3 h4
    by_cases e : j = i
    ·subst e; exact absurd h4 hmed
    ·exact hr.died j oj (by omega) h2 h3 h4
   ·intro j oj h1 h2 h3 h4
    by_cases e : j = i
    ·subst e
     have : oj = o := Option.some.inj (h3.symm.trans ho)
     subst this
     obtain ⟨t, ht1, ht2⟩ := htt
     refine ⟨hmed, fun r => by rw [← (hs r).2]; exact hw r, ⟨t, ht1, ht2⟩, fun d r w hd0 hdep hB => ?_⟩
     rw [← Yb3 (hs r).1]
     exact Yly ht1 (by rw [Yd3]; exact ht2) (hv d r w hd0 hdep hB)
    ·exact hr.freed j oj (by omega) h2 h3 h4
   ·intro t ht; exact hr.old t (fun j oj h1 => ht j oj (by omega))
   ·intro j oj t h1 h2 h3 h4 h5
    by_cases e : j = i
    ·subst e; exact absurd hmem h5
    ·exact hr.new j oj t (by omega) h2 h3 h4 h5
structure Yia (ops : Array Oper) (B : (Nat → Bool) → (Nat → Value) → World → Prop) (n : Nat) (dead free : List Nat) (a0 F : Act) (r : Nat → Value) (listed : Array Bool) (a : Act) (w : World) : Prop where
 head : HeadInv .any ops n listed
 world : B (Yc1 listed) r w
 defers : a.defers = a0.defers
 size : a.tmps.size = a0.tmps.size
 live : ∀ (j : Nat), j < n → listed.getD j false = true → j ∉ dead
 old : ∀ t, (∀ (j : Nat) (oj : Oper), j < n → ops[j]? = some oj → oj.dst = some t → listed.getD j false = false) → a.tmps[t]? = a0.tmps[t]?
 new : ∀ (j : Nat) (oj : Oper) t, j < n → ops[j]? = some oj → j ∉ free → listed.getD j false = true → oj.dst = some t → a.tmps[t]? = F.tmps[t]?
 newf : ∀ (j : Nat) (oj : Oper) t, j < n → ops[j]? = some oj → j ∈ free → listed.getD j false = true → oj.dst = some t → a.tmps[t]? = some (r j)
theorem Ygl {P : Program} {ops : Array Oper} {B : (Nat → Bool) → (Nat → Value) → World → Prop} {X : List PanicEntry → World → Prop} {Q : Exit → Act → World → Prop} {n : Nat} {dead free : List Nat} {a0 F : Act} {vs : Nat → Value}
  (hk : Ye8 ops n) (hr : Yh5 P ops B X 0 n dead free a0 F vs) (hdn : ∀ d, d ∈ dead → d < n) (hfn : ∀ d, d ∈ free → d < n)
  (hwait : ∀ listed, HeadInv .any ops n listed → ∀ i, i < n → listed.getD i true = false → ∀ t, n ≤ t → t ∉ Region.ready .any ops listed)
  (hX : ∀ c a' w', X c w' → a'.defers = a0.defers → a'.tmps.size = a0.tmps.size → (∀ t, (∀ (j : Nat) (oj : Oper), j < n → ops[j]? = some oj → oj.dst ≠ some t) → a'.tmps[t]? = a0.tmps[t]?) → Q (.panic c) a' w')
  (hfin : ∀ listed r w, HeadInv .any ops n listed → (∀ i, i < n → listed.getD i true = true) → dead = [] → B (Yc1 listed) r w → wpAny P .any ops Q (ops.size - n) listed (Yi ops r free F) w) :
  ∀ (m : Nat) (r : Nat → Value) (listed : Array Bool) (a : Act) (w : World), Yct n listed = m → Yia ops B n dead free a0 F r listed a w → wpAny P .any ops Q (m + (ops.size - n)) listed a w
 |0, r, listed, a, w, hm, inv => by
  have hall := Ygd hm
  have hall' : ∀ i, i < n → listed.getD i false = true := fun i hi => by
   have h1 := hall i hi
   have h2 : i < listed.size := by rw [inv.head.size]; have := hk.le; omega
   simp [h2] at h1 ⊢; exact h1
  have hdead : dead = [] := by
   cases hde : dead with
   |nil => rfl
   |cons d r =>
    have hd : d ∈ dead := by rw [hde]; simp
    exact absurd hd (inv.live d (hdn d hd) (hall' d (hdn d hd)))
  have hF : a = Yi ops r free F := by
   have h1 : a.tmps = (Yi ops r free F).tmps := by
    apply Array.ext_getElem?
    intro t
    by_cases h : ∃ (j : Nat) (oj : Oper), j < n ∧ ops[j]? = some oj ∧ oj.dst = some t
    ·obtain ⟨j, oj, h1, h2, h3⟩ := h
     have hu : ∀ k, k ∈ free → (ops[k]?).bind (·.dst) = some t → k = j := by
      intro k hkf hkd
      cases hok : ops[k]? with
      |none => rw [hok] at hkd; cases hkd
      |some ok =>
       rw [hok] at hkd
       exact hk.dst k ok j oj t (hfn k hkf) hok h1 h2 h3 hkd
     by_cases hf : j ∈ free
     ·obtain ⟨_, _, ⟨t', ht1, ht2⟩, _⟩ := hr.freed j oj (Nat.zero_le _) h1 h2 hf
      have : t' = t := by rw [ht1] at h3; injection h3
      subst this
      rw [inv.newf j oj t' h1 h2 hf (hall' j h1) h3, Yfr ops r F t' (by rw [hr.size]; exact ht2) j (by rw [h2]; exact h3) free hf hu]
     ·rw [inv.new j oj t h1 h2 hf (hall' j h1) h3, Ydv ops r F t free (fun k hkf hkd => hf (by rw [← hu k hkf hkd]; exact hkf))]
    ·rw [inv.old t (fun j oj h1 h2 h3 => absurd ⟨j, oj, h1, h2, h3⟩ h), Ydv ops r F t free (fun k hkf hkd => ?_), hr.old t (fun j oj _ h1 h2 h3 => absurd ⟨j, oj, h1, h2, h3⟩ h)]
     cases hok : ops[k]? with
     |none => rw [hok] at hkd; cases hkd
     |some ok => rw [hok] at hkd; exact h ⟨k, ok, hfn k hkf, hok, hkd⟩
   have h2 : a.defers = (Yi ops r free F).defers := by rw [inv.defers, Yhj, hr.defers]
   revert h1 h2
   generalize Yi ops r free F = G
   intro h1 h2
   cases a; cases G; simp_all
  rw [Nat.zero_add, hF]
  exact hfin listed r w inv.head hall hdead inv.world
 |m + 1, r, listed, a, w, hm, inv => by
  rw [show m + 1 + (ops.size - n) = (m + (ops.size - n)) + 1 by omega]
  obtain ⟨i0, hi0, hun0⟩ : ∃ i, i < n ∧ listed.getD i true = false := by
   have : (List.range n).countP (fun i => !listed.getD i true) ≠ 0 := by
    show Yct n listed ≠ 0
    omega
   rw [Ne, List.countP_eq_zero] at this
   simp only [Classical.not_forall] at this
   obtain ⟨i, hi, h⟩ := this
   exact ⟨i, List.mem_range.1 hi, by simpa using h⟩
  have hrd := Ygz hk inv.head.size i0 hi0 hun0
  refine ⟨fun h0 => ?_, fun i hi => ?_⟩
  ·obtain ⟨j, _, hj⟩ := hrd
   rw [h0] at hj; cases hj
  ·have hin : i < n := by
    rcases Nat.lt_or_ge i n with h | h
    ·exact h
    ·exact absurd hi (hwait listed inv.head i0 hi0 hun0 i h)
   obtain ⟨hun, o, ho, hall⟩ := mem_ready.1 hi
   have hunf : listed.getD i false = false := getD_both hun
   have hm' := Ygo hin hun
   have hlt : i < listed.size := by rw [inv.head.size]; have := hk.le; omega
   -- what the operation looks at is as in the frame at the head's end
   have hlook : ∀ t, t ∈ o.looksAt ops → a.tmps[t]? = (Yi ops r free F).tmps[t]? := by
    intro t ht
    by_cases h : ∃ (j : Nat) (oj : Oper), j < n ∧ ops[j]? = some oj ∧ oj.dst = some t
    ·obtain ⟨j, oj, h1, h2, h3⟩ := h
     obtain ⟨_, e, he, hb, hon⟩ := hk.looks i o j oj t hin ho h1 h2 h3 ht
     have hlj : listed.getD j false = true := by rw [← hon]; exact hall e he hb
     have hu : ∀ k, k ∈ free → (ops[k]?).bind (·.dst) = some t → k = j := by
      intro k hkf hkd
      cases hok : ops[k]? with
      |none => rw [hok] at hkd; cases hkd
      |some ok =>
       rw [hok] at hkd
       exact hk.dst k ok j oj t (hfn k hkf) hok h1 h2 h3 hkd
     by_cases hf : j ∈ free
     ·obtain ⟨_, _, ⟨t', ht1, ht2⟩, _⟩ := hr.freed j oj (Nat.zero_le _) h1 h2 hf
      have : t' = t := by rw [ht1] at h3; injection h3
      subst this
      rw [inv.newf j oj t' h1 h2 hf hlj h3, Yfr ops r F t' (by rw [hr.size]; exact ht2) j (by rw [h2]; exact h3) free hf hu]
     ·rw [inv.new j oj t h1 h2 hf hlj h3, Ydv ops r F t free (fun k hkf hkd => hf (by rw [← hu k hkf hkd]; exact hkf))]
    ·rw [inv.old t (fun j oj h1 h2 h3 => absurd ⟨j, oj, h1, h2, h3⟩ h), Ydv ops r F t free (fun k hkf hkd => ?_), hr.old t (fun j oj _ h1 h2 h3 => absurd ⟨j, oj, h1, h2, h3⟩ h)]
     cases hok : ops[k]? with
     |none => rw [hok] at hkd; cases hkd
     |some ok => rw [hok] at hkd; exact h ⟨k, ok, hfn k hkf, hok, hkd⟩
   have hs := Yb9 (hk.sel i o ho) hlook
   have hnd : Yaq dead o = false := by
    rw [Bool.eq_false_iff]
    intro hd
    simp only [Yaq, List.any_eq_true, Bool.and_eq_true, List.contains_iff_mem, Array.mem_toList_iff] at hd
    obtain ⟨e, he, hb, hm⟩ := hd
    exact inv.live e.on (hdn _ hm) (hall e he hb) hm
   have hd0 : Yc1 listed i = false := hunf
   have hold : ∀ (v : Value) t, (∀ (j : Nat) (oj : Oper), j < n → ops[j]? = some oj → oj.dst = some t → (listed.setIfInBounds i true).getD j false = false) → (a.put o.dst v).tmps[t]? = a0.tmps[t]? := by
    intro v t ht
    have hne : o.dst ≠ some t := fun he => by
     have := ht i o hin ho he
     simp [hlt] at this
    rw [Ybs _ _ _ _ hne]
    refine inv.old t fun j oj h1 h2 h3 => ?_
    have := ht j oj h1 h2 h3
    by_cases e : i = j
    ·subst e; exact hunf
    ·rwa [getD_set_ne false e] at this
   -- the next frame
   have hnext : ∀ (v : Value) (w' : World), B (Yah (Yc1 listed) i) r w' → i ∉ dead → i ∉ free → same o.dst a0.tmps.size v (vs i) → Yia ops B n dead free a0 F r (listed.setIfInBounds i true) (a.put o.dst v) w' := by
    intro v w' hB hnot hnf hv
    refine ⟨inv.head.set hi hin, by rw [Yhh hlt]; exact hB, by rw [Yb6, inv.defers], by rw [Ya2, inv.size], ?_, hold v, ?_, ?_⟩
    ·intro j hj hl
     by_cases e : i = j
     ·subst e; exact hnot
     ·rw [getD_set_ne false e] at hl; exact inv.live j hj hl
    ·intro j oj t h1 h2 h2f h3 h4
     by_cases e : i = j
     ·subst e
      have : oj = o := Option.some.inj (h2.symm.trans ho)
      subst this
      rcases Nat.lt_or_ge t a.tmps.size with ht | ht
      ·rw [h4, Ydg _ _ _ ht, hr.new i oj t (Nat.zero_le _) hin ho hnot hnf h4 (by rw [← inv.size]; exact ht), hv t h4 (by rw [← inv.size]; exact ht)]
      ·rw [Array.getElem?_eq_none (by rw [Ya2]; exact ht), Array.getElem?_eq_none (by rw [hr.size, ← inv.size]; exact ht)]
     ·rw [getD_set_ne false e] at h3
      have hne : o.dst ≠ some t := fun he => e (hk.dst i o j oj t hin ho h1 h2 h4 he)
      rw [Ybs _ _ _ _ hne]
      exact inv.new j oj t h1 h2 h2f h3 h4
    ·intro j oj t h1 h2 h2f h3 h4
     by_cases e : i = j
     ·subst e; exact absurd h2f hnf
     ·rw [getD_set_ne false e] at h3
      have hne : o.dst ≠ some t := fun he => e (hk.dst i o j oj t hin ho h1 h2 h4 he)
      rw [Ybs _ _ _ _ hne]
      exact inv.newf j oj t h1 h2 h2f h3 h4
   have hnextf : ∀ (v : Value) (w' : World), B (Yah (Yc1 listed) i) (Ycw r i v) w' → i ∉ dead → i ∈ free → Yia ops B n dead free a0 F (Ycw r i v) (listed.setIfInBounds i true) (a.put o.dst v) w' := by
    intro v w' hB hnot hnf
    obtain ⟨_, _, ⟨t0, ht1, ht2⟩, _⟩ := hr.freed i o (Nat.zero_le _) hin ho hnf
    refine ⟨inv.head.set hi hin, by rw [Yhh hlt]; exact hB, by rw [Yb6, inv.defers], by rw [Ya2, inv.size], ?_, hold v, ?_, ?_⟩
    ·intro j hj hl
     by_cases e : i = j
     ·subst e; exact hnot
     ·rw [getD_set_ne false e] at hl; exact inv.live j hj hl
    ·intro j oj t h1 h2 h2f h3 h4
     by_cases e : i = j
     ·subst e; exact absurd hnf h2f
     ·rw [getD_set_ne false e] at h3
      have hne : o.dst ≠ some t := fun he => e (hk.dst i o j oj t hin ho h1 h2 h4 he)
      rw [Ybs _ _ _ _ hne]
      exact inv.new j oj t h1 h2 h2f h3 h4
    ·intro j oj t h1 h2 h2f h3 h4
     by_cases e : i = j
     ·subst e
      have : oj = o := Option.some.inj (h2.symm.trans ho)
      subst this
      have : t0 = t := by rw [ht1] at h4; injection h4
      subst this
      rw [h4, Ydg _ _ _ (by rw [inv.size]; exact ht2)]
      simp [Ycw]
     ·rw [getD_set_ne false e] at h3
      have hne : o.dst ≠ some t := fun he => e (hk.dst i o j oj t hin ho h1 h2 h4 he)
      rw [Ybs _ _ _ _ hne, inv.newf j oj t h1 h2 h2f h3 h4]
      simp only [Ycw]
      rw [if_neg (fun h => e h.symm)]
   have hpan : ∀ c w', X c w' → Q (.panic c) a w' := fun c w' hx =>
    hX c a w' hx inv.defers inv.size fun t ht => inv.old t fun j oj h1 h2 h3 => absurd h3 (ht j oj h1 h2)
   unfold wpOp
   simp only [ho]
   by_cases hde : i ∈ dead
   ·rcases hr.died i o (Nat.zero_le _) hin ho hde with h | ⟨hw, h⟩
    ·rw [h] at hnd; cases hnd
    ·rw [if_pos (by rw [hs.2]; exact hw r)]
     refine .inl (Ydk ?_)
     rw [Yb3 hs.1]
     exact Ydy (h _ r w hd0 hall inv.world) (fun _ _ hf => hf.elim) hpan
   ·by_cases hfe : i ∈ free
    ·obtain ⟨_, hw, _, h⟩ := hr.freed i o (Nat.zero_le _) hin ho hfe
     rw [if_pos (by rw [hs.2]; exact hw r)]
     refine .inl (Ydk ?_)
     rw [Yb3 hs.1]
     refine Ydy (h _ r w hd0 hall inv.world) (fun v w' hv => ?_) hpan
     exact Ygl hk hr hdn hfn hwait hX hfin m _ _ _ _ (by omega) (hnextf v w' hv hde hfe)
    ·obtain ⟨_, ⟨hw, h⟩ | ⟨hw, h, hsk⟩⟩ := hr.live i o (Nat.zero_le _) hin ho hde hfe
     ·rw [if_pos (by rw [hs.2]; exact hw r)]
      refine .inl (Ydk ?_)
      rw [Yb3 hs.1]
      refine Ydy (h _ r w hd0 hall inv.world) (fun v w' hv => ?_) hpan
      exact Ygl hk hr hdn hfn hwait hX hfin m _ _ _ _ (by omega) (hnext v w' hv.2 hde hfe hv.1)
     ·rw [if_neg (by rw [hs.2, hw r]; simp)]
      exact Ygl hk hr hdn hfn hwait hX hfin m _ _ _ _ (by omega) (hnext undef w (hsk _ r w hd0 inv.world) hde hfe (fun _ _ _ => h.symm))
theorem Yai {P : Program} {id : Nat} {Q : Exit → Act → World → Prop} {a : Act} {w : World} {l : List Oper} (n : Nat) (B : (Nat → Bool) → (Nat → Value) → World → Prop) (X : List PanicEntry → World → Prop) (hm : P.follows .mixedOrders = true) (hok : Ygh l.toArray n = true)
  (hB : ∀ r, B (fun _ => false) r w.drew)
  (hX : ∀ c a' w', X c w' → a'.defers = a.defers → a'.tmps.size = a.tmps.size → (∀ t, noDst l n t = true → a'.tmps[t]? = a.tmps[t]?) → Q (.panic c) a' w')
  (h : Ycy P l.toArray B X n (fun dead free F => dead = [] → ∀ r w1 d, (∀ j, j < n → d j = true) → B d r w1 → wpList P l.toArray Q (l.drop n) (Yi l.toArray r free F) w1) [] [] 0 (l.take n) a) : (Code.region id l.toArray true).wp P Q a w := by
 simp only [Ygh, Bool.and_eq_true, Bool.or_eq_true, decide_eq_true_eq] at hok
 obtain ⟨⟨hh, ht⟩, hq⟩ := hok
 have hk := Ygc hh
 have hle : n ≤ l.length := by simpa using hk.le
 have htl : (l.take n).length = n := by simp; omega
 obtain ⟨vs, dead, free, F, hf, hr, _, hdn, _, hfn⟩ := Yec hk (l.take n) 0 [] [] a (fun j hj => by
  have hj' : j < n := by rw [htl] at hj; exact hj
  simp [hj']) (by simpa using htl) (by simp) (by simp) h
 have hun : Yct n (Array.replicate l.toArray.size false) = n := by
  have : ∀ i, i ∈ List.range n → (!(Array.replicate l.toArray.size false).getD i true) = true := fun i hi => by
   have hi' : i < l.toArray.size := by have := List.mem_range.1 hi; simp; omega
   have hi'' : i < l.length := by simpa using hi'
   simp [hi'']
  unfold Yct
  rw [List.countP_eq_length.2 this, List.length_range]
 have inv0 : HeadInv .any l.toArray n (Array.replicate l.toArray.size false) :=
  ⟨by simp, fun j oj _ hl => (by rw [getD_replicate_false] at hl; cases hl), fun t _ ht => getD_in (by simpa using ht) (getD_replicate_false _ _)⟩
 have hgo := Ygl (Q := Q) hk hr hdn hfn ?_ (fun c a' w' hx h1 h2 h3 => hX c a' w' hx h1 h2 fun t ht' => h3 t fun j oj g1 g2 => Ygu ht' j oj g1 (by simpa using g2)) ?_ n (fun _ => undef) _ a w.drew hun
  ⟨inv0, by rw [Yit]; exact hB _, rfl, rfl, fun j _ hl => (by rw [getD_replicate_false] at hl; cases hl), fun _ _ => rfl, fun j oj t _ _ _ hl => (by rw [getD_replicate_false] at hl; cases hl), fun j oj t _ _ _ hl => (by rw [getD_replicate_false] at hl; cases hl)⟩
 ·refine wp_region_any hm ?_
  rw [show n + (l.toArray.size - n) = l.toArray.size by simp; omega] at hgo
  exact hgo
 ·intro listed inv i hi hun t hnt
  rcases ht with ht | ⟨⟨h1, h2⟩, h3⟩
  ·intro hrd
   obtain ⟨_, o, ho, _⟩ := mem_ready.1 hrd
   have := (Array.getElem?_eq_some_iff.1 ho).1
   omega
  ·exact tail_waits h2 h3 h1 inv _ i rfl hi hun t hnt
 ·intro listed r w1 inv hall hd hBw
  have hlst : listed = Array.replicate n true ++ Array.replicate (l.toArray.size - n) false := by
   apply Array.ext
   ·rw [inv.size]; simp; omega
   ·intro i h1 h2
    by_cases hi : i < n
    ·have := hall i hi
     simp [h1] at this
     rw [this, Array.getElem_append_left (by simpa using hi)]
     simp
    ·have := inv.tail i (by omega) (by rw [← inv.size]; exact h1)
     simp [h1] at this
     rw [this, Array.getElem_append_right (by simpa using hi)]
     simp
  have hdl : (l.drop n).length = l.toArray.size - n := by simp
  have := wpAny_of_seq (md := .any) (P := P) (ops := l.toArray) (Q' := Q) (l.drop n) n listed (Yi l.toArray r free F) w1 (fun j => by simp [List.getElem?_drop]) (by rw [hdl, hlst]; exact hq) (hf hd r w1 (Yc1 listed) (fun j hj => by
   have h1 := hall j hj
   have h2 : j < listed.size := by rw [inv.size]; have := hk.le; omega
   simp only [Yc1]
   simp [h2] at h1 ⊢; exact h1) hBw)
  rwa [hdl] at this
end
section
structure RS (w : World) (d : Nat) (v : Value) (L : List Int) (g rb k : Nat) (C : Array Value) (w1 : World) : Prop where
 dd : Yc w1 d v L g k
 uu : Upd [d] w w1
 rr : w1.heap[rb]? = some (.cells C 41 (0, 0))
 nn : d < w.heap.size ∧ w.heap.size ≤ rb
section
variable {w w1 w2 : World} {d : Nat} {v : Value} {L : List Int} {g rb k k' : Nat} {C C' : Array Value}
theorem RS.start (h : Yc w d v L g k) : RS w d v L g w.heap.size k Ins.zero.cells (w.alloc (.cells Ins.zero.cells 41)) :=
 ⟨h.step ((Upd.refl [] w).alloc _), (Upd.refl [d] w).alloc _, heap_alloc_new _ _, Yj h.h, Nat.le_refl _⟩
theorem RS.step (h : RS w d v L g rb k C w1) (hd : Yc w2 d v L g k') (u : Upd [d] w1 w2) : RS w d v L g rb k' C w2 := by
 have hn := h.nn
 exact ⟨hd, h.uu.also u (by simp), u.get h.rr (by simp; omega), hn⟩
theorem RS.same (h : RS w d v L g rb k C w1) (u : Upd [] w1 w2) : RS w d v L g rb k C w2 :=
 ⟨h.dd.step u, h.uu.also u (by simp), u.get h.rr (by simp), h.nn⟩
theorem RS.far (h : RS w d v L g rb k C w1) (hD0 : Yc w d v L g k') {q : Nat} (u : Upd [q] w1 w2) (hq : rb < q) : RS w d v L g rb k C w2 := by
 have hn := h.nn
 obtain ⟨h1, h2⟩ := Yd0 hD0 h.dd h.uu u (by simp; omega)
 exact ⟨h1, h2, u.get h.rr (by simp; omega), hn⟩
theorem RS.put (h : RS w d v L g rb k C w1) (hD0 : Yc w d v L g k') (u : Upd [rb] w1 w2) (hr : w2.heap[rb]? = some (.cells C' 41 (0, 0))) : RS w d v L g rb k C' w2 := by
 have hn := h.nn
 obtain ⟨h1, h2⟩ := Yd0 hD0 h.dd h.uu u (by simp; omega)
 exact ⟨h1, h2, hr, hn⟩
theorem RS.store (h : RS w d v L g rb k C w1) (hD0 : Yc w d v L g k') (hC : C.size = 16) {i : Ins} (hw : w1.setCells rb 0 i.cells.toList = w2) : RS w d v L g rb k i.cells w2 := by
 obtain ⟨h1, h2⟩ := Ya7 (S := [rb]) (w0 := w1) hw h.rr hC (Upd.refl _ _) (.inl (by simp))
 exact h.put hD0 h2 h1
theorem RS.lt (h : RS w d v L g rb k C w1) : rb < w1.heap.size := Yj h.rr
end
theorem Ybc (d g k : Nat) (v : Value) (L : List Int) (op : Int) (m : Mrm) (w : World) (hD : Yc w d v L g k) (hok : m.Ok) :
  Calls Tryz.prog 122 #[.pointer (some ⟨d, 0, none⟩), .int .i64 op, .agg m.cells] w (Yl d v L g w (Yba L op m k) Ins.val) := by
 have HD := Yh_ hD
 have S := Yh_ (show RS w d v L g (w.heap.size + 1) k Ins.zero.cells ((w.alloc (.cells m.cells 171)).alloc (.cells Ins.zero.cells 41)) from
  ⟨hD.step (((Upd.refl [] w).alloc _).alloc _), ((Upd.refl [d] w).alloc _).alloc _, heap_alloc2_new _ _ _, Yj hD.h, by omega⟩)
 have hb := Yed d g k v L m _ S.out.dd hok
 have cm := Ya (Ym (.cells Ins.zero.cells 41) (heap_alloc_new w (.cells m.cells 171)))
 unfold Yba
 cases h : Ybb L m k with
 |err c =>
  rw [h] at hb
  rw [DR.bind_err]
  have HB := Yh_ hb
  clear hb hD h hok
  unfold Mrm.cells at cm ⊢
  go_enter Tryz.func122, Tryz.ntmps122
  go_wp2_with (go_at_call 134; refine HB.out.mono ?_; rintro e w2 ⟨rfl, hu⟩)
  exact ⟨rfl, rfl, S.out.uu.also hu (by simp)⟩
 |ok o k1 =>
  rw [h] at hb
  rw [DR.bind_ok]
  have HB := Yh_ hb
  clear hb hD h hok
  unfold Mrm.cells at cm ⊢
  go_enter Tryz.func122, Tryz.ntmps122
  go_wp2_with (first | (go_at_call 134; refine HB.out.mono ?_; rintro e w2 ⟨rfl, hD2, hu⟩; unfold Opd.val; have S2 := Yh_ (S.out.step hD2 hu); clear hD2 hu S) | (have _t := S2; clear _t; refine Ye 41 rfl ?_; refine Yd ⟨op, 0, o, Opd.none, false, 0⟩ (w.heap.size + 1) rfl _ _ rfl rfl rfl S2.out.rr rfl ?_; intro w3 hw; have S3 := Yh_ (S2.out.store HD.out rfl hw); clear hw S2))
  exact bodyPost_ret (Yf rfl (Ys 6 (w.heap.size + 1) _ rfl S3.out.rr)) rfl ⟨rfl, S3.out.dd, S3.out.uu⟩
theorem Yc3 {d : Nat → Bool} {m i : Nat} (h : i ≠ m) : Yah d m i = d i := by simp [Yah, h]
theorem bD_eq {d : Nat → Bool} {m : Nat} : Yah d m m = true := by simp [Yah]
theorem bV_eq {r : Nat → Value} {m : Nat} {v : Value} : Ycw r m v m = v := by simp [Ycw]
structure TwB (w : World) (dd : Nat) (v : Value) (L : List Int) (g rb k1 k2 mb : Nat) (m : Mrm) (I : Ins) (c i j : Nat) (d : Nat → Bool) (r : Nat → Value) (w1 : World) : Prop where
 s : RS w dd v L g rb (if d c = true then k2 else k1) Ins.zero.cells w1
 m : w1.heap[mb]? = some (.cells m.cells 171 (0, 0))
 x : d i = true → ∃ q Z, r i = .pointer (some ⟨q, 0, none⟩) ∧ mb < q ∧ w1.heap[q]? = some (.cells Z 41 (0, 0)) ∧ Z.size = 16 ∧ (d j = true → Z = I.cells)
 o : d j = true → d i = true
 ne : c ≠ i ∧ c ≠ j ∧ i ≠ j
 lt : dd < mb ∧ rb < mb
section
variable {w w1 w2 : World} {dd : Nat} {v : Value} {L : List Int} {g rb k1 k2 mb : Nat} {m : Mrm} {I : Ins} {c i j : Nat} {d : Nat → Bool} {r : Nat → Value}
theorem TwB.start (h : RS w dd v L g rb k1 Ins.zero.cells w1) (hm : w1.heap[mb]? = some (.cells m.cells 171 (0, 0))) (ne : c ≠ i ∧ c ≠ j ∧ i ≠ j) (lt : dd < mb ∧ rb < mb) (r : Nat → Value) : TwB w dd v L g rb k1 k2 mb m I c i j (fun _ => false) r w1 :=
 ⟨by simpa using h, hm, fun h => (by cases h), fun h => (by cases h), ne, lt⟩
theorem TwB.quiet (h : TwB w dd v L g rb k1 k2 mb m I c i j d r w1) (u : Upd [] w1 w2) (q : Nat) (h1 : c ≠ q) (h2 : i ≠ q) (h3 : j ≠ q) : TwB w dd v L g rb k1 k2 mb m I c i j (Yah d q) r w2 := by
 refine ⟨by rw [Yc3 h1]; exact h.s.same u, u.get h.m (by simp), fun hx => ?_, fun ho => ?_, h.ne, h.lt⟩
 ·rw [Yc3 h2] at hx
  obtain ⟨q', Z, e1, e2, e3, e4, e5⟩ := h.x hx
  exact ⟨q', Z, e1, e2, u.get e3 (by simp), e4, fun hk => e5 (by rwa [Yc3 h3] at hk)⟩
 ·rw [Yc3 h3] at ho; rw [Yc3 h2]; exact h.o ho
theorem TwB.same (h : TwB w dd v L g rb k1 k2 mb m I c i j d r w1) (q : Nat) (h1 : c ≠ q) (h2 : i ≠ q) (h3 : j ≠ q) : TwB w dd v L g rb k1 k2 mb m I c i j (Yah d q) r w1 := h.quiet (Upd.refl [] w1) q h1 h2 h3
theorem TwB.at1 (h : TwB w dd v L g rb k1 k2 mb m I c i j d r w1) (hd : d c = false) : Yc w1 dd v L g k1 := by
 have := h.s.dd
 rwa [hd, if_neg (by simp)] at this
theorem TwB.call (h : TwB w dd v L g rb k1 k2 mb m I c i j d r w1) (hD : Yc w2 dd v L g k2) (u : Upd [dd] w1 w2) : TwB w dd v L g rb k1 k2 mb m I c i j (Yah d c) r w2 := by
 obtain ⟨n1, n2, n3⟩ := h.ne
 have hlt := h.lt
 refine ⟨by rw [bD_eq, if_pos rfl]; exact h.s.step hD u, u.get h.m (by simp; omega), fun hx => ?_, fun ho => ?_, h.ne, h.lt⟩
 ·rw [Yc3 n1.symm] at hx
  obtain ⟨q', Z, e1, e2, e3, e4, e5⟩ := h.x hx
  exact ⟨q', Z, e1, e2, u.get e3 (by simp; omega), e4, fun hk => e5 (by rwa [Yc3 n2.symm] at hk)⟩
 ·rw [Yc3 n2.symm] at ho; rw [Yc3 n1.symm]; exact h.o ho
theorem TwB.lay (h : TwB w dd v L g rb k1 k2 mb m I c i j d r w1) (hd : d i = false) (Z : Array Value) (hZ : Z.size = 16) : TwB w dd v L g rb k1 k2 mb m I c i j (Yah d i) (Ycw r i (.pointer (some ⟨w1.heap.size, 0, none⟩))) (w1.alloc (.cells Z 41)) := by
 obtain ⟨n1, n2, n3⟩ := h.ne
 have u := (Upd.refl [] w1).alloc (.cells Z 41)
 refine ⟨by rw [Yc3 n1]; exact h.s.same u, u.get h.m (by simp), fun _ => ⟨_, _, bV_eq, Yj h.m, heap_alloc_new _ _, hZ, fun hk => ?_⟩, fun _ => bD_eq, h.ne, h.lt⟩
 rw [Yc3 n3.symm] at hk
 rw [h.o hk] at hd; cases hd
end
end
end Go.Proofs.YthakgjpejhjaoaaGreat
