/-
  Parts of the proof (their names shortened by a program). No condition.
-/
import Derived.Test.YtjkolegknpflfaaDoorMg01
import Derived.Test.YtjkolegknpflfaaDoorMg04
import Derived.Test.YtjkolegknpflfaaDoorMg03
namespace Go.Proofs.YtjkolegknpflfaaDoor
open Go Go.RowKit
set_option linter.unusedVariables false
set_option linter.unusedSimpArgs false
set_option maxRecDepth 100000
set_option maxHeartbeats 16000000
section
def Ybp (r : Nat → Value) (i : Nat) (v : Value) : Nat → Value := fun j => if j = i then v else r j
def Yq (ops : Array Oper) (r : Nat → Value) : List Nat → Act → Act
 |[], F => F
 |j :: l, F => (Yq ops r l F).put ((ops[j]?).bind (·.dst)) (r j)
theorem Yck (ops : Array Oper) (r : Nat → Value) (F : Act) : ∀ l, (Yq ops r l F).tmps.size = F.tmps.size
 |[] => rfl
 |j :: l => by rw [Yq, Yae, Yck]
theorem Yfj (ops : Array Oper) (r : Nat → Value) (F : Act) : ∀ l, (Yq ops r l F).defers = F.defers
 |[] => rfl
 |j :: l => by rw [Yq, Ya5, Yfj]
theorem Ych (ops : Array Oper) (r : Nat → Value) (F : Act) (t : Tmp) : ∀ l, (∀ j, j ∈ l → (ops[j]?).bind (·.dst) ≠ some t) → (Yq ops r l F).tmps[t]? = F.tmps[t]?
 |[], _ => rfl
 |j :: l, h => by rw [Yq, Yau _ _ _ _ (h j (by simp)), Ych ops r F t l (fun k hk => h k (by simp [hk]))]
theorem Yee (ops : Array Oper) (r : Nat → Value) (F : Act) (t : Tmp) (hs : t < F.tmps.size) (j : Nat) (hd : (ops[j]?).bind (·.dst) = some t) : ∀ l, j ∈ l → (∀ k, k ∈ l → (ops[k]?).bind (·.dst) = some t → k = j) → (Yq ops r l F).tmps[t]? = some (r j)
 |[], h, _ => by cases h
 |k :: l, h, hu => by
  by_cases e : (ops[k]?).bind (·.dst) = some t
  ·have := hu k (by simp) e
   subst this
   rw [Yq, e, Yb5 _ _ _ (by rw [Yck]; exact hs)]
  ·rw [Yq, Yau _ _ _ _ e]
   refine Yee ops r F t hs j hd l ?_ (fun q hq => hu q (by simp [hq]))
   rcases List.mem_cons.1 h with rfl | h
   ·exact absurd hd e
   ·exact h
theorem Yjv {P : Program} {o : Oper} {a : Act} {w : World} {C : Value → World → Prop} {X : List PanicEntry → World → Prop} {t : Tmp} (ht : o.dst = some t) (hs : t < a.tmps.size)
  (h : o.wp P a w (fun a' w' => ∃ v, a' = a.put o.dst v ∧ C v w') (PX X)) : Ybz P o a w C X := by
 have hput : ∀ u v, a.put o.dst u = a.put o.dst v → u = v := fun u v he => Ycn he t ht hs
 unfold Oper.wp at h
 unfold Ybz
 generalize (execOp a.eval o).run P w = r at *
 cases r with
 |ok n w' =>
  cases n
  case value u => obtain ⟨v, h1, h2⟩ := h; rw [hput _ _ h1]; exact h2
  case skip => obtain ⟨v, h1, h2⟩ := h; rw [hput _ _ h1]; exact h2
  case defer d => obtain ⟨v, h1, h2⟩ := h; exact absurd h1 (Yeg a o.dst undef v d)
  case enter f args =>
   refine Calls.mono h (fun e w'' he => ?_)
   cases e with
   |returned u => obtain ⟨v, h1, h2⟩ := he; show C u w''; rw [hput _ _ h1]; exact h2
   |panicked c => exact he
   |outgrown => obtain ⟨_, _, hf⟩ := he; exact hf
  case row row args => exact Rows.mono h (fun u w'' he => by obtain ⟨v, h1, h2⟩ := he; rw [hput _ _ h1]; exact h2)
  all_goals exact h
 |halt x w' =>
  cases x
  case panic v => exact h
  all_goals exact h
def Yb2 (P : Program) (ops : Array Oper) (B : (Nat → Bool) → (Nat → Value) → World → Prop) (X : List PanicEntry → World → Prop) (n : Nat) (fin : List Nat → List Nat → Act → Prop) : List Nat → List Nat → Nat → List Oper → Act → Prop
 |dead, free, _, [], a => fin dead free a
 |dead, free, i, o :: rest, a =>
  (Yac dead o = true ∧ Yb2 P ops B X n fin (i :: dead) free (i + 1) rest a) ∨
  (Yac dead o = false ∧ (∀ r, Region.wanted o (yielded ops (Yq ops r free a).tmps) = true) ∧ ∃ v, (∀ d r w, d i = false → (∀ e ∈ o.after, Region.binds .any e = true → d e.on = true) → B d r w → o.wp P (Yq ops r free a) w (fun a' w' => a' = (Yq ops r free a).put o.dst v ∧ B (Yw d i) r w') (PX X)) ∧ Yb2 P ops B X n fin dead free (i + 1) rest (a.put o.dst v)) ∨
  (Yac dead o = false ∧ (∀ r, Region.wanted o (yielded ops (Yq ops r free a).tmps) = true) ∧ (∀ d r w, d i = false → (∀ e ∈ o.after, Region.binds .any e = true → d e.on = true) → B d r w → o.wp P (Yq ops r free a) w (fun _ _ => False) (PX X)) ∧ Yb2 P ops B X n fin (i :: dead) free (i + 1) rest a) ∨
  (Yac dead o = false ∧ (∀ r, Region.wanted o (yielded ops (Yq ops r free a).tmps) = false) ∧ (∀ d r w, d i = false → B d r w → B (Yw d i) r w) ∧ Yb2 P ops B X n fin dead free (i + 1) rest (a.put o.dst undef)) ∨
  (Yac dead o = false ∧ (∀ r, Region.wanted o (yielded ops (Yq ops r free a).tmps) = true) ∧ (∃ t, o.dst = some t ∧ t < a.tmps.size) ∧
   (∀ d r w, d i = false → (∀ e ∈ o.after, Region.binds .any e = true → d e.on = true) → B d r w → o.wp P (Yq ops r free a) w (fun a' w' => ∃ v, a' = (Yq ops r free a).put o.dst v ∧ B (Yw d i) (Ybp r i v) w') (PX X)) ∧ Yb2 P ops B X n fin dead (i :: free) (i + 1) rest a)
section
variable {P : Program} {ops : Array Oper} {B : (Nat → Bool) → (Nat → Value) → World → Prop} {X : List PanicEntry → World → Prop} {n : Nat} {fin : List Nat → List Nat → Act → Prop} {dead free : List Nat} {i : Nat} {o : Oper} {rest : List Oper} {a : Act}
theorem Yds (h : fin dead free a) : Yb2 P ops B X n fin dead free i [] a := h
theorem Yaq {a2 : (Nat → Value) → Act} (hd : Yac dead o = false) (hw : ∀ r, Region.wanted o (yielded ops (Yq ops r free a).tmps) = true)
  (h : ∀ (d : Nat → Bool) (r : Nat → Value) (K : Act → World → Prop), d i = false → (∀ e ∈ o.after, Region.binds .any e = true → d e.on = true) → (∀ w', B (Yw d i) r w' → K (a2 r) w') → ∀ w, B d r w → o.wp P (Yq ops r free a) w K (PX X))
  {a3 : Act} (ha : ∃ v, (∀ r, a2 r = (Yq ops r free a).put o.dst v) ∧ a3 = a.put o.dst v) (k : Yb2 P ops B X n fin dead free (i + 1) rest a3) : Yb2 P ops B X n fin dead free i (o :: rest) a := by
 obtain ⟨v, hv, rfl⟩ := ha
 exact .inr (.inl ⟨hd, hw, v, fun d r w hdi hdep hB => h d r _ hdi hdep (fun w' hB' => ⟨hv r, hB'⟩) w hB, k⟩)
theorem Yab {a2 : Act} (hd : Yac dead o = false) (hw : Region.wanted o (yielded ops a.tmps) = true)
  (h : ∀ (d : Nat → Bool) (r : Nat → Value) (K : Act → World → Prop), d i = false → (∀ e ∈ o.after, Region.binds .any e = true → d e.on = true) → (∀ w', B (Yw d i) r w' → K a2 w') → ∀ w, B d r w → o.wp P a w K (PX X))
  (ha : ∃ v, a2 = a.put o.dst v) (k : Yb2 P ops B X n fin dead [] (i + 1) rest a2) : Yb2 P ops B X n fin dead [] i (o :: rest) a := by
 obtain ⟨v, rfl⟩ := ha
 exact .inr (.inl ⟨hd, fun _ => hw, v, fun d r w hdi hdep hB => h d r _ hdi hdep (fun w' hB' => ⟨rfl, hB'⟩) w hB, k⟩)
theorem Yc4 (hd : Yac dead o = false) (hw : ∀ r, Region.wanted o (yielded ops (Yq ops r free a).tmps) = true) (t : Tmp) (ht : o.dst = some t) (hs : t < a.tmps.size)
  (h : ∀ (d : Nat → Bool) (r : Nat → Value) (K : Act → World → Prop), d i = false → ∀ w, B d r w → (∀ v w', B (Yw d i) (Ybp r i v) w' → K ((Yq ops r free a).put o.dst v) w') → o.wp P (Yq ops r free a) w K (PX X))
  (k : Yb2 P ops B X n fin dead (i :: free) (i + 1) rest a) : Yb2 P ops B X n fin dead free i (o :: rest) a :=
 .inr (.inr (.inr (.inr ⟨hd, hw, ⟨t, ht, hs⟩, fun d r w hdi _ hB => h d r _ hdi w hB (fun v w' hB' => ⟨v, rfl, hB'⟩), k⟩)))
end
structure Ygp (P : Program) (ops : Array Oper) (B : (Nat → Bool) → (Nat → Value) → World → Prop) (X : List PanicEntry → World → Prop) (i n : Nat) (dead free : List Nat) (a F : Act) (vs : Nat → Value) : Prop where
 live : ∀ (j : Nat) (o : Oper), i ≤ j → j < n → ops[j]? = some o → j ∉ dead → j ∉ free →
  Yac dead o = false ∧ (((∀ r, Region.wanted o (yielded ops (Yq ops r free F).tmps) = true) ∧ ∀ d r w, d j = false → (∀ e ∈ o.after, Region.binds .any e = true → d e.on = true) → B d r w → Ybz P o (Yq ops r free F) w (fun v w' => same o.dst a.tmps.size v (vs j) ∧ B (Yw d j) r w') X) ∨ ((∀ r, Region.wanted o (yielded ops (Yq ops r free F).tmps) = false) ∧ vs j = undef ∧ ∀ d r w, d j = false → B d r w → B (Yw d j) r w))
 died : ∀ (j : Nat) (o : Oper), i ≤ j → j < n → ops[j]? = some o → j ∈ dead →
  Yac dead o = true ∨ ((∀ r, Region.wanted o (yielded ops (Yq ops r free F).tmps) = true) ∧ ∀ d r w, d j = false → (∀ e ∈ o.after, Region.binds .any e = true → d e.on = true) → B d r w → Ybz P o (Yq ops r free F) w (fun _ _ => False) X)
 freed : ∀ (j : Nat) (o : Oper), i ≤ j → j < n → ops[j]? = some o → j ∈ free →
  j ∉ dead ∧ (∀ r, Region.wanted o (yielded ops (Yq ops r free F).tmps) = true) ∧ (∃ t, o.dst = some t ∧ t < a.tmps.size) ∧ ∀ d r w, d j = false → (∀ e ∈ o.after, Region.binds .any e = true → d e.on = true) → B d r w → Ybz P o (Yq ops r free F) w (fun v w' => B (Yw d j) (Ybp r j v) w') X
 defers : F.defers = a.defers
 size : F.tmps.size = a.tmps.size
 old : ∀ t, (∀ (j : Nat) (oj : Oper), i ≤ j → j < n → ops[j]? = some oj → oj.dst = some t → j ∈ dead ∨ j ∈ free) → F.tmps[t]? = a.tmps[t]?
 new : ∀ (j : Nat) (oj : Oper) t, i ≤ j → j < n → ops[j]? = some oj → j ∉ dead → j ∉ free → oj.dst = some t → t < a.tmps.size → F.tmps[t]? = some (vs j)
theorem Ygs {i : Nat} {dead dead' : List Nat} (h : ∀ d, d < i + 1 → (d ∈ dead' ↔ d ∈ i :: dead)) : i ∈ dead' ∧ ∀ d, d < i → (d ∈ dead' ↔ d ∈ dead) := by
 refine ⟨(h i (by omega)).2 (by simp), fun d hlt => ?_⟩
 rw [h d (by omega)]
 constructor
 ·intro hm; rcases List.mem_cons.1 hm with rfl | hm
  ·omega
  ·exact hm
 ·intro hm; exact List.mem_cons_of_mem _ hm
theorem Yh4 {i : Nat} {dead : List Nat} (hd : ∀ d, d ∈ dead → d < i) : ∀ d, d ∈ i :: dead → d < i + 1 := by
 intro d hm
 rcases List.mem_cons.1 hm with rfl | hm
 ·omega
 ·have := hd d hm; omega
theorem Ycx {P : Program} {ops : Array Oper} {B : (Nat → Bool) → (Nat → Value) → World → Prop} {X : List PanicEntry → World → Prop} {n : Nat} {fin : List Nat → List Nat → Act → Prop} (hk : Ydp ops n) :
  ∀ (l : List Oper) (i : Nat) (dead free : List Nat) (a : Act), (∀ j, j < l.length → l[j]? = ops[i + j]?) → i + l.length = n → (∀ d, d ∈ dead → d < i) → (∀ d, d ∈ free → d < i) → Yb2 P ops B X n fin dead free i l a →
  ∃ (vs : Nat → Value) (dead' free' : List Nat) (F : Act), fin dead' free' F ∧ Ygp P ops B X i n dead' free' a F vs ∧ (∀ d, d < i → (d ∈ dead' ↔ d ∈ dead)) ∧ (∀ d, d ∈ dead' → d < n) ∧ (∀ d, d < i → (d ∈ free' ↔ d ∈ free)) ∧ (∀ d, d ∈ free' → d < n)
 |[], i, dead, free, a, _, hn, hd, hfr, h => by
  have hin : i = n := by simpa using hn
  refine ⟨fun _ => undef, dead, free, a, h, ⟨?_, ?_, ?_, rfl, rfl, fun _ _ => rfl, ?_⟩, fun _ _ => Iff.rfl, fun d hdd => by have := hd d hdd; omega, fun _ _ => Iff.rfl, fun d hdd => by have := hfr d hdd; omega⟩
  ·intro j o h1 h2; omega
  ·intro j o h1 h2; omega
  ·intro j o h1 h2; omega
  ·intro j oj t h1 h2; omega
 |o :: l, i, dead, free, a, hl, hn, hd, hfr, h => by
  simp only [List.length_cons] at hn
  have ho : ops[i]? = some o := by simpa using (hl 0 (by simp)).symm
  have hin : i < n := by omega
  have hl' : ∀ j, j < l.length → l[j]? = ops[i + 1 + j]? := fun j hj => by
   have := hl (j + 1) (by simpa using hj)
   simpa [Nat.add_assoc, Nat.add_comm 1 j] using this
  have haft := hk.after i o hin ho
  have hd1 : ∀ d, d ∈ dead → d < i + 1 := fun d hm => by have := hd d hm; omega
  have hf1 : ∀ d, d ∈ free → d < i + 1 := fun d hm => by have := hfr d hm; omega
  have hdstn : ∀ (k : Nat) (t : Tmp), (ops[k]?).bind (·.dst) = some t → ∃ ok, ops[k]? = some ok ∧ ok.dst = some t := by
   intro k t hkd
   cases hok : ops[k]? with
   |none => rw [hok] at hkd; cases hkd
   |some ok => rw [hok] at hkd; exact ⟨ok, rfl, hkd⟩
  -- what the operation looks at stands to the end
  have hstay : ∀ (F b : Act) (dead' free' : List Nat) (vs : Nat → Value) (r : Nat → Value), Ygp P ops B X (i + 1) n dead' free' b F vs → (∀ t, t ∈ o.looksAt ops → b.tmps[t]? = a.tmps[t]?) → b.tmps.size = a.tmps.size →
    (∀ d, d < i → (d ∈ free' ↔ d ∈ free)) → (∀ d, d ∈ free' → d < n) → ∀ t, t ∈ o.looksAt ops → (Yq ops r free a).tmps[t]? = (Yq ops r free' F).tmps[t]? := by
   intro F b dead' free' vs r hr hb hbs hfi hfn t ht
   have hlt : ∀ k, k < n → (ops[k]?).bind (·.dst) = some t → k < i := fun k hkn hkd => by
    obtain ⟨ok, h1, h2⟩ := hdstn k t hkd
    exact (hk.looks i o k ok t hin ho hkn h1 h2 ht).1
   have hFa : F.tmps[t]? = a.tmps[t]? := by
    rw [hr.old t (fun j oj h1 h2 h3 h4 => absurd (hk.looks i o j oj t hin ho h2 h3 h4 ht).1 (by omega)), hb t ht]
   by_cases he : ∃ k, k ∈ free ∧ (ops[k]?).bind (·.dst) = some t
   ·obtain ⟨k, hkf, hkd⟩ := he
    obtain ⟨ok, h1, h2⟩ := hdstn k t hkd
    have hkn : k < n := by have := hfr k hkf; omega
    have hki : k < i := hfr k hkf
    have hu : ∀ (fr : List Nat), (∀ d, d ∈ fr → d < n) → ∀ q, q ∈ fr → (ops[q]?).bind (·.dst) = some t → q = k := by
     intro fr hfrn q hq hqd
     obtain ⟨oq, g1, g2⟩ := hdstn q t hqd
     exact hk.dst q oq k ok t (hfrn q hq) g1 hkn h1 h2 g2
    by_cases hts : t < a.tmps.size
    ·rw [Yee ops r a t hts k hkd free hkf (hu free (fun d hd => Nat.lt_trans (hfr d hd) hin)), Yee ops r F t (by rw [hr.size, hbs]; exact hts) k hkd free' ((hfi k hki).2 hkf) (hu free' hfn)]
    ·rw [Array.getElem?_eq_none (by rw [Yck]; exact Nat.le_of_not_lt hts), Array.getElem?_eq_none (by rw [Yck, hr.size, hbs]; exact Nat.le_of_not_lt hts)]
   ·rw [Ych ops r a t free (fun k hkf hkd => he ⟨k, hkf, hkd⟩), Ych ops r F t free' (fun k hkf hkd => he ⟨k, (hfi k (hlt k (hfn k hkf) hkd)).1 hkf, hkd⟩), hFa]
  have hput : ∀ (v : Value) t, t ∈ o.looksAt ops → (a.put o.dst v).tmps[t]? = a.tmps[t]? := fun v t ht =>
   Yau _ _ _ _ (fun he => absurd (hk.looks i o i o t hin ho hin ho he ht).1 (by omega))
  rcases h with ⟨hdd, h⟩ | ⟨hdd, hw, v, hv, h⟩ | ⟨hdd, hw, hv, h⟩ | ⟨hdd, hw, hsk, h⟩ | ⟨hdd, hw, htt, hv, h⟩
  ·obtain ⟨vs, dead', free', F, hf, hr, hdi, hdn, hfi, hfn⟩ := Ycx hk l (i + 1) (i :: dead) free a hl' (by omega) (Yh4 hd) hf1 h
   obtain ⟨hmem, hdi'⟩ := Ygs hdi
   refine ⟨vs, dead', free', F, hf, ⟨?_, ?_, ?_, hr.defers, hr.size, ?_, ?_⟩, hdi', hdn, fun d hlt => hfi d (by omega), hfn⟩
   ·intro j oj h1 h2 h3 h4
    by_cases e : j = i
    ·subst e; exact absurd hmem h4
    ·exact hr.live j oj (by omega) h2 h3 h4
   ·intro j oj h1 h2 h3 h4
    by_cases e : j = i
    ·subst e
     have : oj = o := Option.some.inj (h3.symm.trans ho)
     subst this
     left; rw [Ybf haft hdi']; exact hdd
    ·exact hr.died j oj (by omega) h2 h3 h4
   ·intro j oj h1 h2 h3 h4
    by_cases e : j = i
    ·subst e; have := hfr j ((hfi j (by omega)).1 h4); omega
    ·exact hr.freed j oj (by omega) h2 h3 h4
   ·intro t ht; exact hr.old t (fun j oj h1 => ht j oj (by omega))
   ·intro j oj t h1 h2 h3 h4
    by_cases e : j = i
    ·subst e; exact absurd hmem h4
    ·exact hr.new j oj t (by omega) h2 h3 h4
  ·obtain ⟨vs, dead', free', F, hf, hr, hdi, hdn, hfi, hfn⟩ := Ycx hk l (i + 1) dead free _ hl' (by omega) hd1 hf1 h
   have hmem : i ∉ dead' := fun hm => by have := hd i ((hdi i (by omega)).1 hm); omega
   have hmef : i ∉ free' := fun hm => by have := hfr i ((hfi i (by omega)).1 hm); omega
   have hs := fun r => Ya8 (hk.sel i o ho) (hstay F _ dead' free' vs r hr (hput v) (Yae _ _ _) (fun d hlt => hfi d (by omega)) hfn)
   refine ⟨fun j => if j = i then v else vs j, dead', free', F, hf, ⟨?_, ?_, ?_, by rw [hr.defers, Ya5], by rw [hr.size, Yae], ?_, ?_⟩, fun d hlt => hdi d (by omega), hdn, fun d hlt => hfi d (by omega), hfn⟩
   ·intro j oj h1 h2 h3 h4 h5
    by_cases e : j = i
    ·subst e
     have : oj = o := Option.some.inj (h3.symm.trans ho)
     subst this
     refine ⟨by rw [Ybf haft (fun d hlt => hdi d (by omega))]; exact hdd, .inl ⟨fun r => by rw [← (hs r).2]; exact hw r, fun d r w hd0 hdep hB => ?_⟩⟩
     rw [← Ya2 (hs r).1]
     simp only [if_true]
     have := Ye9 (hv d r w hd0 hdep hB)
     rwa [Yck] at this
    ·simp only [if_neg e]
     have := hr.live j oj (by omega) h2 h3 h4 h5
     rwa [Yae] at this
   ·intro j oj h1 h2 h3 h4
    by_cases e : j = i
    ·subst e; exact absurd h4 hmem
    ·exact hr.died j oj (by omega) h2 h3 h4
   ·intro j oj h1 h2 h3 h4
    by_cases e : j = i
    ·subst e; exact absurd h4 hmef
    ·have := hr.freed j oj (by omega) h2 h3 h4
     rwa [Yae] at this
   ·intro t ht
    rw [hr.old t (fun j oj h1 => ht j oj (by omega)), Yau _ _ _ _ (fun he => by rcases ht i o (Nat.le_refl _) hin ho he with h | h; exact hmem h; exact hmef h)]
   ·intro j oj t h1 h2 h3 h4 h4f h5 h6
    by_cases e : j = i
    ·subst e
     have : oj = o := Option.some.inj (h3.symm.trans ho)
     subst this
     simp only [if_true]
     rw [hr.old t (fun k ok g1 g2 g3 g4 => absurd (hk.dst j oj k ok t h2 h3 g2 g3 g4 h5) (by omega)), h5, Yb5 _ _ _ h6]
    ·simp only [if_neg e]; exact hr.new j oj t (by omega) h2 h3 h4 h4f h5 (by rw [Yae]; exact h6)
  ·obtain ⟨vs, dead', free', F, hf, hr, hdi, hdn, hfi, hfn⟩ := Ycx hk l (i + 1) (i :: dead) free a hl' (by omega) (Yh4 hd) hf1 h
   obtain ⟨hmem, hdi'⟩ := Ygs hdi
   have hs := fun r => Ya8 (hk.sel i o ho) (hstay F _ dead' free' vs r hr (fun _ _ => rfl) rfl (fun d hlt => hfi d (by omega)) hfn)
   refine ⟨vs, dead', free', F, hf, ⟨?_, ?_, ?_, hr.defers, hr.size, ?_, ?_⟩, hdi', hdn, fun d hlt => hfi d (by omega), hfn⟩
   ·intro j oj h1 h2 h3 h4
    by_cases e : j = i
    ·subst e; exact absurd hmem h4
    ·exact hr.live j oj (by omega) h2 h3 h4
   ·intro j oj h1 h2 h3 h4
    by_cases e : j = i
    ·subst e
     have : oj = o := Option.some.inj (h3.symm.trans ho)
     subst this
     right
     refine ⟨fun r => by rw [← (hs r).2]; exact hw r, fun d r w hd0 hdep hB => ?_⟩
     rw [← Ya2 (hs r).1]
     exact Yd8 (hv d r w hd0 hdep hB)
    ·exact hr.died j oj (by omega) h2 h3 h4
   ·intro j oj h1 h2 h3 h4
    by_cases e : j = i
    ·subst e; have := hfr j ((hfi j (by omega)).1 h4); omega
    ·exact hr.freed j oj (by omega) h2 h3 h4
   ·intro t ht; exact hr.old t (fun j oj h1 => ht j oj (by omega))
   ·intro j oj t h1 h2 h3 h4
    by_cases e : j = i
    ·subst e; exact absurd hmem h4
    ·exact hr.new j oj t (by omega) h2 h3 h4
  ·obtain ⟨vs, dead', free', F, hf, hr, hdi, hdn, hfi, hfn⟩ := Ycx hk l (i + 1) dead free _ hl' (by omega) hd1 hf1 h
   have hmem : i ∉ dead' := fun hm => by have := hd i ((hdi i (by omega)).1 hm); omega
   have hmef : i ∉ free' := fun hm => by have := hfr i ((hfi i (by omega)).1 hm); omega
   have hs := fun r => Ya8 (hk.sel i o ho) (hstay F _ dead' free' vs r hr (hput undef) (Yae _ _ _) (fun d hlt => hfi d (by omega)) hfn)
   refine ⟨fun j => if j = i then undef else vs j, dead', free', F, hf, ⟨?_, ?_, ?_, by rw [hr.defers, Ya5], by rw [hr.size, Yae], ?_, ?_⟩, fun d hlt => hdi d (by omega), hdn, fun d hlt => hfi d (by omega), hfn⟩
   ·intro j oj h1 h2 h3 h4 h5
    by_cases e : j = i
    ·subst e
     have : oj = o := Option.some.inj (h3.symm.trans ho)
     subst this
     refine ⟨by rw [Ybf haft (fun d hlt => hdi d (by omega))]; exact hdd, .inr ⟨fun r => by rw [← (hs r).2]; exact hw r, by simp, hsk⟩⟩
    ·simp only [if_neg e]
     have := hr.live j oj (by omega) h2 h3 h4 h5
     rwa [Yae] at this
   ·intro j oj h1 h2 h3 h4
    by_cases e : j = i
    ·subst e; exact absurd h4 hmem
    ·exact hr.died j oj (by omega) h2 h3 h4
   ·intro j oj h1 h2 h3 h4
    by_cases e : j = i
    ·subst e; exact absurd h4 hmef
    ·have := hr.freed j oj (by omega) h2 h3 h4
     rwa [Yae] at this
   ·intro t ht
    rw [hr.old t (fun j oj h1 => ht j oj (by omega)), Yau _ _ _ _ (fun he => by rcases ht i o (Nat.le_refl _) hin ho he with h | h; exact hmem h; exact hmef h)]
   ·intro j oj t h1 h2 h3 h4 h4f h5 h6
    by_cases e : j = i
    ·subst e
     have : oj = o := Option.some.inj (h3.symm.trans ho)
     subst this
     simp only [if_true]
     rw [hr.old t (fun k ok g1 g2 g3 g4 => absurd (hk.dst j oj k ok t h2 h3 g2 g3 g4 h5) (by omega)), h5, Yb5 _ _ _ h6]
    ·simp only [if_neg e]; exact hr.new j oj t (by omega) h2 h3 h4 h4f h5 (by rw [Yae]; exact h6)
  ·obtain ⟨vs, dead', free', F, hf, hr, hdi, hdn, hfi, hfn⟩ := Ycx hk l (i + 1) dead (i :: free) a hl' (by omega) hd1 (Yh4 hfr) h
   obtain ⟨hmem, hfi'⟩ := Ygs hfi
   have hmed : i ∉ dead' := fun hm => by have := hd i ((hdi i (by omega)).1 hm); omega
   have hs := fun r => Ya8 (hk.sel i o ho) (hstay F _ dead' free' vs r hr (fun _ _ => rfl) rfl hfi' hfn)
   refine ⟨vs, dead', free', F, hf, ⟨?_, ?_, ?_, hr.defers, hr.size, ?_, ?_⟩, fun d hlt => hdi d (by omega), hdn, hfi', hfn⟩
   ·intro j oj h1 h2 h3 h4 h5
    by_cases e : j = i
    ·subst e; exact absurd hmem h5
    ·exact hr.live j oj (by omega) h2 h3 h4 h5
   ·intro j oj h1 h2 h3 h4
    by_cases e : j = i
    ·subst e; exact absurd h4 hmed
    ·exact hr.died j oj (by omega) h2 h3 h4
   ·intro j oj h1 h2 h3 h4
    by_cases e : j = i
    ·subst e
     have : oj = o := Option.some.inj (h3.symm.trans ho)
     subst this
     obtain ⟨t, ht1, ht2⟩ := htt
     refine ⟨hmed, fun r => by rw [← (hs r).2]; exact hw r, ⟨t, ht1, ht2⟩, fun d r w hd0 hdep hB => ?_⟩
     rw [← Ya2 (hs r).1]
     exact Yjv ht1 (by rw [Yck]; exact ht2) (hv d r w hd0 hdep hB)
    ·exact hr.freed j oj (by omega) h2 h3 h4
   ·intro t ht; exact hr.old t (fun j oj h1 => ht j oj (by omega))
   ·intro j oj t h1 h2 h3 h4 h5
    by_cases e : j = i
    ·subst e; exact absurd hmem h5
    ·exact hr.new j oj t (by omega) h2 h3 h4 h5
structure Yg0 (ops : Array Oper) (B : (Nat → Bool) → (Nat → Value) → World → Prop) (n : Nat) (dead free : List Nat) (a0 F : Act) (r : Nat → Value) (listed : Array Bool) (a : Act) (w : World) : Prop where
 head : HeadInv .any ops n listed
 world : B (Ybv listed) r w
 defers : a.defers = a0.defers
 size : a.tmps.size = a0.tmps.size
 live : ∀ (j : Nat), j < n → listed.getD j false = true → j ∉ dead
 old : ∀ t, (∀ (j : Nat) (oj : Oper), j < n → ops[j]? = some oj → oj.dst = some t → listed.getD j false = false) → a.tmps[t]? = a0.tmps[t]?
 new : ∀ (j : Nat) (oj : Oper) t, j < n → ops[j]? = some oj → j ∉ free → listed.getD j false = true → oj.dst = some t → a.tmps[t]? = F.tmps[t]?
 newf : ∀ (j : Nat) (oj : Oper) t, j < n → ops[j]? = some oj → j ∈ free → listed.getD j false = true → oj.dst = some t → a.tmps[t]? = some (r j)
theorem Ye0 {P : Program} {ops : Array Oper} {B : (Nat → Bool) → (Nat → Value) → World → Prop} {X : List PanicEntry → World → Prop} {Q : Exit → Act → World → Prop} {n : Nat} {dead free : List Nat} {a0 F : Act} {vs : Nat → Value}
  (hk : Ydp ops n) (hr : Ygp P ops B X 0 n dead free a0 F vs) (hdn : ∀ d, d ∈ dead → d < n) (hfn : ∀ d, d ∈ free → d < n)
  (hwait : ∀ listed, HeadInv .any ops n listed → ∀ i, i < n → listed.getD i true = false → ∀ t, n ≤ t → t ∉ Region.ready .any ops listed)
  (hX : ∀ c a' w', X c w' → a'.defers = a0.defers → a'.tmps.size = a0.tmps.size → (∀ t, (∀ (j : Nat) (oj : Oper), j < n → ops[j]? = some oj → oj.dst ≠ some t) → a'.tmps[t]? = a0.tmps[t]?) → Q (.panic c) a' w')
  (hfin : ∀ listed r w, HeadInv .any ops n listed → (∀ i, i < n → listed.getD i true = true) → dead = [] → B (Ybv listed) r w → wpAny P .any ops Q (ops.size - n) listed (Yq ops r free F) w) :
  ∀ (m : Nat) (r : Nat → Value) (listed : Array Bool) (a : Act) (w : World), Ybo n listed = m → Yg0 ops B n dead free a0 F r listed a w → wpAny P .any ops Q (m + (ops.size - n)) listed a w
 |0, r, listed, a, w, hm, inv => by
  have hall := Yem hm
  have hall' : ∀ i, i < n → listed.getD i false = true := fun i hi => by
   have h1 := hall i hi
   have h2 : i < listed.size := by rw [inv.head.size]; have := hk.le; omega
   simp [h2] at h1 ⊢; exact h1
  have hdead : dead = [] := by
   cases hde : dead with
   |nil => rfl
   |cons d r =>
    have hd : d ∈ dead := by rw [hde]; simp
    exact absurd hd (inv.live d (hdn d hd) (hall' d (hdn d hd)))
  have hF : a = Yq ops r free F := by
   have h1 : a.tmps = (Yq ops r free F).tmps := by
    apply Array.ext_getElem?
    intro t
    by_cases h : ∃ (j : Nat) (oj : Oper), j < n ∧ ops[j]? = some oj ∧ oj.dst = some t
    ·obtain ⟨j, oj, h1, h2, h3⟩ := h
     have hu : ∀ k, k ∈ free → (ops[k]?).bind (·.dst) = some t → k = j := by
      intro k hkf hkd
      cases hok : ops[k]? with
      |none => rw [hok] at hkd; cases hkd
      |some ok =>
       rw [hok] at hkd
       exact hk.dst k ok j oj t (hfn k hkf) hok h1 h2 h3 hkd
     by_cases hf : j ∈ free
     ·obtain ⟨_, _, ⟨t', ht1, ht2⟩, _⟩ := hr.freed j oj (Nat.zero_le _) h1 h2 hf
      have : t' = t := by rw [ht1] at h3; injection h3
      subst this
      rw [inv.newf j oj t' h1 h2 hf (hall' j h1) h3, Yee ops r F t' (by rw [hr.size]; exact ht2) j (by rw [h2]; exact h3) free hf hu]
     ·rw [inv.new j oj t h1 h2 hf (hall' j h1) h3, Ych ops r F t free (fun k hkf hkd => hf (by rw [← hu k hkf hkd]; exact hkf))]
    ·rw [inv.old t (fun j oj h1 h2 h3 => absurd ⟨j, oj, h1, h2, h3⟩ h), Ych ops r F t free (fun k hkf hkd => ?_), hr.old t (fun j oj _ h1 h2 h3 => absurd ⟨j, oj, h1, h2, h3⟩ h)]
     cases hok : ops[k]? with
     |none => rw [hok] at hkd; cases hkd
     |some ok => rw [hok] at hkd; exact h ⟨k, ok, hfn k hkf, hok, hkd⟩
   have h2 : a.defers = (Yq ops r free F).defers := by rw [inv.defers, Yfj, hr.defers]
   revert h1 h2
   generalize Yq ops r free F = G
   intro h1 h2
   cases a; cases G; simp_all
  rw [Nat.zero_add, hF]
  exact hfin listed r w inv.head hall hdead inv.world
 |m + 1, r, listed, a, w, hm, inv => by
  rw [show m + 1 + (ops.size - n) = (m + (ops.size - n)) + 1 by omega]
  obtain ⟨i0, hi0, hun0⟩ : ∃ i, i < n ∧ listed.getD i true = false := by
   have : (List.range n).countP (fun i => !listed.getD i true) ≠ 0 := by
    show Ybo n listed ≠ 0
    omega
   rw [Ne, List.countP_eq_zero] at this
   simp only [Classical.not_forall] at this
   obtain ⟨i, hi, h⟩ := this
   exact ⟨i, List.mem_range.1 hi, by simpa using h⟩
  have hrd := Ye7 hk inv.head.size i0 hi0 hun0
  refine ⟨fun h0 => ?_, fun i hi => ?_⟩
  ·obtain ⟨j, _, hj⟩ := hrd
   rw [h0] at hj; cases hj
  ·have hin : i < n := by
    rcases Nat.lt_or_ge i n with h | h
    ·exact h
    ·exact absurd hi (hwait listed inv.head i0 hi0 hun0 i h)
   obtain ⟨hun, o, ho, hall⟩ := mem_ready.1 hi
   have hunf : listed.getD i false = false := getD_both hun
   have hm' := Yez hin hun
   have hlt : i < listed.size := by rw [inv.head.size]; have := hk.le; omega
   -- what the operation looks at is as in the frame at the head's end
   have hlook : ∀ t, t ∈ o.looksAt ops → a.tmps[t]? = (Yq ops r free F).tmps[t]? := by
    intro t ht
    by_cases h : ∃ (j : Nat) (oj : Oper), j < n ∧ ops[j]? = some oj ∧ oj.dst = some t
    ·obtain ⟨j, oj, h1, h2, h3⟩ := h
     obtain ⟨_, e, he, hb, hon⟩ := hk.looks i o j oj t hin ho h1 h2 h3 ht
     have hlj : listed.getD j false = true := by rw [← hon]; exact hall e he hb
     have hu : ∀ k, k ∈ free → (ops[k]?).bind (·.dst) = some t → k = j := by
      intro k hkf hkd
      cases hok : ops[k]? with
      |none => rw [hok] at hkd; cases hkd
      |some ok =>
       rw [hok] at hkd
       exact hk.dst k ok j oj t (hfn k hkf) hok h1 h2 h3 hkd
     by_cases hf : j ∈ free
     ·obtain ⟨_, _, ⟨t', ht1, ht2⟩, _⟩ := hr.freed j oj (Nat.zero_le _) h1 h2 hf
      have : t' = t := by rw [ht1] at h3; injection h3
      subst this
      rw [inv.newf j oj t' h1 h2 hf hlj h3, Yee ops r F t' (by rw [hr.size]; exact ht2) j (by rw [h2]; exact h3) free hf hu]
     ·rw [inv.new j oj t h1 h2 hf hlj h3, Ych ops r F t free (fun k hkf hkd => hf (by rw [← hu k hkf hkd]; exact hkf))]
    ·rw [inv.old t (fun j oj h1 h2 h3 => absurd ⟨j, oj, h1, h2, h3⟩ h), Ych ops r F t free (fun k hkf hkd => ?_), hr.old t (fun j oj _ h1 h2 h3 => absurd ⟨j, oj, h1, h2, h3⟩ h)]
     cases hok : ops[k]? with
     |none => rw [hok] at hkd; cases hkd
     |some ok => rw [hok] at hkd; exact h ⟨k, ok, hfn k hkf, hok, hkd⟩
   have hs := Ya8 (hk.sel i o ho) hlook
   have hnd : Yac dead o = false := by
    rw [Bool.eq_false_iff]
    intro hd
    simp only [Yac, List.any_eq_true, Bool.and_eq_true, List.contains_iff_mem, Array.mem_toList_iff] at hd
    obtain ⟨e, he, hb, hm⟩ := hd
    exact inv.live e.on (hdn _ hm) (hall e he hb) hm
   have hd0 : Ybv listed i = false := hunf
   have hold : ∀ (v : Value) t, (∀ (j : Nat) (oj : Oper), j < n → ops[j]? = some oj → oj.dst = some t → (listed.setIfInBounds i true).getD j false = false) → (a.put o.dst v).tmps[t]? = a0.tmps[t]? := by
    intro v t ht
    have hne : o.dst ≠ some t := fun he => by
     have := ht i o hin ho he
     simp [hlt] at this
    rw [Yau _ _ _ _ hne]
    refine inv.old t fun j oj h1 h2 h3 => ?_
    have := ht j oj h1 h2 h3
    by_cases e : i = j
    ·subst e; exact hunf
    ·rwa [getD_set_ne false e] at this
   -- the next frame
   have hnext : ∀ (v : Value) (w' : World), B (Yw (Ybv listed) i) r w' → i ∉ dead → i ∉ free → same o.dst a0.tmps.size v (vs i) → Yg0 ops B n dead free a0 F r (listed.setIfInBounds i true) (a.put o.dst v) w' := by
    intro v w' hB hnot hnf hv
    refine ⟨inv.head.set hi hin, by rw [Yfy hlt]; exact hB, by rw [Ya5, inv.defers], by rw [Yae, inv.size], ?_, hold v, ?_, ?_⟩
    ·intro j hj hl
     by_cases e : i = j
     ·subst e; exact hnot
     ·rw [getD_set_ne false e] at hl; exact inv.live j hj hl
    ·intro j oj t h1 h2 h2f h3 h4
     by_cases e : i = j
     ·subst e
      have : oj = o := Option.some.inj (h2.symm.trans ho)
      subst this
      rcases Nat.lt_or_ge t a.tmps.size with ht | ht
      ·rw [h4, Yb5 _ _ _ ht, hr.new i oj t (Nat.zero_le _) hin ho hnot hnf h4 (by rw [← inv.size]; exact ht), hv t h4 (by rw [← inv.size]; exact ht)]
      ·rw [Array.getElem?_eq_none (by rw [Yae]; exact ht), Array.getElem?_eq_none (by rw [hr.size, ← inv.size]; exact ht)]
     ·rw [getD_set_ne false e] at h3
      have hne : o.dst ≠ some t := fun he => e (hk.dst i o j oj t hin ho h1 h2 h4 he)
      rw [Yau _ _ _ _ hne]
      exact inv.new j oj t h1 h2 h2f h3 h4
    ·intro j oj t h1 h2 h2f h3 h4
     by_cases e : i = j
     ·subst e; exact absurd h2f hnf
     ·rw [getD_set_ne false e] at h3
      have hne : o.dst ≠ some t := fun he => e (hk.dst i o j oj t hin ho h1 h2 h4 he)
      rw [Yau _ _ _ _ hne]
      exact inv.newf j oj t h1 h2 h2f h3 h4
   have hnextf : ∀ (v : Value) (w' : World), B (Yw (Ybv listed) i) (Ybp r i v) w' → i ∉ dead → i ∈ free → Yg0 ops B n dead free a0 F (Ybp r i v) (listed.setIfInBounds i true) (a.put o.dst v) w' := by
    intro v w' hB hnot hnf
    obtain ⟨_, _, ⟨t0, ht1, ht2⟩, _⟩ := hr.freed i o (Nat.zero_le _) hin ho hnf
    refine ⟨inv.head.set hi hin, by rw [Yfy hlt]; exact hB, by rw [Ya5, inv.defers], by rw [Yae, inv.size], ?_, hold v, ?_, ?_⟩
    ·intro j hj hl
     by_cases e : i = j
     ·subst e; exact hnot
     ·rw [getD_set_ne false e] at hl; exact inv.live j hj hl
    ·intro j oj t h1 h2 h2f h3 h4
     by_cases e : i = j
     ·subst e; exact absurd hnf h2f
     ·rw [getD_set_ne false e] at h3
      have hne : o.dst ≠ some t := fun he => e (hk.dst i o j oj t hin ho h1 h2 h4 he)
      rw [Yau _ _ _ _ hne]
      exact inv.new j oj t h1 h2 h2f h3 h4
    ·intro j oj t h1 h2 h2f h3 h4
     by_cases e : i = j
     ·subst e
      have : oj = o := Option.some.inj (h2.symm.trans ho)
      subst this
      have : t0 = t := by rw [ht1] at h4; injection h4
      subst this
      rw [h4, Yb5 _ _ _ (by rw [inv.size]; exact ht2)]
      simp [Ybp]
     ·rw [getD_set_ne false e] at h3
      have hne : o.dst ≠ some t := fun he => e (hk.dst i o j oj t hin ho h1 h2 h4 he)
      rw [Yau _ _ _ _ hne, inv.newf j oj t h1 h2 h2f h3 h4]
      simp only [Ybp]
      rw [if_neg (fun h => e h.symm)]
   have hpan : ∀ c w', X c w' → Q (.panic c) a w' := fun c w' hx =>
    hX c a w' hx inv.defers inv.size fun t ht => inv.old t fun j oj h1 h2 h3 => absurd h3 (ht j oj h1 h2)
   unfold wpOp
   simp only [ho]
   by_cases hde : i ∈ dead
   ·rcases hr.died i o (Nat.zero_le _) hin ho hde with h | ⟨hw, h⟩
    ·rw [h] at hnd; cases hnd
    ·rw [if_pos (by rw [hs.2]; exact hw r)]
     refine .inl (Yb8 ?_)
     rw [Ya2 hs.1]
     exact Yci (h _ r w hd0 hall inv.world) (fun _ _ hf => hf.elim) hpan
   ·by_cases hfe : i ∈ free
    ·obtain ⟨_, hw, _, h⟩ := hr.freed i o (Nat.zero_le _) hin ho hfe
     rw [if_pos (by rw [hs.2]; exact hw r)]
     refine .inl (Yb8 ?_)
     rw [Ya2 hs.1]
     refine Yci (h _ r w hd0 hall inv.world) (fun v w' hv => ?_) hpan
     exact Ye0 hk hr hdn hfn hwait hX hfin m _ _ _ _ (by omega) (hnextf v w' hv hde hfe)
    ·obtain ⟨_, ⟨hw, h⟩ | ⟨hw, h, hsk⟩⟩ := hr.live i o (Nat.zero_le _) hin ho hde hfe
     ·rw [if_pos (by rw [hs.2]; exact hw r)]
      refine .inl (Yb8 ?_)
      rw [Ya2 hs.1]
      refine Yci (h _ r w hd0 hall inv.world) (fun v w' hv => ?_) hpan
      exact Ye0 hk hr hdn hfn hwait hX hfin m _ _ _ _ (by omega) (hnext v w' hv.2 hde hfe hv.1)
     ·rw [if_neg (by rw [hs.2, hw r]; simp)]
      exact Ye0 hk hr hdn hfn hwait hX hfin m _ _ _ _ (by omega) (hnext undef w (hsk _ r w hd0 inv.world) hde hfe (fun _ _ _ => h.symm))
theorem Yeb {P : Program} {id : Nat} {Q : Exit → Act → World → Prop} {a : Act} {w : World} {l : List Oper} (n : Nat) (B : (Nat → Bool) → (Nat → Value) → World → Prop) (X : List PanicEntry → World → Prop) (hm : P.follows .mixedOrders = true) (hok : Yer l.toArray n = true)
  (hB : ∀ r, B (fun _ => false) r w.drew)
  (hX : ∀ c a' w', X c w' → a'.defers = a.defers → a'.tmps.size = a.tmps.size → (∀ t, noDst l n t = true → a'.tmps[t]? = a.tmps[t]?) → Q (.panic c) a' w')
  (h : Yb2 P l.toArray B X n (fun dead free F => dead = [] → ∀ r w1 d, (∀ j, j < n → d j = true) → B d r w1 → wpList P l.toArray Q (l.drop n) (Yq l.toArray r free F) w1) [] [] 0 (l.take n) a) : (Code.region id l.toArray true).wp P Q a w := by
 simp only [Yer, Bool.and_eq_true, Bool.or_eq_true, decide_eq_true_eq] at hok
 obtain ⟨⟨hh, ht⟩, hq⟩ := hok
 have hk := Yen hh
 have hle : n ≤ l.length := by simpa using hk.le
 have htl : (l.take n).length = n := by simp; omega
 obtain ⟨vs, dead, free, F, hf, hr, _, hdn, _, hfn⟩ := Ycx hk (l.take n) 0 [] [] a (fun j hj => by
  have hj' : j < n := by rw [htl] at hj; exact hj
  simp [hj']) (by simpa using htl) (by simp) (by simp) h
 have hun : Ybo n (Array.replicate l.toArray.size false) = n := by
  have : ∀ i, i ∈ List.range n → (!(Array.replicate l.toArray.size false).getD i true) = true := fun i hi => by
   have hi' : i < l.toArray.size := by have := List.mem_range.1 hi; simp; omega
   have hi'' : i < l.length := by simpa using hi'
   simp [hi'']
  unfold Ybo
  rw [List.countP_eq_length.2 this, List.length_range]
 have inv0 : HeadInv .any l.toArray n (Array.replicate l.toArray.size false) :=
  ⟨by simp, fun j oj _ hl => (by rw [getD_replicate_false] at hl; cases hl), fun t _ ht => getD_in (by simpa using ht) (getD_replicate_false _ _)⟩
 have hgo := Ye0 (Q := Q) hk hr hdn hfn ?_ (fun c a' w' hx h1 h2 h3 => hX c a' w' hx h1 h2 fun t ht' => h3 t fun j oj g1 g2 => Ye3 ht' j oj g1 (by simpa using g2)) ?_ n (fun _ => undef) _ a w.drew hun
  ⟨inv0, by rw [Yhp]; exact hB _, rfl, rfl, fun j _ hl => (by rw [getD_replicate_false] at hl; cases hl), fun _ _ => rfl, fun j oj t _ _ _ hl => (by rw [getD_replicate_false] at hl; cases hl), fun j oj t _ _ _ hl => (by rw [getD_replicate_false] at hl; cases hl)⟩
 ·refine wp_region_any hm ?_
  rw [show n + (l.toArray.size - n) = l.toArray.size by simp; omega] at hgo
  exact hgo
 ·intro listed inv i hi hun t hnt
  rcases ht with ht | ⟨⟨h1, h2⟩, h3⟩
  ·intro hrd
   obtain ⟨_, o, ho, _⟩ := mem_ready.1 hrd
   have := (Array.getElem?_eq_some_iff.1 ho).1
   omega
  ·exact tail_waits h2 h3 h1 inv _ i rfl hi hun t hnt
 ·intro listed r w1 inv hall hd hBw
  have hlst : listed = Array.replicate n true ++ Array.replicate (l.toArray.size - n) false := by
   apply Array.ext
   ·rw [inv.size]; simp; omega
   ·intro i h1 h2
    by_cases hi : i < n
    ·have := hall i hi
     simp [h1] at this
     rw [this, Array.getElem_append_left (by simpa using hi)]
     simp
    ·have := inv.tail i (by omega) (by rw [← inv.size]; exact h1)
     simp [h1] at this
     rw [this, Array.getElem_append_right (by simpa using hi)]
     simp
  have hdl : (l.drop n).length = l.toArray.size - n := by simp
  have := wpAny_of_seq (md := .any) (P := P) (ops := l.toArray) (Q' := Q) (l.drop n) n listed (Yq l.toArray r free F) w1 (fun j => by simp [List.getElem?_drop]) (by rw [hdl, hlst]; exact hq) (hf hd r w1 (Ybv listed) (fun j hj => by
   have h1 := hall j hj
   have h2 : j < listed.size := by rw [inv.size]; have := hk.le; omega
   simp only [Ybv]
   simp [h2] at h1 ⊢; exact h1) hBw)
  rwa [hdl] at this
end
structure Yg5 (M : Mem) (a pb : Nat) (w : World) (w1 : World) : Prop where
 f : w1.heap[w.heap.size]? = some (.cells #[.int .i64 0, .int .u32 0, .int .u32 0, .int .i64 0] 37 (0, 0))
 k : w1.heap[w.heap.size + 1]? = some (.cells #[.bool false] 4 (0, 0))
 m : Yi w1 a pb M
 u : Upd [pb] w w1
 al : a < w.heap.size
 pl : pb < w.heap.size
structure Yfm (M : Mem) (a pb : Nat) (w : World) (g : Nat) (cur : Array Value) (w1 : World) : Prop where
 f : w1.heap[w.heap.size]? = some (.cells #[.int .i64 0, .int .u32 0, .int .u32 0, .int .i64 0] 37 (0, 0))
 k : w1.heap[w.heap.size + 1]? = some (.cells #[.bool false] 4 (0, 0))
 m : Yi w1 a pb M
 u : Upd [pb] w w1
 g : w1.heap[g]? = some (.cells cur 98 (0, 0))
theorem Yfm.store {M : Mem} {a pb : Nat} {w w1 : World} {g : Nat} {cur : Array Value} (h : Yfm M a pb w g cur w1) (ha : a < w.heap.size) (hp : pb < w.heap.size) (hg : w.heap.size ≤ g) {y : Int} (h0 : 0 ≤ y) (h1 : y < 16384) {b : Int} (hb0 : 0 ≤ b) (hb1 : b ≤ 255) :
  Yfm (M.setB y.toNat b) a pb w g cur (w1.setCell ⟨pb, Ycb y, none⟩ (.int .u8 b)) :=
 ⟨Yd _ (by simp <;> omega) h.f, Yd _ (by simp <;> omega) h.k, h.m.store h0 h1 hb0 hb1, h.u.setCell (by simp) _, Yd _ (by simp <;> omega) h.g⟩
def Mem.putN (M : Mem) (x v : Int) : Nat → Mem
 |0 => M
 |j + 1 => (M.putN x v j).setB (Yn x j).toNat (v / 2 ^ (8 * j) % 256)
theorem Mem.putN_R (M : Mem) (x v : Int) : ∀ j, (M.putN x v j).R = M.R
 |0 => rfl
 |j + 1 => Mem.putN_R M x v j
def ptrs (pb : Nat) (x : Int) (j : Nat) : List Value := (List.range j).map fun t => .pointer (some ⟨pb, Ycb (Yn x t), none⟩)
theorem Ylb (pb : Nat) (x : Int) (j : Nat) : ptrs pb x (j + 1) = ptrs pb x j ++ [.pointer (some ⟨pb, Ycb (Yn x j), none⟩)] := by
 simp [ptrs, List.range_succ]
theorem ptrs_get (pb : Nat) (x : Int) (n j : Nat) (hj : j < n) : (ptrs pb x n)[j]? = some (.pointer (some ⟨pb, Ycb (Yn x j), none⟩)) := by
 simp [ptrs, hj]
theorem info_pu8 : (Tryd.prog.info? 98).map (fun i => (i.zero, i.size, i.bytes)) = some (some (.pointer none), 1, 8) := by kernel_rfl
theorem Yfe (tmps : Array Value) (fb kb : Nat) (y0 y1 y2 y3 : Int) (k : Bool) (w : World) (h8 : tmps.getD 8 undef = .pointer (some ⟨fb, 0, none⟩)) (h9 : tmps.getD 9 undef = .pointer (some ⟨kb, 0, none⟩))
  (hf : w.heap[fb]? = some (.cells #[.int .i64 y0, .int .u32 y1, .int .u32 y2, .int .i64 y3] 37 (0, 0))) (hk : w.heap[kb]? = some (.cells #[.bool k] 4 (0, 0))) :
  (results Tryd.f38 tmps).run Tryd.prog w = .ok (.tuple #[.agg #[.int .i64 y0, .int .u32 y1, .int .u32 y2, .int .i64 y3], .bool k]) w := by
 have cf : ∀ o, w.cell? ⟨fb, o, none⟩ = #[.int .i64 y0, .int .u32 y1, .int .u32 y2, .int .i64 y3][o]? := Ya hf
 have ck : ∀ o, w.cell? ⟨kb, o, none⟩ = #[.bool k][o]? := Ya hk
 rw [Array.getD_eq_getD_getElem?] at h8 h9
 simp [results, Tryd.results38, go_sem, h8, h9, cf, ck]
def Ygn (w : World) : List Deferred :=
 [{ target := .fn (.func 55) #[], args := #[.pointer (some ⟨w.heap.size, 0, none⟩), .pointer (some ⟨w.heap.size + 1, 0, none⟩)] }]
theorem Ygq (M : Mem) (a pb : Nat) (w w1 : World) (y r : Int) (tmps : Array Value) (R : Ending → World → Prop) (h8 : tmps.getD 8 undef = .pointer (some ⟨w.heap.size, 0, none⟩)) (h9 : tmps.getD 9 undef = .pointer (some ⟨w.heap.size + 1, 0, none⟩)) (hB : Yg5 M a pb w w1)
  (hR : ∀ w', Upd [pb] w w' → Yi w' a pb M → R (.returned (.tuple #[Ybb y r, .bool false])) w') :
  Leaves Tryd.prog Tryd.f38 tmps R (Ygn w) (.panicking [{ v := .iface 37 (Ybb y r), recovered := false }]) w1 := by
 have hal := hB.al
 have hpl := hB.pl
 refine leaves_cons (f := 55) (args := #[.pointer (some ⟨w.heap.size, 0, none⟩), .pointer (some ⟨w.heap.size + 1, 0, none⟩)]) (by simp) (by simp [go_sem]) ?_
 refine (Yd6 _ _ _ _ _ _ _ _ _ _ _ [] w1 hB.f hB.k (by omega)).mono ?_
 rintro e u' w2 ⟨rfl, rfl, hf, hk, hU⟩
 simp only [settle, List.dropWhile_nil]
 exact ⟨_, Yfe _ _ _ _ _ _ _ _ w2 h8 h9 hf hk, hR _ (hB.u.also hU (by simp <;> omega)) (hB.m.keep hU (by simp <;> omega) (by simp <;> omega))⟩
theorem Yhu (w w1 : World) (tmps : Array Value) (R : Ending → World → Prop) (h8 : tmps.getD 8 undef = .pointer (some ⟨w.heap.size, 0, none⟩)) (h9 : tmps.getD 9 undef = .pointer (some ⟨w.heap.size + 1, 0, none⟩))
  (hf : w1.heap[w.heap.size]? = some (.cells #[.int .i64 0, .int .u32 0, .int .u32 0, .int .i64 0] 37 (0, 0)))
  (hk : w1.heap[w.heap.size + 1]? = some (.cells #[.bool true] 4 (0, 0)))
  (hR : R (.returned (.tuple #[.agg #[.int .i64 0, .int .u32 0, .int .u32 0, .int .i64 0], .bool true])) w1) :
  Leaves Tryd.prog Tryd.f38 tmps R (Ygn w) .returning w1 := by
 refine leaves_cons (f := 55) (args := #[.pointer (some ⟨w.heap.size, 0, none⟩), .pointer (some ⟨w.heap.size + 1, 0, none⟩)]) (by simp) (by simp [go_sem]) ?_
 refine (Ygm _ _ w1).mono ?_
 rintro e u' w2 ⟨rfl, rfl, rfl⟩
 simp only [settle]
 exact ⟨_, Yfe _ _ _ _ _ _ _ _ w1 h8 h9 hf hk, hR⟩
def Mem.writeF (M : Mem) (x bytes : Int) : Value :=
 match M.bad x 2 (Yap bytes).toNat with | none => .agg #[.int .i64 0, .int .u32 0, .int .u32 0, .int .i64 0] | some i => Ybb (Yn x i) 2
def Mem.writeK (M : Mem) (x bytes : Int) : Bool := (M.bad x 2 (Yap bytes).toNat).isNone
def Mem.writeM (M : Mem) (x bytes v : Int) : Mem :=
 match M.bad x 2 (Yap bytes).toNat with | none => M.putN x v (Yap bytes).toNat | some _ => M
theorem Yfw (M : Mem) (a pb : Nat) (x bytes v : Int) (w : World) (hM : Yi w a pb M) (h0 : 0 ≤ x) (h1 : x < 4294967296) (hv0 : 0 ≤ v) (hv1 : v < 4294967296) :
  Calls Tryd.prog 38 #[.pointer (some ⟨a, 0, none⟩), .int .u32 x, .int .i64 bytes, .int .u32 v] w fun e w' =>
   e = .returned (.tuple #[M.writeF x bytes, .bool (M.writeK x bytes)]) ∧ Yi w' a pb (M.writeM x bytes v) ∧ Upd [pb] w w' := by
 have hal := hM.al
 have hpl := hM.pl
 have hw3 := Yel bytes
 obtain ⟨n, hn⟩ : ∃ n : Nat, Yap bytes = n := ⟨(Yap bytes).toNat, by omega⟩
 have HN := Yh_ hn
 have hn4 : n ≤ 4 := by omega
 have hn0 : 0 < n := by omega
 clear hw3 hn
 obtain ⟨i0, hi, hz0, hz1, hz2⟩ := info_parts info_pu8
 have HI := Yh_ (And.intro hi (And.intro hz0 (And.intro hz1 hz2)))
 clear hi hz0 hz1 hz2
 have hfinP : ∀ (j : Nat) (w' : World), j < n → (∀ t, t < j → M.can (Yn x t) 2 = true) → M.can (Yn x j) 2 = false → Upd [pb] w w' → Yi w' a pb M →
   (fun e w' => e = Ending.returned (.tuple #[M.writeF x bytes, .bool (M.writeK x bytes)]) ∧ Yi w' a pb (M.writeM x bytes v) ∧ Upd [pb] w w') (.returned (.tuple #[Ybb (Yn x j) 2, .bool false])) w' := by
  intro j w' hj hc hb hU hm
  have hbad := Yjn M x 2 n j hj hc hb
  simp only [Mem.writeF, Mem.writeK, Mem.writeM, HN.out, Int.toNat_natCast, hbad]
  exact ⟨rfl, hm, hU⟩
 have HFP := Yh_ hfinP
 clear hfinP
 have hfinK : ∀ (w' : World), (∀ t, t < n → M.can (Yn x t) 2 = true) → Upd [pb] w w' → Yi w' a pb (M.putN x v n) →
   (fun e w' => e = Ending.returned (.tuple #[M.writeF x bytes, .bool (M.writeK x bytes)]) ∧ Yi w' a pb (M.writeM x bytes v) ∧ Upd [pb] w w') (.returned (.tuple #[.agg #[.int .i64 0, .int .u32 0, .int .u32 0, .int .i64 0], .bool true])) w' := by
  intro w' hc hU hm
  have hbad := Yi8 M x 2 n hc
  simp only [Mem.writeF, Mem.writeK, Mem.writeM, HN.out, Int.toNat_natCast, hbad]
  exact ⟨rfl, hm, hU⟩
 have HFK := Yh_ hfinK
 clear hfinK
 have hstart : Yg5 M a pb w ((w.alloc (Obj.cells #[Value.int IntKind.i64 0, Value.int IntKind.u32 0, Value.int IntKind.u32 0, Value.int IntKind.i64 0] 37)).alloc (Obj.cells #[Value.bool false] 4)) := by
  refine ⟨heap_alloc2_old _ _ _, heap_alloc2_new _ _ _, ?_, ?_, hal, hpl⟩
  ·exact hM.keep (S := []) (((Upd.refl _ _).alloc _).alloc _) (by simp) (by simp)
  ·exact ((Upd.refl _ _).alloc _).alloc _
 have HS := Yh_ hstart
 clear hstart hM
 go_enter_defers Tryd.func38, Tryd.ntmps38
 go_wp2_with (go_at_call 56; refine (Yek bytes _).mono ?_; rintro e w' ⟨rfl, rfl⟩; rw [HN.out])
 go_loopw [10, 11, 16] (fun s _ i wr => ∃ j : Nat, j ≤ n ∧ i = .int .i64 j ∧ (∀ t, t < j → M.can (Yn x t) 2 = true) ∧ Yg5 M a pb w wr ∧ wr.ownsRow (w.heap.size + 2) 98 1 s j (ptrs pb x j) ∧ w.heap.size + 2 ≤ wr.heap.size) (fun _ _ i _ => n - (intOf i).toNat)
 case atStart => exact ⟨0, Nat.zero_le _, rfl, by simp, HS.out, World.ownsRow_nil _ _ _ _, by simp⟩
 case round =>
  obtain ⟨j, hj, rfl, hcan, hB, hown, hsz⟩ := hrel
  have HC := Yh_ hcan
  have HB := Yh_ hB
  have HO := Yh_ hown
  clear hcan hB hown
  by_cases hlt : j < n
  ·cases hb : M.can (Yn x j) 2
   ·have HBad := Yh_ hb
    clear hb
    go_wp2_with (go_at_call 57; refine (Yg6 a pb (Yn x j) _ _ M HB.out.m (Yat x j) HBad.out).mono ?_; rintro e w2 ⟨rfl, rfl⟩)
    exact Ygq M a pb w wr _ _ _ _ rfl rfl HB.out (fun w' hU hm => HFP.out j w' hlt HC.out HBad.out hU hm)
   ·have HGood := Yh_ hb
    clear hb
    go_wp2_with (first | (go_at_call 57; refine (at_ok a pb (Yn x j) _ _ M HB.out.m (Yat x j) HGood.out).mono ?_; rintro e w2 ⟨rfl, rfl⟩) | (at_builtin; refine wpList_append_own _ rfl _ _ 110 rfl (w.heap.size + 2) 98 i0 (.pointer none) 1 8 Tryd.underlying110 HI.out.1 HI.out.2.1 HI.out.2.2.1 HI.out.2.2.2 rfl (by decide) _ _ _ rfl (HO.out.alloc _) ⟨wr.heap.size, 0, none⟩ 1 1 [.pointer (some ⟨pb, Ycb (Yn x j), none⟩)] rfl rfl ?_ ?_ ?_ ?_ ?_ ?_))
    ·intro t u hu
     rcases t with _ | t
     ·simp only [List.getElem?_cons_zero, Option.some.injEq] at hu
      subst hu
      rw [Addr.add_mid, Ya (heap_alloc_new _ _)]
      rfl
     ·simp at hu
    ·intro u hu
     simp only [List.mem_singleton] at hu
     subst hu; rfl
    ·unfold maxLen; omega
    ·omega
    ·simp; omega
    ·intro v' w1 hown' hgrow _
     have hU1 := Upd.of_grown hgrow
     have hB' : Yg5 M a pb w w1 := by
      have hlt' := HO.out.lt
      have hU2 : Upd u10.ownBlock.toList wr w1 := ((Upd.refl [] wr).alloc _).trans hU1 (by simp) (fun z hz => .inl hz)
      have hne : ∀ z, z ∈ u10.ownBlock.toList → w.heap.size + 2 ≤ z := fun z hz => (hlt' z (by simpa using hz)).1
      have hal := HB.out.al
      have hpl := HB.out.pl
      exact ⟨hU2.get HB.out.f (fun h => by have := hne _ h; omega), hU2.get HB.out.k (fun h => by have := hne _ h; omega), HB.out.m.keep hU2 (fun h => by have := hne _ h; omega) (fun h => by have := hne _ h; omega), HB.out.u.also hU2 (fun z hz => .inr (by have := hne z hz; omega)), hal, hpl⟩
     have hsz' := hgrow.size
     have HB' := Yh_ hB'
     have HO' := Yh_ hown'
     have HS' := Yh_ hsz'
     clear hB' hown' hgrow hU1 hsz'
     go_wp2_with fail
     go_roundw
     case rel => exact ⟨j + 1, by omega, by go_num, fun t ht => by
       by_cases e : t = j
       ·subst e; exact HGood.out
       ·exact HC.out t (by omega), HB'.out, by rw [Ylb]; exact HO'.out, by have := HS'.out; simp at this; omega⟩
     case measure => simp [intOf]; omega
  ·have e : j = n := by omega
   obtain ⟨hl, ⟨_, h⟩ | ⟨g, cap, cur, rfl, hg, hh, hc1, hc2, hc3, hc4⟩⟩ := HO.out
   ·omega
   ·subst e
    have hcell : ∀ t, t < j → cur[t]? = some (.pointer (some ⟨pb, Ycb (Yn x t), none⟩)) := fun t ht => by
     have := ptrs_get pb x j t ht
     rw [← hc4, List.getElem?_take, if_pos (by omega), Array.getElem?_toList] at this
     exact this
    have HCell := Yh_ hcell
    have hstart2 : Yfm (M.putN x v 0) a pb w g cur wr := ⟨HB.out.f, HB.out.k, HB.out.m, HB.out.u, hh⟩
    have HS2 := Yh_ hstart2
    clear hh hcell hl hstart2 hc3 hc4 HO hsz
    go_wp2_with fail
    go_loopw [12, 13, 31] (fun _ _ i wr => ∃ t : Nat, t ≤ j ∧ i = .int .i64 t ∧ Yfm (M.putN x v t) a pb w g cur wr) (fun _ _ i _ => j - (intOf i).toNat)
    case atStart => exact ⟨0, Nat.zero_le _, rfl, HS2.out⟩
    case round =>
     obtain ⟨t, ht, rfl, hB2⟩ := hrel
     have HB2 := Yh_ hB2
     clear hB2
     by_cases hlt2 : t < j
     ·have cg : wr.cell? ⟨g, t, none⟩ = some (.pointer (some ⟨pb, Ycb (Yn x t), none⟩)) := by rw [Ya HB2.out.g]; exact HCell.out t hlt2
      have hx := Yhn (Yat x t) (HC.out t hlt2)
      have cb := HB2.out.m.cbyte _ (Yat x t) hx
      have fb : ∀ o, wr.frozen? ⟨pb, o, none⟩ = false := HB2.out.m.free
      go_wp2_with fail
      go_roundw
      case rel => exact ⟨t + 1, by omega, by go_num, HB2.out.store hal hpl (by omega) (Yat x t) hx (by omega) (by omega)⟩
      case measure => simp [intOf]; omega
     ·have e2 : t = j := by omega
      subst e2
      have cf : ∀ o, wr.cell? ⟨w.heap.size, o, none⟩ = #[.int .i64 0, .int .u32 0, .int .u32 0, .int .i64 0][o]? := Ya HB2.out.f
      have ff : ∀ o, wr.frozen? ⟨w.heap.size, o, none⟩ = false := Yc HB2.out.f
      have ck : ∀ o, wr.cell? ⟨w.heap.size + 1, o, none⟩ = #[.bool false][o]? := Ya HB2.out.k
      have fk : ∀ o, wr.frozen? ⟨w.heap.size + 1, o, none⟩ = false := Yc HB2.out.k
      go_wp2_with fail
      refine Yhu w _ _ _ rfl rfl ?_ ?_ (HFK.out _ HC.out ?_ ?_)
      ·refine Yd _ (by simp) ?_
       have h := Yf (Yf (Yf (Yf HB2.out.f 0 (.int .i64 0)) 1 (.int .u32 0)) 2 (.int .u32 0)) 3 (.int .i64 0)
       exact h
      ·exact Yf (Yd _ (by simp) (Yd _ (by simp) (Yd _ (by simp) (Yd _ (by simp) HB2.out.k)))) 0 _
      ·exact ((((HB2.out.u.setCell (by simp) _).setCell (by simp) _).setCell (by simp) _).setCell (by simp) _).setCell (by simp) _
      ·exact HB2.out.m.keep (S := [w.heap.size, w.heap.size + 1]) (((((Upd.refl _ _).setCell (by simp) _).setCell (by simp) _).setCell (by simp) _).setCell (by simp) _ |>.setCell (by simp) _) (by simp <;> omega) (by simp <;> omega)
theorem Yg4 : (Tryd.prog.info? 37).map (·.size) = some 4 := by kernel_rfl
theorem Yft {w : World} {b : Nat} {t : TypeId} {a0 a1 a2 a3 : Value} (h : w.heap[b]? = some (.cells #[a0, a1, a2, a3] t (0, 0))) (u0 u1 u2 u3 : Value) :
  ((((w.setCell ⟨b, 0, none⟩ u0).setCell ⟨b, 0 + 1, none⟩ u1).setCell ⟨b, 0 + 2, none⟩ u2).setCell ⟨b, 0 + 3, none⟩ u3).heap[b]? = some (.cells #[u0, u1, u2, u3] t (0, 0)) :=
 Yf (Yf (Yf (Yf h 0 u0) 1 u1) 2 u2) 3 u3
theorem Ybw {S : List Nat} {w0 w : World} {b : Nat} (h : Upd S w0 w) (hb : b ∈ S ∨ w0.heap.size ≤ b) (u0 u1 u2 u3 : Value) :
  Upd S w0 ((((w.setCell ⟨b, 0, none⟩ u0).setCell ⟨b, 0 + 1, none⟩ u1).setCell ⟨b, 0 + 2, none⟩ u2).setCell ⟨b, 0 + 3, none⟩ u3) :=
 (((h.setCell (p := ⟨b, 0, none⟩) hb _).setCell (p := ⟨b, 0 + 1, none⟩) hb _).setCell (p := ⟨b, 0 + 2, none⟩) hb _).setCell (p := ⟨b, 0 + 3, none⟩) hb _
structure Flt where
 k : Int
 pc : Int
 a : Int
 wt : Int
 deriving DecidableEq
def Flt.cells (f : Flt) : Array Value := #[.int .i64 f.k, .int .u32 f.pc, .int .u32 f.a, .int .i64 f.wt]
def Flt.val (f : Flt) : Value := .agg #[.int .i64 f.k, .int .u32 f.pc, .int .u32 f.a, .int .i64 f.wt]
def Flt.zero : Flt := ⟨0, 0, 0, 0⟩
def Mem.rdF (M : Mem) (x bytes right : Int) : Flt := match M.bad x (Yav right) (Yap bytes).toNat with | none => Flt.zero | some i => ⟨1, 0, Yn x i, Yav right⟩
def Mem.wrF (M : Mem) (x bytes : Int) : Flt := match M.bad x 2 (Yap bytes).toNat with | none => Flt.zero | some i => ⟨1, 0, Yn x i, 2⟩
theorem Mem.readF_val (M : Mem) (x bytes right : Int) : M.readF x bytes right = (M.rdF x bytes right).val := by
 unfold Mem.readF Mem.rdF; cases M.bad x (Yav right) (Yap bytes).toNat <;> rfl
theorem Mem.writeF_val (M : Mem) (x bytes : Int) : M.writeF x bytes = (M.wrF x bytes).val := by
 unfold Mem.writeF Mem.wrF; cases M.bad x 2 (Yap bytes).toNat <;> rfl
def lowI (l : Int) : Int := bits .and .i64 l (wrap64 (-l))
def Mem.rightAt (M : Mem) (x : Int) : Int := if x < 16384 then M.R (x / 256).toNat else 0
def Mem.lack (M : Mem) (x r : Int) : Int := lowI (bits .andNot .i64 r (M.rightAt x))
theorem Yaw {tmps : Array Value} {w : World} (a : Tmp) (b : Nat) (k : Bool) (ha : tmps.getD a undef = .pointer (some ⟨b, 0, none⟩)) (hb : w.heap[b]? = some (.cells #[.bool k] 4 (0, 0))) : (Ya9 tmps (.cell a 4)).run Tryd.prog w = .ok (.bool k) w := by
 have hc : w.cell? ⟨b, 0, none⟩ = some (.bool k) := by rw [Ya hb]; rfl
 simp only [Ya9, Sem.run_bind, ha]
 simp [asAddr, go_sem, hc]
theorem Ybm {tmps : Array Value} {w : World} (a : Tmp) (b : Nat) (F : Flt) (ha : tmps.getD a undef = .pointer (some ⟨b, 0, none⟩)) (hb : w.heap[b]? = some (.cells #[.int .i64 F.k, .int .u32 F.pc, .int .u32 F.a, .int .i64 F.wt] 37 (0, 0))) :
  (Ya9 tmps (.cell a 37)).run Tryd.prog w = .ok F.val w :=
 Yh2 a 37 b _ _ ha hb Tryd.underlying37 rfl Yg4
def Mem.canBad (M : Mem) (x : Int) (n : Nat) (r : Int) : Option Nat := (List.range n).find? fun i => M.lack (Yn x i) r != 0
def Mem.canF (M : Mem) (x : Int) (n : Nat) (r : Int) : Flt := match M.canBad x n r with | none => Flt.zero | some i => ⟨1, 0, Yn x i, M.lack (Yn x i) r⟩
def Mem.canK (M : Mem) (x : Int) (n : Nat) (r : Int) : Bool := (M.canBad x n r).isNone
theorem Yj6 (M : Mem) (x : Int) (n : Nat) (r : Int) (j : Nat) (hj : j < n) (hc : ∀ t, t < j → M.lack (Yn x t) r = 0) (hb : M.lack (Yn x j) r ≠ 0) : M.canBad x n r = some j := by
 rw [Mem.canBad, List.find?_range_eq_some]
 exact ⟨by simpa using hb, by simpa using hj, fun t ht => by simp [hc t ht]⟩
theorem Yjz (M : Mem) (x : Int) (n : Nat) (r : Int) (hc : ∀ t, t < n → M.lack (Yn x t) r = 0) : M.canBad x n r = none := by
 rw [Mem.canBad, List.find?_eq_none]
 intro t ht
 simp [hc t (List.mem_range.1 ht)]
theorem lack_can {M : Mem} (hM : M.Ok) (y : Int) (h0 : 0 ≤ y) (r : Int) (hr : r = 1 ∨ r = 2 ∨ r = 4) : (M.lack y r = 0) ↔ (M.can y r = true) := by
 unfold Mem.lack Mem.can Mem.rightAt
 by_cases h : y < 16384
 ·rw [if_pos h, decide_eq_true h, Bool.true_and]
  have hR := hM.R (y / 256).toNat
  generalize M.R (y / 256).toNat = q at *
  obtain ⟨q0, q7⟩ := hR
  have hq : q = 0 ∨ q = 1 ∨ q = 2 ∨ q = 3 ∨ q = 4 ∨ q = 5 ∨ q = 6 ∨ q = 7 := by omega
  rcases hr with rfl | rfl | rfl <;> rcases hq with rfl | rfl | rfl | rfl | rfl | rfl | rfl | rfl <;> decide +kernel
 ·rw [if_neg h, decide_eq_false h, Bool.false_and]
  rcases hr with rfl | rfl | rfl <;> decide +kernel
theorem Ylj (x : Int) (i j : Nat) : Yn (Yn x i) j = Yn x (i + j) := by
 unfold Yn; omega
theorem find?_isNone {p : Nat → Bool} {n : Nat} : ((List.range n).find? p).isNone = true ↔ ∀ t, t < n → p t = false := by
 rw [Option.isNone_iff_eq_none, List.find?_eq_none]
 constructor
 ·intro h t ht
  have := h t (List.mem_range.2 ht)
  simpa using this
 ·intro h t ht
  simp [h t (List.mem_range.1 ht)]
theorem canK_iff (M : Mem) (x : Int) (n : Nat) (r : Int) : M.canK x n r = true ↔ ∀ t, t < n → M.lack (Yn x t) r = 0 := by
 rw [Mem.canK, Mem.canBad, find?_isNone]
 simp
theorem Yhb (M : Mem) (x : Int) (n : Nat) (r : Int) : M.bad x r n = none ↔ ∀ t, t < n → M.can (Yn x t) r = true := by
 rw [← Option.isNone_iff_eq_none, Mem.bad, find?_isNone]
 simp
structure WrD (S : List Nat) (s : St) (o : Opd) (F : Flt) (gb : Nat) (w : World) (d : Nat → Bool) (w1 : World) : Prop where
 sb : w1.heap[w.heap.size]? = some (.cells s.cells 28 (0, 0))
 g : w1.heap[gb]? = some (.cells #[.int .i64 F.k, .int .u32 F.pc, .int .u32 F.a, .int .i64 F.wt] 37 (0, 0))
 r : ∃ X : St, w1.heap[w.heap.size + 1 + 1]? = some (.cells X.cells 28 (0, 0)) ∧ (d 3 = true → X = s)
 f : ∃ Y : Flt, w1.heap[w.heap.size + 1 + 1 + 1]? = some (.cells #[.int .i64 Y.k, .int .u32 Y.pc, .int .u32 Y.a, .int .i64 Y.wt] 37 (0, 0)) ∧ (d 4 = true → Y = F)
 gb : w.heap.size + 1 + 1 + 1 < gb
 u : Upd S w w1
theorem WrD.skip {S : List Nat} {s : St} {o : Opd} {F : Flt} {gb : Nat} {w w1 : World} {d : Nat → Bool} {i : Nat} (h : WrD S s o F gb w d w1) (h3 : i ≠ 3) (h4 : i ≠ 4) : WrD S s o F gb w (Yw d i) w1 := by
 have e3 : Yw d i 3 = d 3 := by simp only [Yw]; rw [if_neg (fun e => h3 e.symm)]
 have e4 : Yw d i 4 = d 4 := by simp only [Yw]; rw [if_neg (fun e => h4 e.symm)]
 exact ⟨h.sb, h.g, by rw [e3]; exact h.r, by rw [e4]; exact h.f, h.gb, h.u⟩
theorem Yhq {op : Oper} {a : Act} {w : World} {K : Act → World → Prop} {Q : Exit → Act → World → Prop} (s : St) (b : Nat) (x y : Operand) (ho : op.op = .store 28 x y) (hx : a.eval x = .pointer (some ⟨b, 0, none⟩)) (hy : a.eval y = .agg s.cells)
  {c : Array Value} (hb : w.heap[b]? = some (.cells c 28 (0, 0))) (hc : c.size = 17) (hK : ∀ w', w.setCells b 0 s.cells.toList = w' → K (a.put op.dst undef) w') : op.wp Tryd.prog a w K Q := by
 refine wp_store_mid 28 x y ho b 0 s.cells hx hy (Ycu hb 0 s.cells.size (by rw [hc, St.size]; exact Nat.le_refl _)) (by rw [St.size]; exact Yay) s.one ?_
 exact hK _ rfl
theorem Ykt (a pb : Nat) (p : Int) (w : World) (M : Mem) (hM : Yi w a pb M) :
  Calls Tryd.prog 90 #[.pointer (some ⟨a, 0, none⟩), .int .i64 p] w fun e w' => e = .returned (.int .i64 (M.rights p)) ∧ w = w' := by
 by_cases h1 : p < 0
 ·clear hM
  go_enter Tryd.func90, Tryd.ntmps90
  go_wp2
  go_ret
  exact ⟨by simp [Mem.rights, h1], rfl⟩
 ·by_cases h2 : 64 ≤ p
  ·clear hM
   go_enter Tryd.func90, Tryd.ntmps90
   go_wp2
   go_ret
   exact ⟨by simp [Mem.rights, h2], rfl⟩
  ·obtain ⟨c, hc, c0⟩ := hM.c0
   have cR := hM.cR p.toNat (by omega)
   clear hM
   have h1' : 0 ≤ p := by omega
   have h2' : p < 64 := by omega
   go_enter Tryd.func90, Tryd.ntmps90
   go_wp2
   go_ret
   refine ⟨?_, rfl⟩
   have : ¬ (p < 0 ∨ 64 ≤ p) := by omega
   simp [Mem.rights, this]
end Go.Proofs.YtjkolegknpflfaaDoor
