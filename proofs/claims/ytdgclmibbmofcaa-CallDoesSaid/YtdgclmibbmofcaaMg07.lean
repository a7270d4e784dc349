/-
  A region whose order of operations is drawn, some of which lay new blocks at whatever time (their addresses are not known ahead). No condition; no program here.
-/
import Derived.Test.YtdgclmibbmofcaaMg06
import Derived.Recover
import Derived.Test.YtdgclmibbmofcaaMg01
import Derived.Maps.AppendAt
import Derived.OwnWalk
import Derived.ChangeSlices
import Derived.Test.YtdgclmibbmofcaaMg03
import Derived.Test.YtdgclmibbmofcaaMg04
import Derived.Laws.BytesArg
import Derived.Test.YtdgclmibbmofcaaMg05
namespace Go.Proofs.Ytdgclmibbmofcaa
open Go Go.RowKit
set_option linter.unusedVariables false
set_option linter.unusedSimpArgs false

/-- The values of the operations that lay new blocks. -/
def updV (r : Nat → Value) (i : Nat) (v : Value) : Nat → Value := fun j => if j = i then v else r j

/-- The frame at the head's end, the new blocks' values put in. -/
def fillE (ops : Array Oper) (r : Nat → Value) : List Nat → Act → Act
  | [], F => F
  | j :: l, F => (fillE ops r l F).put ((ops[j]?).bind (·.dst)) (r j)

theorem fillE_size (ops : Array Oper) (r : Nat → Value) (F : Act) : ∀ l, (fillE ops r l F).tmps.size = F.tmps.size
  | [] => rfl
  | j :: l => by rw [fillE, put_size, fillE_size]
theorem fillE_defers (ops : Array Oper) (r : Nat → Value) (F : Act) : ∀ l, (fillE ops r l F).defers = F.defers
  | [] => rfl
  | j :: l => by rw [fillE, put_defers', fillE_defers]

theorem fillE_far (ops : Array Oper) (r : Nat → Value) (F : Act) (t : Tmp) : ∀ l, (∀ j, j ∈ l → (ops[j]?).bind (·.dst) ≠ some t) → (fillE ops r l F).tmps[t]? = F.tmps[t]?
  | [], _ => rfl
  | j :: l, h => by rw [fillE, put_same _ _ _ _ (h j (by simp)), fillE_far ops r F t l (fun k hk => h k (by simp [hk]))]

theorem fillE_at (ops : Array Oper) (r : Nat → Value) (F : Act) (t : Tmp) (hs : t < F.tmps.size) (j : Nat) (hd : (ops[j]?).bind (·.dst) = some t) : ∀ l, j ∈ l → (∀ k, k ∈ l → (ops[k]?).bind (·.dst) = some t → k = j) → (fillE ops r l F).tmps[t]? = some (r j)
  | [], h, _ => by cases h
  | k :: l, h, hu => by
    by_cases e : (ops[k]?).bind (·.dst) = some t
    · have := hu k (by simp) e
      subst this
      rw [fillE, e, put_new _ _ _ (by rw [fillE_size]; exact hs)]
    · rw [fillE, put_same _ _ _ _ e]
      refine fillE_at ops r F t hs j hd l ?_ (fun q hq => hu q (by simp [hq]))
      rcases List.mem_cons.1 h with rfl | h
      · exact absurd hd e
      · exact h

theorem outc_of_wpE {P : Program} {o : Oper} {a : Act} {w : World} {C : Value → World → Prop} {X : List PanicEntry → World → Prop} {t : Tmp} (ht : o.dst = some t) (hs : t < a.tmps.size)
    (h : o.wp P a w (fun a' w' => ∃ v, a' = a.put o.dst v ∧ C v w') (PX X)) : outc P o a w C X := by
  have hput : ∀ u v, a.put o.dst u = a.put o.dst v → u = v := fun u v he => same_of_put he t ht hs
  unfold Oper.wp at h
  unfold outc
  generalize (execOp a.eval o).run P w = r at *
  cases r with
  | ok n w' =>
    cases n
    case value u => obtain ⟨v, h1, h2⟩ := h; rw [hput _ _ h1]; exact h2
    case skip => obtain ⟨v, h1, h2⟩ := h; rw [hput _ _ h1]; exact h2
    case defer d => obtain ⟨v, h1, h2⟩ := h; exact absurd h1 (put_defers_cons a o.dst undef v d)
    case enter f args =>
      refine Calls.mono h (fun e w'' he => ?_)
      cases e with
      | returned u => obtain ⟨v, h1, h2⟩ := he; show C u w''; rw [hput _ _ h1]; exact h2
      | panicked c => exact he
      | outgrown => obtain ⟨_, _, hf⟩ := he; exact hf
    case row row args => exact Rows.mono h (fun u w'' he => by obtain ⟨v, h1, h2⟩ := he; rw [hput _ _ h1]; exact h2)
    all_goals exact h
  | halt x w' =>
    cases x
    case panic v => exact h
    all_goals exact h

/-- The head of a region, walked in the text's order. 'B': what holds of the world all along, whatever the operations done and the values of those that lay blocks; 'X': what a panic leaves. -/
def headE (P : Program) (ops : Array Oper) (B : (Nat → Bool) → (Nat → Value) → World → Prop) (X : List PanicEntry → World → Prop) (n : Nat) (fin : List Nat → List Nat → Act → Prop) : List Nat → List Nat → Nat → List Oper → Act → Prop
  | dead, free, _, [], a => fin dead free a
  | dead, free, i, o :: rest, a =>
    (deadDep dead o = true ∧ headE P ops B X n fin (i :: dead) free (i + 1) rest a) ∨
    (deadDep dead o = false ∧ (∀ r, Region.wanted o (yielded ops (fillE ops r free a).tmps) = true) ∧ ∃ v, (∀ d r w, d i = false → (∀ e ∈ o.after, Region.binds .any e = true → d e.on = true) → B d r w → o.wp P (fillE ops r free a) w (fun a' w' => a' = (fillE ops r free a).put o.dst v ∧ B (updD d i) r w') (PX X)) ∧ headE P ops B X n fin dead free (i + 1) rest (a.put o.dst v)) ∨
    (deadDep dead o = false ∧ (∀ r, Region.wanted o (yielded ops (fillE ops r free a).tmps) = true) ∧ (∀ d r w, d i = false → (∀ e ∈ o.after, Region.binds .any e = true → d e.on = true) → B d r w → o.wp P (fillE ops r free a) w (fun _ _ => False) (PX X)) ∧ headE P ops B X n fin (i :: dead) free (i + 1) rest a) ∨
    (deadDep dead o = false ∧ (∀ r, Region.wanted o (yielded ops (fillE ops r free a).tmps) = false) ∧ (∀ d r w, d i = false → B d r w → B (updD d i) r w) ∧ headE P ops B X n fin dead free (i + 1) rest (a.put o.dst undef)) ∨
    (deadDep dead o = false ∧ (∀ r, Region.wanted o (yielded ops (fillE ops r free a).tmps) = true) ∧ (∃ t, o.dst = some t ∧ t < a.tmps.size) ∧
      (∀ d r w, d i = false → (∀ e ∈ o.after, Region.binds .any e = true → d e.on = true) → B d r w → o.wp P (fillE ops r free a) w (fun a' w' => ∃ v, a' = (fillE ops r free a).put o.dst v ∧ B (updD d i) (updV r i v) w') (PX X)) ∧ headE P ops B X n fin dead (i :: free) (i + 1) rest a)

section
variable {P : Program} {ops : Array Oper} {B : (Nat → Bool) → (Nat → Value) → World → Prop} {X : List PanicEntry → World → Prop} {n : Nat} {fin : List Nat → List Nat → Act → Prop} {dead free : List Nat} {i : Nat} {o : Oper} {rest : List Oper} {a : Act}

theorem headE_nil (h : fin dead free a) : headE P ops B X n fin dead free i [] a := h

theorem headE_val {a2 : (Nat → Value) → Act} (hd : deadDep dead o = false) (hw : ∀ r, Region.wanted o (yielded ops (fillE ops r free a).tmps) = true)
    (h : ∀ (d : Nat → Bool) (r : Nat → Value) (K : Act → World → Prop), d i = false → (∀ e ∈ o.after, Region.binds .any e = true → d e.on = true) → (∀ w', B (updD d i) r w' → K (a2 r) w') → ∀ w, B d r w → o.wp P (fillE ops r free a) w K (PX X))
    {a3 : Act} (ha : ∃ v, (∀ r, a2 r = (fillE ops r free a).put o.dst v) ∧ a3 = a.put o.dst v) (k : headE P ops B X n fin dead free (i + 1) rest a3) : headE P ops B X n fin dead free i (o :: rest) a := by
  obtain ⟨v, hv, rfl⟩ := ha
  exact .inr (.inl ⟨hd, hw, v, fun d r w hdi hdep hB => h d r _ hdi hdep (fun w' hB' => ⟨hv r, hB'⟩) w hB, k⟩)

/-- .. ahead of all that lay blocks. -/
theorem headE_val0 {a2 : Act} (hd : deadDep dead o = false) (hw : Region.wanted o (yielded ops a.tmps) = true)
    (h : ∀ (d : Nat → Bool) (r : Nat → Value) (K : Act → World → Prop), d i = false → (∀ e ∈ o.after, Region.binds .any e = true → d e.on = true) → (∀ w', B (updD d i) r w' → K a2 w') → ∀ w, B d r w → o.wp P a w K (PX X))
    (ha : ∃ v, a2 = a.put o.dst v) (k : headE P ops B X n fin dead [] (i + 1) rest a2) : headE P ops B X n fin dead [] i (o :: rest) a := by
  obtain ⟨v, rfl⟩ := ha
  exact .inr (.inl ⟨hd, fun _ => hw, v, fun d r w hdi hdep hB => h d r _ hdi hdep (fun w' hB' => ⟨rfl, hB'⟩) w hB, k⟩)

/-- An operation that lays a block. -/
theorem headE_free (hd : deadDep dead o = false) (hw : ∀ r, Region.wanted o (yielded ops (fillE ops r free a).tmps) = true) (t : Tmp) (ht : o.dst = some t) (hs : t < a.tmps.size)
    (h : ∀ (d : Nat → Bool) (r : Nat → Value) (K : Act → World → Prop), d i = false → ∀ w, B d r w → (∀ v w', B (updD d i) (updV r i v) w' → K ((fillE ops r free a).put o.dst v) w') → o.wp P (fillE ops r free a) w K (PX X))
    (k : headE P ops B X n fin dead (i :: free) (i + 1) rest a) : headE P ops B X n fin dead free i (o :: rest) a :=
  .inr (.inr (.inr (.inr ⟨hd, hw, ⟨t, ht, hs⟩, fun d r w hdi _ hB => h d r _ hdi w hB (fun v w' hB' => ⟨v, rfl, hB'⟩), k⟩)))
end

/-- What the walk of the head tells of each operation, said in the frame at its end. -/
structure HeadResE (P : Program) (ops : Array Oper) (B : (Nat → Bool) → (Nat → Value) → World → Prop) (X : List PanicEntry → World → Prop) (i n : Nat) (dead free : List Nat) (a F : Act) (vs : Nat → Value) : Prop where
  live : ∀ (j : Nat) (o : Oper), i ≤ j → j < n → ops[j]? = some o → j ∉ dead → j ∉ free →
    deadDep dead o = false ∧ (((∀ r, Region.wanted o (yielded ops (fillE ops r free F).tmps) = true) ∧ ∀ d r w, d j = false → (∀ e ∈ o.after, Region.binds .any e = true → d e.on = true) → B d r w → outc P o (fillE ops r free F) w (fun v w' => same o.dst a.tmps.size v (vs j) ∧ B (updD d j) r w') X) ∨ ((∀ r, Region.wanted o (yielded ops (fillE ops r free F).tmps) = false) ∧ vs j = undef ∧ ∀ d r w, d j = false → B d r w → B (updD d j) r w))
  died : ∀ (j : Nat) (o : Oper), i ≤ j → j < n → ops[j]? = some o → j ∈ dead →
    deadDep dead o = true ∨ ((∀ r, Region.wanted o (yielded ops (fillE ops r free F).tmps) = true) ∧ ∀ d r w, d j = false → (∀ e ∈ o.after, Region.binds .any e = true → d e.on = true) → B d r w → outc P o (fillE ops r free F) w (fun _ _ => False) X)
  freed : ∀ (j : Nat) (o : Oper), i ≤ j → j < n → ops[j]? = some o → j ∈ free →
    j ∉ dead ∧ (∀ r, Region.wanted o (yielded ops (fillE ops r free F).tmps) = true) ∧ (∃ t, o.dst = some t ∧ t < a.tmps.size) ∧ ∀ d r w, d j = false → (∀ e ∈ o.after, Region.binds .any e = true → d e.on = true) → B d r w → outc P o (fillE ops r free F) w (fun v w' => B (updD d j) (updV r j v) w') X
  defers : F.defers = a.defers
  size : F.tmps.size = a.tmps.size
  old : ∀ t, (∀ (j : Nat) (oj : Oper), i ≤ j → j < n → ops[j]? = some oj → oj.dst = some t → j ∈ dead ∨ j ∈ free) → F.tmps[t]? = a.tmps[t]?
  new : ∀ (j : Nat) (oj : Oper) t, i ≤ j → j < n → ops[j]? = some oj → j ∉ dead → j ∉ free → oj.dst = some t → t < a.tmps.size → F.tmps[t]? = some (vs j)

theorem mark_mem {i : Nat} {dead dead' : List Nat} (h : ∀ d, d < i + 1 → (d ∈ dead' ↔ d ∈ i :: dead)) : i ∈ dead' ∧ ∀ d, d < i → (d ∈ dead' ↔ d ∈ dead) := by
  refine ⟨(h i (by omega)).2 (by simp), fun d hlt => ?_⟩
  rw [h d (by omega)]
  constructor
  · intro hm; rcases List.mem_cons.1 hm with rfl | hm
    · omega
    · exact hm
  · intro hm; exact List.mem_cons_of_mem _ hm

theorem mark_lt {i : Nat} {dead : List Nat} (hd : ∀ d, d ∈ dead → d < i) : ∀ d, d ∈ i :: dead → d < i + 1 := by
  intro d hm
  rcases List.mem_cons.1 hm with rfl | hm
  · omega
  · have := hd d hm; omega

theorem headE_ext {P : Program} {ops : Array Oper} {B : (Nat → Bool) → (Nat → Value) → World → Prop} {X : List PanicEntry → World → Prop} {n : Nat} {fin : List Nat → List Nat → Act → Prop} (hk : HeadOk ops n) :
    ∀ (l : List Oper) (i : Nat) (dead free : List Nat) (a : Act), (∀ j, j < l.length → l[j]? = ops[i + j]?) → i + l.length = n → (∀ d, d ∈ dead → d < i) → (∀ d, d ∈ free → d < i) → headE P ops B X n fin dead free i l a →
    ∃ (vs : Nat → Value) (dead' free' : List Nat) (F : Act), fin dead' free' F ∧ HeadResE P ops B X i n dead' free' a F vs ∧ (∀ d, d < i → (d ∈ dead' ↔ d ∈ dead)) ∧ (∀ d, d ∈ dead' → d < n) ∧ (∀ d, d < i → (d ∈ free' ↔ d ∈ free)) ∧ (∀ d, d ∈ free' → d < n)
  | [], i, dead, free, a, _, hn, hd, hfr, h => by
    have hin : i = n := by simpa using hn
    refine ⟨fun _ => undef, dead, free, a, h, ⟨?_, ?_, ?_, rfl, rfl, fun _ _ => rfl, ?_⟩, fun _ _ => Iff.rfl, fun d hdd => by have := hd d hdd; omega, fun _ _ => Iff.rfl, fun d hdd => by have := hfr d hdd; omega⟩
    · intro j o h1 h2; omega
    · intro j o h1 h2; omega
    · intro j o h1 h2; omega
    · intro j oj t h1 h2; omega
  | o :: l, i, dead, free, a, hl, hn, hd, hfr, h => by
    simp only [List.length_cons] at hn
    have ho : ops[i]? = some o := by simpa using (hl 0 (by simp)).symm
    have hin : i < n := by omega
    have hl' : ∀ j, j < l.length → l[j]? = ops[i + 1 + j]? := fun j hj => by
      have := hl (j + 1) (by simpa using hj)
      simpa [Nat.add_assoc, Nat.add_comm 1 j] using this
    have haft := hk.after i o hin ho
    have hd1 : ∀ d, d ∈ dead → d < i + 1 := fun d hm => by have := hd d hm; omega
    have hf1 : ∀ d, d ∈ free → d < i + 1 := fun d hm => by have := hfr d hm; omega
    have hdstn : ∀ (k : Nat) (t : Tmp), (ops[k]?).bind (·.dst) = some t → ∃ ok, ops[k]? = some ok ∧ ok.dst = some t := by
      intro k t hkd
      cases hok : ops[k]? with
      | none => rw [hok] at hkd; cases hkd
      | some ok => rw [hok] at hkd; exact ⟨ok, rfl, hkd⟩
    -- what the operation looks at stands to the end
    have hstay : ∀ (F b : Act) (dead' free' : List Nat) (vs : Nat → Value) (r : Nat → Value), HeadResE P ops B X (i + 1) n dead' free' b F vs → (∀ t, t ∈ o.looksAt ops → b.tmps[t]? = a.tmps[t]?) → b.tmps.size = a.tmps.size →
        (∀ d, d < i → (d ∈ free' ↔ d ∈ free)) → (∀ d, d ∈ free' → d < n) → ∀ t, t ∈ o.looksAt ops → (fillE ops r free a).tmps[t]? = (fillE ops r free' F).tmps[t]? := by
      intro F b dead' free' vs r hr hb hbs hfi hfn t ht
      have hlt : ∀ k, k < n → (ops[k]?).bind (·.dst) = some t → k < i := fun k hkn hkd => by
        obtain ⟨ok, h1, h2⟩ := hdstn k t hkd
        exact (hk.looks i o k ok t hin ho hkn h1 h2 ht).1
      have hFa : F.tmps[t]? = a.tmps[t]? := by
        rw [hr.old t (fun j oj h1 h2 h3 h4 => absurd (hk.looks i o j oj t hin ho h2 h3 h4 ht).1 (by omega)), hb t ht]
      by_cases he : ∃ k, k ∈ free ∧ (ops[k]?).bind (·.dst) = some t
      · obtain ⟨k, hkf, hkd⟩ := he
        obtain ⟨ok, h1, h2⟩ := hdstn k t hkd
        have hkn : k < n := by have := hfr k hkf; omega
        have hki : k < i := hfr k hkf
        have hu : ∀ (fr : List Nat), (∀ d, d ∈ fr → d < n) → ∀ q, q ∈ fr → (ops[q]?).bind (·.dst) = some t → q = k := by
          intro fr hfrn q hq hqd
          obtain ⟨oq, g1, g2⟩ := hdstn q t hqd
          exact hk.dst q oq k ok t (hfrn q hq) g1 hkn h1 h2 g2
        by_cases hts : t < a.tmps.size
        · rw [fillE_at ops r a t hts k hkd free hkf (hu free (fun d hd => Nat.lt_trans (hfr d hd) hin)), fillE_at ops r F t (by rw [hr.size, hbs]; exact hts) k hkd free' ((hfi k hki).2 hkf) (hu free' hfn)]
        · rw [Array.getElem?_eq_none (by rw [fillE_size]; exact Nat.le_of_not_lt hts), Array.getElem?_eq_none (by rw [fillE_size, hr.size, hbs]; exact Nat.le_of_not_lt hts)]
      · rw [fillE_far ops r a t free (fun k hkf hkd => he ⟨k, hkf, hkd⟩), fillE_far ops r F t free' (fun k hkf hkd => he ⟨k, (hfi k (hlt k (hfn k hkf) hkd)).1 hkf, hkd⟩), hFa]
    have hput : ∀ (v : Value) t, t ∈ o.looksAt ops → (a.put o.dst v).tmps[t]? = a.tmps[t]? := fun v t ht =>
      put_same _ _ _ _ (fun he => absurd (hk.looks i o i o t hin ho hin ho he ht).1 (by omega))
    rcases h with ⟨hdd, h⟩ | ⟨hdd, hw, v, hv, h⟩ | ⟨hdd, hw, hv, h⟩ | ⟨hdd, hw, hsk, h⟩ | ⟨hdd, hw, htt, hv, h⟩
    · obtain ⟨vs, dead', free', F, hf, hr, hdi, hdn, hfi, hfn⟩ := headE_ext hk l (i + 1) (i :: dead) free a hl' (by omega) (mark_lt hd) hf1 h
      obtain ⟨hmem, hdi'⟩ := mark_mem hdi
      refine ⟨vs, dead', free', F, hf, ⟨?_, ?_, ?_, hr.defers, hr.size, ?_, ?_⟩, hdi', hdn, fun d hlt => hfi d (by omega), hfn⟩
      · intro j oj h1 h2 h3 h4
        by_cases e : j = i
        · subst e; exact absurd hmem h4
        · exact hr.live j oj (by omega) h2 h3 h4
      · intro j oj h1 h2 h3 h4
        by_cases e : j = i
        · subst e
          have : oj = o := Option.some.inj (h3.symm.trans ho)
          subst this
          left; rw [deadDep_iff haft hdi']; exact hdd
        · exact hr.died j oj (by omega) h2 h3 h4
      · intro j oj h1 h2 h3 h4
        by_cases e : j = i
        · subst e; have := hfr j ((hfi j (by omega)).1 h4); omega
        · exact hr.freed j oj (by omega) h2 h3 h4
      · intro t ht; exact hr.old t (fun j oj h1 => ht j oj (by omega))
      · intro j oj t h1 h2 h3 h4
        by_cases e : j = i
        · subst e; exact absurd hmem h4
        · exact hr.new j oj t (by omega) h2 h3 h4
    · obtain ⟨vs, dead', free', F, hf, hr, hdi, hdn, hfi, hfn⟩ := headE_ext hk l (i + 1) dead free _ hl' (by omega) hd1 hf1 h
      have hmem : i ∉ dead' := fun hm => by have := hd i ((hdi i (by omega)).1 hm); omega
      have hmef : i ∉ free' := fun hm => by have := hfr i ((hfi i (by omega)).1 hm); omega
      have hs := fun r => exec_same (hk.sel i o ho) (hstay F _ dead' free' vs r hr (hput v) (put_size _ _ _) (fun d hlt => hfi d (by omega)) hfn)
      refine ⟨fun j => if j = i then v else vs j, dead', free', F, hf, ⟨?_, ?_, ?_, by rw [hr.defers, put_defers'], by rw [hr.size, put_size], ?_, ?_⟩, fun d hlt => hdi d (by omega), hdn, fun d hlt => hfi d (by omega), hfn⟩
      · intro j oj h1 h2 h3 h4 h5
        by_cases e : j = i
        · subst e
          have : oj = o := Option.some.inj (h3.symm.trans ho)
          subst this
          refine ⟨by rw [deadDep_iff haft (fun d hlt => hdi d (by omega))]; exact hdd, .inl ⟨fun r => by rw [← (hs r).2]; exact hw r, fun d r w hd0 hdep hB => ?_⟩⟩
          rw [← outc_same (hs r).1]
          simp only [if_true]
          have := outc_of_wp (hv d r w hd0 hdep hB)
          rwa [fillE_size] at this
        · simp only [if_neg e]
          have := hr.live j oj (by omega) h2 h3 h4 h5
          rwa [put_size] at this
      · intro j oj h1 h2 h3 h4
        by_cases e : j = i
        · subst e; exact absurd h4 hmem
        · exact hr.died j oj (by omega) h2 h3 h4
      · intro j oj h1 h2 h3 h4
        by_cases e : j = i
        · subst e; exact absurd h4 hmef
        · have := hr.freed j oj (by omega) h2 h3 h4
          rwa [put_size] at this
      · intro t ht
        rw [hr.old t (fun j oj h1 => ht j oj (by omega)), put_same _ _ _ _ (fun he => by rcases ht i o (Nat.le_refl _) hin ho he with h | h; exact hmem h; exact hmef h)]
      · intro j oj t h1 h2 h3 h4 h4f h5 h6
        by_cases e : j = i
        · subst e
          have : oj = o := Option.some.inj (h3.symm.trans ho)
          subst this
          simp only [if_true]
          rw [hr.old t (fun k ok g1 g2 g3 g4 => absurd (hk.dst j oj k ok t h2 h3 g2 g3 g4 h5) (by omega)), h5, put_new _ _ _ h6]
        · simp only [if_neg e]; exact hr.new j oj t (by omega) h2 h3 h4 h4f h5 (by rw [put_size]; exact h6)
    · obtain ⟨vs, dead', free', F, hf, hr, hdi, hdn, hfi, hfn⟩ := headE_ext hk l (i + 1) (i :: dead) free a hl' (by omega) (mark_lt hd) hf1 h
      obtain ⟨hmem, hdi'⟩ := mark_mem hdi
      have hs := fun r => exec_same (hk.sel i o ho) (hstay F _ dead' free' vs r hr (fun _ _ => rfl) rfl (fun d hlt => hfi d (by omega)) hfn)
      refine ⟨vs, dead', free', F, hf, ⟨?_, ?_, ?_, hr.defers, hr.size, ?_, ?_⟩, hdi', hdn, fun d hlt => hfi d (by omega), hfn⟩
      · intro j oj h1 h2 h3 h4
        by_cases e : j = i
        · subst e; exact absurd hmem h4
        · exact hr.live j oj (by omega) h2 h3 h4
      · intro j oj h1 h2 h3 h4
        by_cases e : j = i
        · subst e
          have : oj = o := Option.some.inj (h3.symm.trans ho)
          subst this
          right
          refine ⟨fun r => by rw [← (hs r).2]; exact hw r, fun d r w hd0 hdep hB => ?_⟩
          rw [← outc_same (hs r).1]
          exact outc_of_dies (hv d r w hd0 hdep hB)
        · exact hr.died j oj (by omega) h2 h3 h4
      · intro j oj h1 h2 h3 h4
        by_cases e : j = i
        · subst e; have := hfr j ((hfi j (by omega)).1 h4); omega
        · exact hr.freed j oj (by omega) h2 h3 h4
      · intro t ht; exact hr.old t (fun j oj h1 => ht j oj (by omega))
      · intro j oj t h1 h2 h3 h4
        by_cases e : j = i
        · subst e; exact absurd hmem h4
        · exact hr.new j oj t (by omega) h2 h3 h4
    · obtain ⟨vs, dead', free', F, hf, hr, hdi, hdn, hfi, hfn⟩ := headE_ext hk l (i + 1) dead free _ hl' (by omega) hd1 hf1 h
      have hmem : i ∉ dead' := fun hm => by have := hd i ((hdi i (by omega)).1 hm); omega
      have hmef : i ∉ free' := fun hm => by have := hfr i ((hfi i (by omega)).1 hm); omega
      have hs := fun r => exec_same (hk.sel i o ho) (hstay F _ dead' free' vs r hr (hput undef) (put_size _ _ _) (fun d hlt => hfi d (by omega)) hfn)
      refine ⟨fun j => if j = i then undef else vs j, dead', free', F, hf, ⟨?_, ?_, ?_, by rw [hr.defers, put_defers'], by rw [hr.size, put_size], ?_, ?_⟩, fun d hlt => hdi d (by omega), hdn, fun d hlt => hfi d (by omega), hfn⟩
      · intro j oj h1 h2 h3 h4 h5
        by_cases e : j = i
        · subst e
          have : oj = o := Option.some.inj (h3.symm.trans ho)
          subst this
          refine ⟨by rw [deadDep_iff haft (fun d hlt => hdi d (by omega))]; exact hdd, .inr ⟨fun r => by rw [← (hs r).2]; exact hw r, by simp, hsk⟩⟩
        · simp only [if_neg e]
          have := hr.live j oj (by omega) h2 h3 h4 h5
          rwa [put_size] at this
      · intro j oj h1 h2 h3 h4
        by_cases e : j = i
        · subst e; exact absurd h4 hmem
        · exact hr.died j oj (by omega) h2 h3 h4
      · intro j oj h1 h2 h3 h4
        by_cases e : j = i
        · subst e; exact absurd h4 hmef
        · have := hr.freed j oj (by omega) h2 h3 h4
          rwa [put_size] at this
      · intro t ht
        rw [hr.old t (fun j oj h1 => ht j oj (by omega)), put_same _ _ _ _ (fun he => by rcases ht i o (Nat.le_refl _) hin ho he with h | h; exact hmem h; exact hmef h)]
      · intro j oj t h1 h2 h3 h4 h4f h5 h6
        by_cases e : j = i
        · subst e
          have : oj = o := Option.some.inj (h3.symm.trans ho)
          subst this
          simp only [if_true]
          rw [hr.old t (fun k ok g1 g2 g3 g4 => absurd (hk.dst j oj k ok t h2 h3 g2 g3 g4 h5) (by omega)), h5, put_new _ _ _ h6]
        · simp only [if_neg e]; exact hr.new j oj t (by omega) h2 h3 h4 h4f h5 (by rw [put_size]; exact h6)
    · obtain ⟨vs, dead', free', F, hf, hr, hdi, hdn, hfi, hfn⟩ := headE_ext hk l (i + 1) dead (i :: free) a hl' (by omega) hd1 (mark_lt hfr) h
      obtain ⟨hmem, hfi'⟩ := mark_mem hfi
      have hmed : i ∉ dead' := fun hm => by have := hd i ((hdi i (by omega)).1 hm); omega
      have hs := fun r => exec_same (hk.sel i o ho) (hstay F _ dead' free' vs r hr (fun _ _ => rfl) rfl hfi' hfn)
      refine ⟨vs, dead', free', F, hf, ⟨?_, ?_, ?_, hr.defers, hr.size, ?_, ?_⟩, fun d hlt => hdi d (by omega), hdn, hfi', hfn⟩
      · intro j oj h1 h2 h3 h4 h5
        by_cases e : j = i
        · subst e; exact absurd hmem h5
        · exact hr.live j oj (by omega) h2 h3 h4 h5
      · intro j oj h1 h2 h3 h4
        by_cases e : j = i
        · subst e; exact absurd h4 hmed
        · exact hr.died j oj (by omega) h2 h3 h4
      · intro j oj h1 h2 h3 h4
        by_cases e : j = i
        · subst e
          have : oj = o := Option.some.inj (h3.symm.trans ho)
          subst this
          obtain ⟨t, ht1, ht2⟩ := htt
          refine ⟨hmed, fun r => by rw [← (hs r).2]; exact hw r, ⟨t, ht1, ht2⟩, fun d r w hd0 hdep hB => ?_⟩
          rw [← outc_same (hs r).1]
          exact outc_of_wpE ht1 (by rw [fillE_size]; exact ht2) (hv d r w hd0 hdep hB)
        · exact hr.freed j oj (by omega) h2 h3 h4
      · intro t ht; exact hr.old t (fun j oj h1 => ht j oj (by omega))
      · intro j oj t h1 h2 h3 h4 h5
        by_cases e : j = i
        · subst e; exact absurd hmem h5
        · exact hr.new j oj t (by omega) h2 h3 h4 h5

/-- Where the head stands. -/
structure DrawInvE (ops : Array Oper) (B : (Nat → Bool) → (Nat → Value) → World → Prop) (n : Nat) (dead free : List Nat) (a0 F : Act) (r : Nat → Value) (listed : Array Bool) (a : Act) (w : World) : Prop where
  head : HeadInv .any ops n listed
  world : B (doneD listed) r w
  defers : a.defers = a0.defers
  size : a.tmps.size = a0.tmps.size
  live : ∀ (j : Nat), j < n → listed.getD j false = true → j ∉ dead
  old : ∀ t, (∀ (j : Nat) (oj : Oper), j < n → ops[j]? = some oj → oj.dst = some t → listed.getD j false = false) → a.tmps[t]? = a0.tmps[t]?
  new : ∀ (j : Nat) (oj : Oper) t, j < n → ops[j]? = some oj → j ∉ free → listed.getD j false = true → oj.dst = some t → a.tmps[t]? = F.tmps[t]?
  newf : ∀ (j : Nat) (oj : Oper) t, j < n → ops[j]? = some oj → j ∈ free → listed.getD j false = true → oj.dst = some t → a.tmps[t]? = some (r j)

theorem drawE_go {P : Program} {ops : Array Oper} {B : (Nat → Bool) → (Nat → Value) → World → Prop} {X : List PanicEntry → World → Prop} {Q : Exit → Act → World → Prop} {n : Nat} {dead free : List Nat} {a0 F : Act} {vs : Nat → Value}
    (hk : HeadOk ops n) (hr : HeadResE P ops B X 0 n dead free a0 F vs) (hdn : ∀ d, d ∈ dead → d < n) (hfn : ∀ d, d ∈ free → d < n)
    (hwait : ∀ listed, HeadInv .any ops n listed → ∀ i, i < n → listed.getD i true = false → ∀ t, n ≤ t → t ∉ Region.ready .any ops listed)
    (hX : ∀ c a' w', X c w' → a'.defers = a0.defers → a'.tmps.size = a0.tmps.size → (∀ t, (∀ (j : Nat) (oj : Oper), j < n → ops[j]? = some oj → oj.dst ≠ some t) → a'.tmps[t]? = a0.tmps[t]?) → Q (.panic c) a' w')
    (hfin : ∀ listed r w, HeadInv .any ops n listed → (∀ i, i < n → listed.getD i true = true) → dead = [] → B (doneD listed) r w → wpAny P .any ops Q (ops.size - n) listed (fillE ops r free F) w) :
    ∀ (m : Nat) (r : Nat → Value) (listed : Array Bool) (a : Act) (w : World), undone n listed = m → DrawInvE ops B n dead free a0 F r listed a w → wpAny P .any ops Q (m + (ops.size - n)) listed a w
  | 0, r, listed, a, w, hm, inv => by
    have hall := undone_zero hm
    have hall' : ∀ i, i < n → listed.getD i false = true := fun i hi => by
      have h1 := hall i hi
      have h2 : i < listed.size := by rw [inv.head.size]; have := hk.le; omega
      simp [h2] at h1 ⊢; exact h1
    have hdead : dead = [] := by
      cases hde : dead with
      | nil => rfl
      | cons d r =>
        have hd : d ∈ dead := by rw [hde]; simp
        exact absurd hd (inv.live d (hdn d hd) (hall' d (hdn d hd)))
    have hF : a = fillE ops r free F := by
      have h1 : a.tmps = (fillE ops r free F).tmps := by
        apply Array.ext_getElem?
        intro t
        by_cases h : ∃ (j : Nat) (oj : Oper), j < n ∧ ops[j]? = some oj ∧ oj.dst = some t
        · obtain ⟨j, oj, h1, h2, h3⟩ := h
          have hu : ∀ k, k ∈ free → (ops[k]?).bind (·.dst) = some t → k = j := by
            intro k hkf hkd
            cases hok : ops[k]? with
            | none => rw [hok] at hkd; cases hkd
            | some ok =>
              rw [hok] at hkd
              exact hk.dst k ok j oj t (hfn k hkf) hok h1 h2 h3 hkd
          by_cases hf : j ∈ free
          · obtain ⟨_, _, ⟨t', ht1, ht2⟩, _⟩ := hr.freed j oj (Nat.zero_le _) h1 h2 hf
            have : t' = t := by rw [ht1] at h3; injection h3
            subst this
            rw [inv.newf j oj t' h1 h2 hf (hall' j h1) h3, fillE_at ops r F t' (by rw [hr.size]; exact ht2) j (by rw [h2]; exact h3) free hf hu]
          · rw [inv.new j oj t h1 h2 hf (hall' j h1) h3, fillE_far ops r F t free (fun k hkf hkd => hf (by rw [← hu k hkf hkd]; exact hkf))]
        · rw [inv.old t (fun j oj h1 h2 h3 => absurd ⟨j, oj, h1, h2, h3⟩ h), fillE_far ops r F t free (fun k hkf hkd => ?_), hr.old t (fun j oj _ h1 h2 h3 => absurd ⟨j, oj, h1, h2, h3⟩ h)]
          cases hok : ops[k]? with
          | none => rw [hok] at hkd; cases hkd
          | some ok => rw [hok] at hkd; exact h ⟨k, ok, hfn k hkf, hok, hkd⟩
      have h2 : a.defers = (fillE ops r free F).defers := by rw [inv.defers, fillE_defers, hr.defers]
      revert h1 h2
      generalize fillE ops r free F = G
      intro h1 h2
      cases a; cases G; simp_all
    rw [Nat.zero_add, hF]
    exact hfin listed r w inv.head hall hdead inv.world
  | m + 1, r, listed, a, w, hm, inv => by
    rw [show m + 1 + (ops.size - n) = (m + (ops.size - n)) + 1 by omega]
    obtain ⟨i0, hi0, hun0⟩ : ∃ i, i < n ∧ listed.getD i true = false := by
      have : (List.range n).countP (fun i => !listed.getD i true) ≠ 0 := by
        show undone n listed ≠ 0
        omega
      rw [Ne, List.countP_eq_zero] at this
      simp only [Classical.not_forall] at this
      obtain ⟨i, hi, h⟩ := this
      exact ⟨i, List.mem_range.1 hi, by simpa using h⟩
    have hrd := some_ready hk inv.head.size i0 hi0 hun0
    refine ⟨fun h0 => ?_, fun i hi => ?_⟩
    · obtain ⟨j, _, hj⟩ := hrd
      rw [h0] at hj; cases hj
    · have hin : i < n := by
        rcases Nat.lt_or_ge i n with h | h
        · exact h
        · exact absurd hi (hwait listed inv.head i0 hi0 hun0 i h)
      obtain ⟨hun, o, ho, hall⟩ := mem_ready.1 hi
      have hunf : listed.getD i false = false := getD_both hun
      have hm' := undone_set hin hun
      have hlt : i < listed.size := by rw [inv.head.size]; have := hk.le; omega
      -- what the operation looks at is as in the frame at the head's end
      have hlook : ∀ t, t ∈ o.looksAt ops → a.tmps[t]? = (fillE ops r free F).tmps[t]? := by
        intro t ht
        by_cases h : ∃ (j : Nat) (oj : Oper), j < n ∧ ops[j]? = some oj ∧ oj.dst = some t
        · obtain ⟨j, oj, h1, h2, h3⟩ := h
          obtain ⟨_, e, he, hb, hon⟩ := hk.looks i o j oj t hin ho h1 h2 h3 ht
          have hlj : listed.getD j false = true := by rw [← hon]; exact hall e he hb
          have hu : ∀ k, k ∈ free → (ops[k]?).bind (·.dst) = some t → k = j := by
            intro k hkf hkd
            cases hok : ops[k]? with
            | none => rw [hok] at hkd; cases hkd
            | some ok =>
              rw [hok] at hkd
              exact hk.dst k ok j oj t (hfn k hkf) hok h1 h2 h3 hkd
          by_cases hf : j ∈ free
          · obtain ⟨_, _, ⟨t', ht1, ht2⟩, _⟩ := hr.freed j oj (Nat.zero_le _) h1 h2 hf
            have : t' = t := by rw [ht1] at h3; injection h3
            subst this
            rw [inv.newf j oj t' h1 h2 hf hlj h3, fillE_at ops r F t' (by rw [hr.size]; exact ht2) j (by rw [h2]; exact h3) free hf hu]
          · rw [inv.new j oj t h1 h2 hf hlj h3, fillE_far ops r F t free (fun k hkf hkd => hf (by rw [← hu k hkf hkd]; exact hkf))]
        · rw [inv.old t (fun j oj h1 h2 h3 => absurd ⟨j, oj, h1, h2, h3⟩ h), fillE_far ops r F t free (fun k hkf hkd => ?_), hr.old t (fun j oj _ h1 h2 h3 => absurd ⟨j, oj, h1, h2, h3⟩ h)]
          cases hok : ops[k]? with
          | none => rw [hok] at hkd; cases hkd
          | some ok => rw [hok] at hkd; exact h ⟨k, ok, hfn k hkf, hok, hkd⟩
      have hs := exec_same (hk.sel i o ho) hlook
      have hnd : deadDep dead o = false := by
        rw [Bool.eq_false_iff]
        intro hd
        simp only [deadDep, List.any_eq_true, Bool.and_eq_true, List.contains_iff_mem, Array.mem_toList_iff] at hd
        obtain ⟨e, he, hb, hm⟩ := hd
        exact inv.live e.on (hdn _ hm) (hall e he hb) hm
      have hd0 : doneD listed i = false := hunf
      have hold : ∀ (v : Value) t, (∀ (j : Nat) (oj : Oper), j < n → ops[j]? = some oj → oj.dst = some t → (listed.setIfInBounds i true).getD j false = false) → (a.put o.dst v).tmps[t]? = a0.tmps[t]? := by
        intro v t ht
        have hne : o.dst ≠ some t := fun he => by
          have := ht i o hin ho he
          simp [hlt] at this
        rw [put_same _ _ _ _ hne]
        refine inv.old t fun j oj h1 h2 h3 => ?_
        have := ht j oj h1 h2 h3
        by_cases e : i = j
        · subst e; exact hunf
        · rwa [getD_set_ne false e] at this
      -- the next frame
      have hnext : ∀ (v : Value) (w' : World), B (updD (doneD listed) i) r w' → i ∉ dead → i ∉ free → same o.dst a0.tmps.size v (vs i) → DrawInvE ops B n dead free a0 F r (listed.setIfInBounds i true) (a.put o.dst v) w' := by
        intro v w' hB hnot hnf hv
        refine ⟨inv.head.set hi hin, by rw [doneD_set hlt]; exact hB, by rw [put_defers', inv.defers], by rw [put_size, inv.size], ?_, hold v, ?_, ?_⟩
        · intro j hj hl
          by_cases e : i = j
          · subst e; exact hnot
          · rw [getD_set_ne false e] at hl; exact inv.live j hj hl
        · intro j oj t h1 h2 h2f h3 h4
          by_cases e : i = j
          · subst e
            have : oj = o := Option.some.inj (h2.symm.trans ho)
            subst this
            rcases Nat.lt_or_ge t a.tmps.size with ht | ht
            · rw [h4, put_new _ _ _ ht, hr.new i oj t (Nat.zero_le _) hin ho hnot hnf h4 (by rw [← inv.size]; exact ht), hv t h4 (by rw [← inv.size]; exact ht)]
            · rw [Array.getElem?_eq_none (by rw [put_size]; exact ht), Array.getElem?_eq_none (by rw [hr.size, ← inv.size]; exact ht)]
          · rw [getD_set_ne false e] at h3
            have hne : o.dst ≠ some t := fun he => e (hk.dst i o j oj t hin ho h1 h2 h4 he)
            rw [put_same _ _ _ _ hne]
            exact inv.new j oj t h1 h2 h2f h3 h4
        · intro j oj t h1 h2 h2f h3 h4
          by_cases e : i = j
          · subst e; exact absurd h2f hnf
          · rw [getD_set_ne false e] at h3
            have hne : o.dst ≠ some t := fun he => e (hk.dst i o j oj t hin ho h1 h2 h4 he)
            rw [put_same _ _ _ _ hne]
            exact inv.newf j oj t h1 h2 h2f h3 h4
      have hnextf : ∀ (v : Value) (w' : World), B (updD (doneD listed) i) (updV r i v) w' → i ∉ dead → i ∈ free → DrawInvE ops B n dead free a0 F (updV r i v) (listed.setIfInBounds i true) (a.put o.dst v) w' := by
        intro v w' hB hnot hnf
        obtain ⟨_, _, ⟨t0, ht1, ht2⟩, _⟩ := hr.freed i o (Nat.zero_le _) hin ho hnf
        refine ⟨inv.head.set hi hin, by rw [doneD_set hlt]; exact hB, by rw [put_defers', inv.defers], by rw [put_size, inv.size], ?_, hold v, ?_, ?_⟩
        · intro j hj hl
          by_cases e : i = j
          · subst e; exact hnot
          · rw [getD_set_ne false e] at hl; exact inv.live j hj hl
        · intro j oj t h1 h2 h2f h3 h4
          by_cases e : i = j
          · subst e; exact absurd hnf h2f
          · rw [getD_set_ne false e] at h3
            have hne : o.dst ≠ some t := fun he => e (hk.dst i o j oj t hin ho h1 h2 h4 he)
            rw [put_same _ _ _ _ hne]
            exact inv.new j oj t h1 h2 h2f h3 h4
        · intro j oj t h1 h2 h2f h3 h4
          by_cases e : i = j
          · subst e
            have : oj = o := Option.some.inj (h2.symm.trans ho)
            subst this
            have : t0 = t := by rw [ht1] at h4; injection h4
            subst this
            rw [h4, put_new _ _ _ (by rw [inv.size]; exact ht2)]
            simp [updV]
          · rw [getD_set_ne false e] at h3
            have hne : o.dst ≠ some t := fun he => e (hk.dst i o j oj t hin ho h1 h2 h4 he)
            rw [put_same _ _ _ _ hne, inv.newf j oj t h1 h2 h2f h3 h4]
            simp only [updV]
            rw [if_neg (fun h => e h.symm)]
      have hpan : ∀ c w', X c w' → Q (.panic c) a w' := fun c w' hx =>
        hX c a w' hx inv.defers inv.size fun t ht => inv.old t fun j oj h1 h2 h3 => absurd h3 (ht j oj h1 h2)
      unfold wpOp
      simp only [ho]
      by_cases hde : i ∈ dead
      · rcases hr.died i o (Nat.zero_le _) hin ho hde with h | ⟨hw, h⟩
        · rw [h] at hnd; cases hnd
        · rw [if_pos (by rw [hs.2]; exact hw r)]
          refine .inl (wp_of_outc ?_)
          rw [outc_same hs.1]
          exact outc_mono (h _ r w hd0 hall inv.world) (fun _ _ hf => hf.elim) hpan
      · by_cases hfe : i ∈ free
        · obtain ⟨_, hw, _, h⟩ := hr.freed i o (Nat.zero_le _) hin ho hfe
          rw [if_pos (by rw [hs.2]; exact hw r)]
          refine .inl (wp_of_outc ?_)
          rw [outc_same hs.1]
          refine outc_mono (h _ r w hd0 hall inv.world) (fun v w' hv => ?_) hpan
          exact drawE_go hk hr hdn hfn hwait hX hfin m _ _ _ _ (by omega) (hnextf v w' hv hde hfe)
        · obtain ⟨_, ⟨hw, h⟩ | ⟨hw, h, hsk⟩⟩ := hr.live i o (Nat.zero_le _) hin ho hde hfe
          · rw [if_pos (by rw [hs.2]; exact hw r)]
            refine .inl (wp_of_outc ?_)
            rw [outc_same hs.1]
            refine outc_mono (h _ r w hd0 hall inv.world) (fun v w' hv => ?_) hpan
            exact drawE_go hk hr hdn hfn hwait hX hfin m _ _ _ _ (by omega) (hnext v w' hv.2 hde hfe hv.1)
          · rw [if_neg (by rw [hs.2, hw r]; simp)]
            exact drawE_go hk hr hdn hfn hwait hX hfin m _ _ _ _ (by omega) (hnext undef w (hsk _ r w hd0 inv.world) hde hfe (fun _ _ _ => h.symm))

/-- A REGION THAT DRAWS ITS ORDER, and lays blocks: n operations in whatever order, then the tail. -/
theorem wp_drawE {P : Program} {id : Nat} {Q : Exit → Act → World → Prop} {a : Act} {w : World} {l : List Oper} (n : Nat) (B : (Nat → Bool) → (Nat → Value) → World → Prop) (X : List PanicEntry → World → Prop) (hm : P.follows .mixedOrders = true) (hok : drawOk l.toArray n = true)
    (hB : ∀ r, B (fun _ => false) r w.drew)
    (hX : ∀ c a' w', X c w' → a'.defers = a.defers → a'.tmps.size = a.tmps.size → (∀ t, noDst l n t = true → a'.tmps[t]? = a.tmps[t]?) → Q (.panic c) a' w')
    (h : headE P l.toArray B X n (fun dead free F => dead = [] → ∀ r w1 d, (∀ j, j < n → d j = true) → B d r w1 → wpList P l.toArray Q (l.drop n) (fillE l.toArray r free F) w1) [] [] 0 (l.take n) a) : (Code.region id l.toArray true).wp P Q a w := by
  simp only [drawOk, Bool.and_eq_true, Bool.or_eq_true, decide_eq_true_eq] at hok
  obtain ⟨⟨hh, ht⟩, hq⟩ := hok
  have hk := headOk_spec hh
  have hle : n ≤ l.length := by simpa using hk.le
  have htl : (l.take n).length = n := by simp; omega
  obtain ⟨vs, dead, free, F, hf, hr, _, hdn, _, hfn⟩ := headE_ext hk (l.take n) 0 [] [] a (fun j hj => by
    have hj' : j < n := by rw [htl] at hj; exact hj
    simp [hj']) (by simpa using htl) (by simp) (by simp) h
  have hun : undone n (Array.replicate l.toArray.size false) = n := by
    have : ∀ i, i ∈ List.range n → (!(Array.replicate l.toArray.size false).getD i true) = true := fun i hi => by
      have hi' : i < l.toArray.size := by have := List.mem_range.1 hi; simp; omega
      have hi'' : i < l.length := by simpa using hi'
      simp [hi'']
    unfold undone
    rw [List.countP_eq_length.2 this, List.length_range]
  have inv0 : HeadInv .any l.toArray n (Array.replicate l.toArray.size false) :=
    ⟨by simp, fun j oj _ hl => (by rw [getD_replicate_false] at hl; cases hl), fun t _ ht => getD_in (by simpa using ht) (getD_replicate_false _ _)⟩
  have hgo := drawE_go (Q := Q) hk hr hdn hfn ?_ (fun c a' w' hx h1 h2 h3 => hX c a' w' hx h1 h2 fun t ht' => h3 t fun j oj g1 g2 => noDst_spec ht' j oj g1 (by simpa using g2)) ?_ n (fun _ => undef) _ a w.drew hun
    ⟨inv0, by rw [doneD_none]; exact hB _, rfl, rfl, fun j _ hl => (by rw [getD_replicate_false] at hl; cases hl), fun _ _ => rfl, fun j oj t _ _ _ hl => (by rw [getD_replicate_false] at hl; cases hl), fun j oj t _ _ _ hl => (by rw [getD_replicate_false] at hl; cases hl)⟩
  · refine wp_region_any hm ?_
    rw [show n + (l.toArray.size - n) = l.toArray.size by simp; omega] at hgo
    exact hgo
  · intro listed inv i hi hun t hnt
    rcases ht with ht | ⟨⟨h1, h2⟩, h3⟩
    · intro hrd
      obtain ⟨_, o, ho, _⟩ := mem_ready.1 hrd
      have := (Array.getElem?_eq_some_iff.1 ho).1
      omega
    · exact tail_waits h2 h3 h1 inv _ i rfl hi hun t hnt
  · intro listed r w1 inv hall hd hBw
    have hlst : listed = Array.replicate n true ++ Array.replicate (l.toArray.size - n) false := by
      apply Array.ext
      · rw [inv.size]; simp; omega
      · intro i h1 h2
        by_cases hi : i < n
        · have := hall i hi
          simp [h1] at this
          rw [this, Array.getElem_append_left (by simpa using hi)]
          simp
        · have := inv.tail i (by omega) (by rw [← inv.size]; exact h1)
          simp [h1] at this
          rw [this, Array.getElem_append_right (by simpa using hi)]
          simp
    have hdl : (l.drop n).length = l.toArray.size - n := by simp
    have := wpAny_of_seq (md := .any) (P := P) (ops := l.toArray) (Q' := Q) (l.drop n) n listed (fillE l.toArray r free F) w1 (fun j => by simp [List.getElem?_drop]) (by rw [hdl, hlst]; exact hq) (hf hd r w1 (doneD listed) (fun j hj => by
      have h1 := hall j hj
      have h2 : j < listed.size := by rw [inv.size]; have := hk.le; omega
      simp only [doneD]
      simp [h2] at h1 ⊢; exact h1) hBw)
    rwa [hdl] at this

end Go.Proofs.Ytdgclmibbmofcaa

/-
  Package decode: the deferred recovery of Decode, Decode, Kind: each by its contract.
-/
namespace Go.Proofs.Ytdgclmibbmofcaa
open Go Go.RowKit
set_option linter.unusedVariables false
set_option linter.unusedSimpArgs false

/-- A slice of bytes as an argument. -/
structure BArg (w : World) (v : Value) (L : List Int) (g : Nat) : Prop where
  b : BySl w v L g
  n : L.length ≤ maxLen
  r : BOk L
  c : ∀ b n c, v = .slice b n c → n ≤ c
  g : g ≤ w.heap.size

end Go.Proofs.Ytdgclmibbmofcaa

/-
  Slices of bytes: those that a law is given, those that it makes itself, grown by append. No condition.
-/
namespace Go.Proofs.Ytdgclmibbmofcaa
open Go Go.RowKit Go.WideShapes Go.ChangeShapes
set_option linter.unusedVariables false
set_option linter.unusedSimpArgs false

theorem BOk.take {L : List Int} (h : BOk L) (n : Nat) : BOk (L.take n) := by
  intro i
  rw [List.getD_eq_getElem?_getD, List.getElem?_take]
  split
  · rw [← List.getD_eq_getElem?_getD]; exact h i
  · simp

theorem BArg.keep {w w' : World} {v : Value} {L : List Int} {g : Nat} (h : BArg w v L g) (u : Upd [] w w') : BArg w' v L g :=
  ⟨h.b.keep u (by simp), h.n, h.r, h.c, Nat.le_trans h.g u.size⟩

/-- A row of bytes of the walk's own. -/
def Own (w : World) (base : Nat) (v : Value) (L : List Int) : Prop := w.ownsRow base 5 1 v L.length (L.map (Value.int .u8))

theorem own_nil (w : World) (base : Nat) : Own w base (.slice none 0 0) [] := ⟨rfl, .inl ⟨rfl, rfl⟩⟩

theorem Own.keep {w w' : World} {base : Nat} {v : Value} {L : List Int} {S : List Nat} (h : Own w base v L) (u : Upd S w w') (hS : ∀ g, v.ownBlock = some g → g ∉ S) : Own w' base v L := by
  refine ⟨h.1, ?_⟩
  rcases h.2 with h0 | ⟨g, cap, cur, rfl, hb, hg, hr⟩
  · exact .inl h0
  · exact .inr ⟨g, cap, cur, rfl, hb, u.get hg (hS g rfl), hr⟩

theorem Own.block {w : World} {base : Nat} {v : Value} {L : List Int} (h : Own w base v L) : ∀ g, v.ownBlock = some g → base ≤ g ∧ g < w.heap.size := by
  intro g e
  rcases h.2 with ⟨rfl, _⟩ | ⟨g', cap, cur, rfl, hb, hg, hr⟩
  · cases e
  · simp only [Value.ownBlock, Option.some.injEq] at e
    subst e
    exact ⟨hb, lt_of_heap hg⟩

/-- What an append leaves. -/
structure Grew (w : World) (base : Nat) (v : Value) (L : List Int) (v' : Value) (w' : World) : Prop where
  o : Own w' base v' L
  u : Upd v.ownBlock.toList w w'
  b : v'.ownBlock = v.ownBlock ∨ v'.ownBlock = some w.heap.size

theorem run_append_by (w : World) (base : Nat) (ty : TypeId) (v : Value) (L : List Int) (hown : Own w base v L) (vb : Value) (M : List Int) (g : Nat) (hb : BySl w vb M g) (hn : L.length + M.length ≤ 10000) (hbase : base ≤ w.heap.size) :
    ∃ v' w', (Builtin.append_ #[67, 67] ty #[v, vb]).run Try.prog w = .ok v' w' ∧ Grew w base v (L ++ M) v' w' := by
  obtain ⟨i, hi, hz0, hz1, hz2⟩ := info_parts info_u8
  have key : ∀ (a : Addr) (m c : Nat), M.length = m → (∀ j u, (M.map (Value.int .u8))[j]? = some u → w.cell? (a.add j) = some u) → ∃ v' w', (Builtin.append_ #[67, 67] ty #[v, .slice (some a) m c]).run Try.prog w = .ok v' w' ∧ Grew w base v (L ++ M) v' w' := by
    intro a m c hm hc
    subst hm
    obtain ⟨v', w', h1, h2, h3, _, h5⟩ := run_append_own_at (P := Try.prog) w base 67 ty 5 i _ 1 1 Try.underlying67 hi hz0 hz1 hz2 rfl (by decide) v L.length _ hown a M.length c (M.map (Value.int .u8)) (by simp) hc
      (by intro u hu; simp only [List.mem_map] at hu; obtain ⟨z, _, rfl⟩ := hu; rfl) (by unfold maxLen; omega) (by omega) hbase
    refine ⟨v', w', h1, ?_, Upd.of_grown h3, h5⟩
    unfold Own
    rw [List.length_append, List.map_append]
    exact h2
  rcases hb with ⟨rfl, rfl⟩ | ⟨o, c, C, T, f, rfl, hg, hc⟩
  · refine ⟨v, w, ?_, ?_, Upd.refl _ _, .inl rfl⟩
    · rcases hown.2 with ⟨rfl, h0⟩ | ⟨g, cap, cur, rfl, _, _, hnc, _⟩
      · simp [Builtin.append_, run_underlying Try.underlying67, sizeOf, typeInfo, hi, Builtin.lenOf, Builtin.firstCells]
      · simp [Builtin.append_, run_underlying Try.underlying67, sizeOf, typeInfo, hi, Builtin.lenOf, Builtin.firstCells, hnc, storeCells]
    · rw [List.append_nil]; exact hown
  · refine key _ _ _ rfl fun j u hu => ?_
    have hj : j < M.length := by
      have := (List.getElem?_eq_some_iff.1 hu).1
      simpa using this
    rw [Addr.add_lit, cells_of hg, hc j hj]
    rw [List.getElem?_map, List.getElem?_eq_getElem hj] at hu
    simp only [Option.map_some, Option.some.injEq] at hu
    rw [List.getD_eq_getElem?_getD, List.getElem?_eq_getElem hj, Option.getD_some, hu]

theorem wpList_append_by {ops : Array Oper} {rest : List Oper} {o : Oper} {a : Act} {w : World} {Q : Exit → Act → World → Prop} (hgd : o.guard = none) (s x : Operand)
    (ho : o.op = .call { callee := .builtin .append, args := #[s, x], argTypes := #[67, 67] })
    (base : Nat) (v : Value) (L : List Int) (hs : a.eval s = v) (hown : Own w base v L) (vb : Value) (M : List Int) (g : Nat) (hx : a.eval x = vb) (hb : BySl w vb M g) (hn : L.length + M.length ≤ 10000) (hbase : base ≤ w.heap.size)
    (h : ∀ v' w', Grew w base v (L ++ M) v' w' → wpList Try.prog ops Q rest (a.put o.dst v') w') : wpList Try.prog ops Q (o :: rest) a w := by
  refine wpList_plain hgd fun _ hK => ?_
  obtain ⟨v', w', hr, h2⟩ := run_append_by w base o.type v L hown vb M g hb hn hbase
  unfold Oper.wp execOp
  simp only [ho, resolve, invoke, builtin, Sem.run_bind, Sem.run_pure, Result.andThen_ok, List.map_toArray, List.map_cons, List.map_nil, hs, hx, hr]
  exact hK _ _ (h v' w' h2)

end Go.Proofs.Ytdgclmibbmofcaa

/-
  Slices of bytes as strings. No condition.
-/
namespace Go.Proofs.Ytdgclmibbmofcaa
open Go Go.RowKit
set_option linter.unusedVariables false
set_option linter.unusedSimpArgs false

theorem strOf_ints (s : ByteArray) : strOfNums (strInts s) = s := by
  have e : (strInts s).map (fun n => UInt8.ofNat n.toNat) = s.data.toList := by
    rw [strInts, List.map_map]
    conv => rhs; rw [← List.map_id s.data.toList]
    apply List.map_congr_left
    intro b _
    simp
  rw [strOfNums, e]

/-- A slice of bytes of one's own, as a string. -/
theorem own_string {w : World} {base : Nat} {l : List Int} {v : Value} (h : w.ownsRow base 5 1 v l.length (l.map (Value.int .u8))) :
    (convert 67 9 v).run Try.prog w = .ok (.string (strOfNums l)) w := by
  have hk := h
  obtain ⟨_, ⟨h1, h2⟩ | ⟨g, cap, cur, h1, _⟩⟩ := h
  · have : l = [] := List.length_eq_zero_iff.1 h2
    subst this
    rw [h1]
    exact run_convert_bytes_nil w 67 5 (by kernel_rfl) (by kernel_rfl) _ _ _ (by kernel_rfl)
  · rw [h1]
    refine run_convert_bytes_arg w 67 5 (by kernel_rfl) (by kernel_rfl) g 0 _ cap l rfl (fun i hi => ?_) _ (by kernel_rfl)
    have := hk.cells (g := g) (by rw [h1]; rfl) i (.int .u8 (l.getD i 0)) (by rw [List.getElem?_map, List.getD_eq_getElem?_getD, List.getElem?_eq_getElem hi]; rfl)
    rw [Nat.zero_add]
    rcases i with _ | i <;> simpa [Addr.add] using this

/-- A slice of one's own reads as its bytes. -/
theorem own_bysl {w : World} {base : Nat} {l : List Int} {v : Value} (h : w.ownsRow base 5 1 v l.length (l.map (Value.int .u8))) : ∃ g, BySl w v l g := by
  rcases h.2 with ⟨h1, h0⟩ | ⟨g, cap, cur, h1, hb, hg, hnc, hcm, hs, ht⟩
  · exact ⟨0, .inl ⟨h1, List.length_eq_zero_iff.1 h0⟩⟩
  · refine ⟨g, .inr ⟨0, cap, cur, _, _, h1, hg, fun i hi => ?_⟩⟩
    have e : (cur.toList.take (l.length * 1))[i]? = some (.int .u8 (l.getD i 0)) := by
      rw [ht, List.getElem?_map, List.getD_eq_getElem?_getD, List.getElem?_eq_getElem hi]; rfl
    rw [Nat.mul_one, List.getElem?_take, if_pos hi, Array.getElem?_toList] at e
    rw [Nat.zero_add]; exact e

theorem bysl_string {w : World} {g : Nat} {l : List Int} {v : Value} (h : BySl w v l g) : (convert 67 9 v).run Try.prog w = .ok (.string (strOfNums l)) w := by
  rcases h with ⟨rfl, rfl⟩ | ⟨o, c, C, T, f, rfl, hb, hc⟩
  · exact run_convert_bytes_nil w 67 5 (by kernel_rfl) (by kernel_rfl) _ _ _ (by kernel_rfl)
  · refine run_convert_bytes_arg w 67 5 (by kernel_rfl) (by kernel_rfl) g o _ c l rfl (fun i hi => ?_) _ (by kernel_rfl)
    have e := hc i hi
    rw [← cells_of hb] at e
    rcases i with _ | i <;> simpa [Addr.add] using e

end Go.Proofs.Ytdgclmibbmofcaa

/-
  Package call: write (some bytes of the guest's are taken). No condition.
-/
namespace Go.Proofs.Ytdgclmibbmofcaa
open Go Go.RowKit
set_option linter.unusedVariables false
set_option linter.unusedSimpArgs false

theorem read1 (M : Mem) (x : Int) (h0 : 0 ≤ x) (h1 : x < 4294967296) : M.readK x 1 1 = M.can x 1 ∧ (M.can x 1 = true → M.readV x 1 1 = M.B x.toNat) := by
  have e1 : plus x 0 = x := by unfold plus; omega
  have e2 : (widthI 1).toNat = 1 := by decide
  have e3 : rightI 1 = 1 := by decide
  have hb : M.bad x (rightI 1) (widthI 1).toNat = if M.can x 1 = true then none else some 0 := by
    rw [e2, e3, Mem.bad]
    cases hc : M.can x 1
    · rw [if_neg (by decide), List.find?_range_eq_some]
      exact ⟨by rw [e1, hc]; rfl, by simp, fun t ht => by omega⟩
    · rw [if_pos rfl, List.find?_eq_none]
      intro t ht
      have : t = 0 := by simpa using ht
      subst this
      rw [e1, hc]; decide
  constructor
  · unfold Mem.readK; rw [hb]; cases M.can x 1 <;> rfl
  · intro h
    unfold Mem.readV
    rw [hb, if_pos h]
    show M.get x (widthI 1).toNat = _
    rw [e2]
    simp only [Mem.get]
    rw [e1]; simp
theorem byl_two (w : World) (O : Obj) (x : Int) (T : TypeId) : BySl ((w.alloc O).alloc (.cells #[.int .u8 x] T)) (.slice (some ⟨w.heap.size + 1, 0, none⟩) 1 1) [x] (w.heap.size + 1) := by
  refine .inr ⟨0, 1, #[.int .u8 x], T, _, rfl, heap_alloc2_new w _ _, fun i hi => ?_⟩
  have : i = 0 := by simpa using hi
  subst this; rfl
/-- Can so many bytes be read? -/
def wrK (M : Mem) (c : Int) (N : Nat) : Bool := (List.range N).all fun i => M.can (plus c i) 1
def wrR (M : Mem) (c d : Int) : Int := if wrK M c (min d 64).toNat = true then min d 64 else 4294967282
def wrS (M : Mem) (c d : Int) : ByteArray := if wrK M c (min d 64).toNat = true then strOfNums (M.peekL c (min d 64).toNat) else ByteArray.empty

theorem ownsRow_keep' {w w' : World} {base : Nat} {e : TypeId} {sz n : Nat} {v : Value} {xs : List Value} {S : List Nat} (h : w.ownsRow base e sz v n xs) (u : Upd S w w') (hS : ∀ g, v.ownBlock = some g → g ∉ S) : w'.ownsRow base e sz v n xs := by
  refine ⟨h.1, ?_⟩
  rcases h.2 with h0 | ⟨g, cap, cur, rfl, hb, hg, hr⟩
  · exact .inl h0
  · exact .inr ⟨g, cap, cur, rfl, hb, u.get hg (hS g rfl), hr⟩
theorem Own.form' {w : World} {base : Nat} {v : Value} {L : List Int} (h : Own w base v L) : ∃ a c, v = .slice a L.length c := by
  rcases h.2 with ⟨h1, h2⟩ | ⟨g, cap, cur, h1, _⟩
  · exact ⟨none, 0, by rw [h1, h2]⟩
  · exact ⟨_, _, h1⟩
set_option maxRecDepth 100000 in
set_option maxHeartbeats 4000000 in
theorem write_any (M : Mem) (a pb : Nat) (n b c d r : Int) (s : ByteArray) (w : World) (hM : IsMem w a pb M) (hc : 0 ≤ c ∧ c < 4294967296) (hd : 0 ≤ d ∧ d < 4294967296) :
    Calls Try.prog 25 #[.pointer (some ⟨a, 0, none⟩), .agg #[.int .u32 n, .int .u32 b, .int .u32 c, .int .u32 d, .int .u32 r, .string s]] w fun x w' => x = .returned (.tuple #[.int .u32 (wrR M c d), .string (wrS M c d)]) ∧ Upd [] w w' := by
  obtain ⟨N, hN⟩ : ∃ N, min d 64 = N := ⟨_, rfl⟩
  obtain ⟨RV, hRV⟩ : ∃ RV, wrR M c d = RV := ⟨_, rfl⟩
  obtain ⟨SV, hSV⟩ : ∃ SV, wrS M c d = SV := ⟨_, rfl⟩
  rw [hRV, hSV]
  unfold wrR at hRV
  unfold wrS at hSV
  rw [hN] at hRV hSV
  have HRS := Lib.hid (And.intro hRV hSV)
  clear hRV hSV
  have hN0 : 0 ≤ N ∧ N ≤ 64 := by omega
  have H := Lib.hid (And.intro hM (And.intro hc (And.intro hd hN0)))
  have HE := Lib.hid hN
  clear hM hc hd hN hN0
  go_enter Try.func25, Try.ntmps25
  go_wp2_with (go_at_call 47; refine (length_any ⟨n, b, c, d, r, s⟩ H.out.2.2.1 _).mono ?_; rintro e w1 ⟨rfl, hu⟩; rw [show min (⟨n, b, c, d, r, s⟩ : Ev).d 64 = N from HE.out]; have hcb := cells_of (hu.get (heap_alloc_new w (.cells #[.int .u32 n, .int .u32 b, .int .u32 c, .int .u32 d, .int .u32 r, .string s] 70)) (by simp)); have HU := Lib.hid (((Upd.refl [] w).alloc (.cells #[.int .u32 n, .int .u32 b, .int .u32 c, .int .u32 d, .int .u32 r, .string s] 70)).also hu (by simp)); clear hu)
  go_loopw [6, 13] (fun v i wr => ∃ q : Int, i = .int .i64 q ∧ Hid (0 ≤ q ∧ q ≤ N) ∧ Hid (∀ t, t < q.toNat → M.can (plus c t) 1 = true) ∧ Hid (Own wr w1.heap.size v (M.peekL c q.toNat)) ∧ Hid (Upd [] w1 wr)) (fun _ i _ => (N - intOf i).toNat)
  case atStart => exact ⟨0, rfl, Lib.hid ⟨Int.le_refl _, H.out.2.2.2.1⟩, Lib.hid (fun t ht => by simp at ht), Lib.hid (own_nil _ _), Lib.hid (Upd.refl _ _)⟩
  case round =>
    obtain ⟨q, rfl, hq, hno, ho, hU⟩ := hrel
    by_cases hlt : q < N
    · have dlt : decide (q < N) = true := by simp [hlt]
      have hqq := hq.out
      have h64 := H.out.2.2.2
      have e1 : q % 4294967296 = q := by omega
      obtain ⟨x, hx⟩ : ∃ x, plus c q.toNat = x := ⟨_, rfl⟩
      have hxr : 0 ≤ x ∧ x < 4294967296 := by rw [← hx]; unfold plus; omega
      have e2 : (c + q) % 4294967296 = x := by rw [← hx]; unfold plus; rw [show ((q.toNat : Nat) : Int) = q by omega]
      have hr1 := read1 M x hxr.1 hxr.2
      obtain ⟨F, hF⟩ : ∃ F, M.rdF x 1 1 = F := ⟨_, rfl⟩
      have hb1 : 0 ≤ q ∧ q < N := by omega
      have HB := Lib.hid (And.intro hx (And.intro hxr (And.intro hr1 (And.intro hF (And.intro hb1 h64)))))
      have hcw : wr.cell? ⟨w.heap.size, 2, none⟩ = some (.int .u32 c) := by
        have h1 : w.heap.size < w1.heap.size := by
          unfold World.cell? at hcb
          have := hcb 2
          by_cases hh : w.heap.size < w1.heap.size
          · exact hh
          · rw [Array.getElem?_eq_none (Nat.le_of_not_lt hh)] at this; simp at this
        rw [show wr.cell? ⟨w.heap.size, 2, none⟩ = w1.cell? ⟨w.heap.size, 2, none⟩ by unfold World.cell?; rw [hU.out.block _ h1 (by simp)], hcb 2]; rfl
      clear hcb hqq h64 hx hxr hr1 hF hlt
      obtain ⟨y, hy⟩ : ∃ y, M.B x.toNat = y := ⟨_, rfl⟩
      have hy2 : 0 ≤ y ∧ y ≤ 255 := by rw [← hy]; exact H.out.1.ok.B _
      have e3 : y % 256 = y := by omega
      have HY := Lib.hid hy
      clear hy hy2
      have tkA : True := trivial
      cases hcan : M.can x 1
      · have hno2 : wrK M c N.toNat = false := by
          rw [wrK, List.all_eq_false]
          exact ⟨q.toNat, by rw [List.mem_range]; have := HB.out.2.2.2.2.1; omega, by rw [HB.out.1, hcan]; decide⟩
        have HN := Lib.hid (And.intro hcan hno2)
        clear hcan hno2
        go_wp2_with (first | (go_at_call 50; refine (Read_any M a pb x 1 1 _ (H.out.1.keep (HU.out.also hU.out (by simp)) (by simp) (by simp)) HB.out.2.1.1 HB.out.2.1.2).mono ?_; rintro e w2 ⟨rfl, hu⟩; rw [HB.out.2.2.1.1, HN.out.1, Mem.readF_val, HB.out.2.2.2.1]; unfold Flt.val; have HU2 := Lib.hid (hU.out.also hu (by simp)); clear hu) | (go_at_call 28; refine (result_any (-14) (by decide) _).mono ?_; rintro e w3 ⟨rfl, hu⟩; have HU3 := Lib.hid hu; clear hu))
        go_ret2
        refine ⟨?_, HU.out.also ((HU2.out.alloc _).also HU3.out (by simp)) (by simp)⟩
        obtain ⟨h1, h2⟩ := HRS.out
        rw [HN.out.2] at h1 h2
        rw [← h1, ← h2]
        rfl
      · have HN := Lib.hid hcan
        clear hcan
        go_wp2_with (first | (go_at_call 50; refine (Read_any M a pb x 1 1 _ (H.out.1.keep (HU.out.also hU.out (by simp)) (by simp) (by simp)) HB.out.2.1.1 HB.out.2.1.2).mono ?_; rintro e w2 ⟨rfl, hu⟩; rw [HB.out.2.2.1.1, HN.out, Mem.readF_val, HB.out.2.2.2.1, HB.out.2.2.1.2 HN.out, HY.out]; unfold Flt.val; have HU2 := Lib.hid (And.intro (hU.out.also hu (by simp)) hu); clear hu) | (have _t := tkA; clear _t; at_builtin; refine wpList_append_by rfl _ _ rfl w1.heap.size u6 (M.peekL c q.toNat) rfl (ho.out.keep (S := []) ((HU2.out.2.alloc _).alloc _) (by simp)) (.slice (some ⟨w2.heap.size + 1, 0, none⟩) 1 1) [y] (w2.heap.size + 1) rfl (byl_two w2 _ _ _) (by have := HB.out.2.2.2.2; simp [Mem.peekL]; omega) ((HU2.out.1.alloc _).alloc _).size ?_; intro v' w4 hg; have HG := Lib.hid (And.intro hg (HU2.out.1.alloc (.cells #[.int .i64 F.k, .int .u32 F.pc, .int .u32 F.a, .int .i64 F.wt] 112) |>.alloc (.cells #[.int .u8 y] 5) |>.also hg.u (fun z hz => .inr ((ho.out.block z (by simpa using hz)).1)))); clear hg tkA))
        go_roundw
        case rel =>
          have z1 := HB.out.2.2.2.2
          refine ⟨q + 1, by first | rfl | rw [show wrap64 (q + 1) = q + 1 by unfold wrap64; omega], Lib.hid ⟨by omega, by omega⟩, Lib.hid fun t ht => ?_, Lib.hid ?_, Lib.hid HG.out.2⟩
          · by_cases e : t = q.toNat
            · subst e; rw [HB.out.1]; exact HN.out
            · exact hno.out t (by omega)
          · rw [show (q + 1).toNat = q.toNat + 1 by omega, peekL_succ, HB.out.1, HY.out]; exact HG.out.1.o
        case measure => have z1 := HB.out.2.2.2.2; first | (simp only [intOf]; omega) | (simp only [intOf, show wrap64 (q + 1) = q + 1 by unfold wrap64; omega]; omega)
    · have hqn : q = N := by have := hq.out; omega
      subst hqn
      have dlt : decide (q < q) = false := by simp
      have hall : wrK M c q.toNat = true := by
        rw [wrK, List.all_eq_true]
        exact fun t ht => hno.out t (List.mem_range.1 ht)
      have hlen : (M.peekL c q.toNat).length = q.toNat := by simp [Mem.peekL]
      obtain ⟨h1, h2⟩ := HRS.out
      rw [hall] at h1 h2
      have hv : RV = q ∧ SV = strOfNums (M.peekL c q.toNat) := ⟨h1.symm, h2.symm⟩
      have e1 : q % 4294967296 = q := by have := H.out.2.2.2; omega
      have hcv := fun n => own_string (ownsRow_keep' ho.out (Upd_drewN (Upd.refl [] wr) n) (by simp))
      obtain ⟨hr1, hr2⟩ := hv
      have hqc : ((q.toNat : Nat) : Int) = q := by have := H.out.2.2.2; omega
      obtain ⟨ua, uc, hfm⟩ := ho.out.form'
      subst hfm
      rw [hlen] at hcv ⊢
      subst hr1 hr2
      have HF := Lib.hid hU.out
      clear h1 h2 hall hlen hlt hcb
      go_upto_region 10 with fail
      go_quiet (fail)
      go_wp2_with fail
      go_ret2
      exact ⟨rfl, HU.out.also (Upd_drewN HF.out _) (by simp)⟩
end Go.Proofs.Ytdgclmibbmofcaa
