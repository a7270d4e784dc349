/-
  A region whose order of operations is drawn, some of which lay new blocks at whatever time (their addresses are not known ahead). No condition; no program here.
-/
import Derived.Test.YtoplekfnghkkdaaMg06
import Derived.Test.YtoplekfnghkkdaaMg09
namespace Go.Proofs.Ytoplekfnghkkdaa
open Go Go.RowKit
set_option linter.unusedVariables false
set_option linter.unusedSimpArgs false

/-- The values of the operations that lay new blocks. -/
def updV (r : Nat → Value) (i : Nat) (v : Value) : Nat → Value := fun j => if j = i then v else r j

/-- The frame at the head's end, the new blocks' values put in. -/
def fillE (ops : Array Oper) (r : Nat → Value) : List Nat → Act → Act
  | [], F => F
  | j :: l, F => (fillE ops r l F).put ((ops[j]?).bind (·.dst)) (r j)

theorem fillE_size (ops : Array Oper) (r : Nat → Value) (F : Act) : ∀ l, (fillE ops r l F).tmps.size = F.tmps.size
  | [] => rfl
  | j :: l => by rw [fillE, put_size, fillE_size]
theorem fillE_defers (ops : Array Oper) (r : Nat → Value) (F : Act) : ∀ l, (fillE ops r l F).defers = F.defers
  | [] => rfl
  | j :: l => by rw [fillE, put_defers', fillE_defers]

theorem fillE_far (ops : Array Oper) (r : Nat → Value) (F : Act) (t : Tmp) : ∀ l, (∀ j, j ∈ l → (ops[j]?).bind (·.dst) ≠ some t) → (fillE ops r l F).tmps[t]? = F.tmps[t]?
  | [], _ => rfl
  | j :: l, h => by rw [fillE, put_same _ _ _ _ (h j (by simp)), fillE_far ops r F t l (fun k hk => h k (by simp [hk]))]

theorem fillE_at (ops : Array Oper) (r : Nat → Value) (F : Act) (t : Tmp) (hs : t < F.tmps.size) (j : Nat) (hd : (ops[j]?).bind (·.dst) = some t) : ∀ l, j ∈ l → (∀ k, k ∈ l → (ops[k]?).bind (·.dst) = some t → k = j) → (fillE ops r l F).tmps[t]? = some (r j)
  | [], h, _ => by cases h
  | k :: l, h, hu => by
    by_cases e : (ops[k]?).bind (·.dst) = some t
    · have := hu k (by simp) e
      subst this
      rw [fillE, e, put_new _ _ _ (by rw [fillE_size]; exact hs)]
    · rw [fillE, put_same _ _ _ _ e]
      refine fillE_at ops r F t hs j hd l ?_ (fun q hq => hu q (by simp [hq]))
      rcases List.mem_cons.1 h with rfl | h
      · exact absurd hd e
      · exact h

theorem outc_of_wpE {P : Program} {o : Oper} {a : Act} {w : World} {C : Value → World → Prop} {X : List PanicEntry → World → Prop} {t : Tmp} (ht : o.dst = some t) (hs : t < a.tmps.size)
    (h : o.wp P a w (fun a' w' => ∃ v, a' = a.put o.dst v ∧ C v w') (PX X)) : outc P o a w C X := by
  have hput : ∀ u v, a.put o.dst u = a.put o.dst v → u = v := fun u v he => same_of_put he t ht hs
  unfold Oper.wp at h
  unfold outc
  generalize (execOp a.eval o).run P w = r at *
  cases r with
  | ok n w' =>
    cases n
    case value u => obtain ⟨v, h1, h2⟩ := h; rw [hput _ _ h1]; exact h2
    case skip => obtain ⟨v, h1, h2⟩ := h; rw [hput _ _ h1]; exact h2
    case defer d => obtain ⟨v, h1, h2⟩ := h; exact absurd h1 (put_defers_cons a o.dst undef v d)
    case enter f args =>
      refine Calls.mono h (fun e w'' he => ?_)
      cases e with
      | returned u => obtain ⟨v, h1, h2⟩ := he; show C u w''; rw [hput _ _ h1]; exact h2
      | panicked c => exact he
      | outgrown => obtain ⟨_, _, hf⟩ := he; exact hf
    case row row args => exact Rows.mono h (fun u w'' he => by obtain ⟨v, h1, h2⟩ := he; rw [hput _ _ h1]; exact h2)
    all_goals exact h
  | halt x w' =>
    cases x
    case panic v => exact h
    all_goals exact h

/-- The head of a region, walked in the text's order. 'B': what holds of the world all along, whatever the operations done and the values of those that lay blocks; 'X': what a panic leaves. -/
def headE (P : Program) (ops : Array Oper) (B : (Nat → Bool) → (Nat → Value) → World → Prop) (X : List PanicEntry → World → Prop) (n : Nat) (fin : List Nat → List Nat → Act → Prop) : List Nat → List Nat → Nat → List Oper → Act → Prop
  | dead, free, _, [], a => fin dead free a
  | dead, free, i, o :: rest, a =>
    (deadDep dead o = true ∧ headE P ops B X n fin (i :: dead) free (i + 1) rest a) ∨
    (deadDep dead o = false ∧ (∀ r, Region.wanted o (yielded ops (fillE ops r free a).tmps) = true) ∧ ∃ v, (∀ d r w, d i = false → (∀ e ∈ o.after, Region.binds .any e = true → d e.on = true) → B d r w → o.wp P (fillE ops r free a) w (fun a' w' => a' = (fillE ops r free a).put o.dst v ∧ B (updD d i) r w') (PX X)) ∧ headE P ops B X n fin dead free (i + 1) rest (a.put o.dst v)) ∨
    (deadDep dead o = false ∧ (∀ r, Region.wanted o (yielded ops (fillE ops r free a).tmps) = true) ∧ (∀ d r w, d i = false → (∀ e ∈ o.after, Region.binds .any e = true → d e.on = true) → B d r w → o.wp P (fillE ops r free a) w (fun _ _ => False) (PX X)) ∧ headE P ops B X n fin (i :: dead) free (i + 1) rest a) ∨
    (deadDep dead o = false ∧ (∀ r, Region.wanted o (yielded ops (fillE ops r free a).tmps) = false) ∧ (∀ d r w, d i = false → B d r w → B (updD d i) r w) ∧ headE P ops B X n fin dead free (i + 1) rest (a.put o.dst undef)) ∨
    (deadDep dead o = false ∧ (∀ r, Region.wanted o (yielded ops (fillE ops r free a).tmps) = true) ∧ (∃ t, o.dst = some t ∧ t < a.tmps.size) ∧
      (∀ d r w, d i = false → (∀ e ∈ o.after, Region.binds .any e = true → d e.on = true) → B d r w → o.wp P (fillE ops r free a) w (fun a' w' => ∃ v, a' = (fillE ops r free a).put o.dst v ∧ B (updD d i) (updV r i v) w') (PX X)) ∧ headE P ops B X n fin dead (i :: free) (i + 1) rest a)

section
variable {P : Program} {ops : Array Oper} {B : (Nat → Bool) → (Nat → Value) → World → Prop} {X : List PanicEntry → World → Prop} {n : Nat} {fin : List Nat → List Nat → Act → Prop} {dead free : List Nat} {i : Nat} {o : Oper} {rest : List Oper} {a : Act}

theorem headE_nil (h : fin dead free a) : headE P ops B X n fin dead free i [] a := h

theorem headE_val {a2 : (Nat → Value) → Act} (hd : deadDep dead o = false) (hw : ∀ r, Region.wanted o (yielded ops (fillE ops r free a).tmps) = true)
    (h : ∀ (d : Nat → Bool) (r : Nat → Value) (K : Act → World → Prop), d i = false → (∀ e ∈ o.after, Region.binds .any e = true → d e.on = true) → (∀ w', B (updD d i) r w' → K (a2 r) w') → ∀ w, B d r w → o.wp P (fillE ops r free a) w K (PX X))
    {a3 : Act} (ha : ∃ v, (∀ r, a2 r = (fillE ops r free a).put o.dst v) ∧ a3 = a.put o.dst v) (k : headE P ops B X n fin dead free (i + 1) rest a3) : headE P ops B X n fin dead free i (o :: rest) a := by
  obtain ⟨v, hv, rfl⟩ := ha
  exact .inr (.inl ⟨hd, hw, v, fun d r w hdi hdep hB => h d r _ hdi hdep (fun w' hB' => ⟨hv r, hB'⟩) w hB, k⟩)

/-- .. ahead of all that lay blocks. -/
theorem headE_val0 {a2 : Act} (hd : deadDep dead o = false) (hw : Region.wanted o (yielded ops a.tmps) = true)
    (h : ∀ (d : Nat → Bool) (r : Nat → Value) (K : Act → World → Prop), d i = false → (∀ e ∈ o.after, Region.binds .any e = true → d e.on = true) → (∀ w', B (updD d i) r w' → K a2 w') → ∀ w, B d r w → o.wp P a w K (PX X))
    (ha : ∃ v, a2 = a.put o.dst v) (k : headE P ops B X n fin dead [] (i + 1) rest a2) : headE P ops B X n fin dead [] i (o :: rest) a := by
  obtain ⟨v, rfl⟩ := ha
  exact .inr (.inl ⟨hd, fun _ => hw, v, fun d r w hdi hdep hB => h d r _ hdi hdep (fun w' hB' => ⟨rfl, hB'⟩) w hB, k⟩)

theorem headE_dies0 (hd : deadDep dead o = false) (hw : Region.wanted o (yielded ops a.tmps) = true) (h : ∀ (d : Nat → Bool) (r : Nat → Value) w, d i = false → B d r w → o.wp P a w (fun _ _ => False) (PX X))
    (k : headE P ops B X n fin (i :: dead) [] (i + 1) rest a) : headE P ops B X n fin dead [] i (o :: rest) a := .inr (.inr (.inl ⟨hd, fun _ => hw, fun d r w hdi _ hB => h d r w hdi hB, k⟩))

theorem headE_dies (hd : deadDep dead o = false) (hw : ∀ r, Region.wanted o (yielded ops (fillE ops r free a).tmps) = true) (h : ∀ (d : Nat → Bool) (r : Nat → Value) w, d i = false → (∀ e ∈ o.after, Region.binds .any e = true → d e.on = true) → B d r w → o.wp P (fillE ops r free a) w (fun _ _ => False) (PX X))
    (k : headE P ops B X n fin (i :: dead) free (i + 1) rest a) : headE P ops B X n fin dead free i (o :: rest) a := .inr (.inr (.inl ⟨hd, hw, h, k⟩))

theorem headE_dead (hd : deadDep dead o = true) (k : headE P ops B X n fin (i :: dead) free (i + 1) rest a) : headE P ops B X n fin dead free i (o :: rest) a := .inl ⟨hd, k⟩

theorem headE_skip (hd : deadDep dead o = false) (hw : ∀ r, Region.wanted o (yielded ops (fillE ops r free a).tmps) = false) (hs : ∀ d r w, d i = false → B d r w → B (updD d i) r w) (k : headE P ops B X n fin dead free (i + 1) rest (a.put o.dst undef)) : headE P ops B X n fin dead free i (o :: rest) a :=
  .inr (.inr (.inr (.inl ⟨hd, hw, hs, k⟩)))

/-- An operation that lays a block. -/
theorem headE_free (hd : deadDep dead o = false) (hw : ∀ r, Region.wanted o (yielded ops (fillE ops r free a).tmps) = true) (t : Tmp) (ht : o.dst = some t) (hs : t < a.tmps.size)
    (h : ∀ (d : Nat → Bool) (r : Nat → Value) (K : Act → World → Prop), d i = false → ∀ w, B d r w → (∀ v w', B (updD d i) (updV r i v) w' → K ((fillE ops r free a).put o.dst v) w') → o.wp P (fillE ops r free a) w K (PX X))
    (k : headE P ops B X n fin dead (i :: free) (i + 1) rest a) : headE P ops B X n fin dead free i (o :: rest) a :=
  .inr (.inr (.inr (.inr ⟨hd, hw, ⟨t, ht, hs⟩, fun d r w hdi _ hB => h d r _ hdi w hB (fun v w' hB' => ⟨v, rfl, hB'⟩), k⟩)))
end

/-- What the walk of the head tells of each operation, said in the frame at its end. -/
structure HeadResE (P : Program) (ops : Array Oper) (B : (Nat → Bool) → (Nat → Value) → World → Prop) (X : List PanicEntry → World → Prop) (i n : Nat) (dead free : List Nat) (a F : Act) (vs : Nat → Value) : Prop where
  live : ∀ (j : Nat) (o : Oper), i ≤ j → j < n → ops[j]? = some o → j ∉ dead → j ∉ free →
    deadDep dead o = false ∧ (((∀ r, Region.wanted o (yielded ops (fillE ops r free F).tmps) = true) ∧ ∀ d r w, d j = false → (∀ e ∈ o.after, Region.binds .any e = true → d e.on = true) → B d r w → outc P o (fillE ops r free F) w (fun v w' => same o.dst a.tmps.size v (vs j) ∧ B (updD d j) r w') X) ∨ ((∀ r, Region.wanted o (yielded ops (fillE ops r free F).tmps) = false) ∧ vs j = undef ∧ ∀ d r w, d j = false → B d r w → B (updD d j) r w))
  died : ∀ (j : Nat) (o : Oper), i ≤ j → j < n → ops[j]? = some o → j ∈ dead →
    deadDep dead o = true ∨ ((∀ r, Region.wanted o (yielded ops (fillE ops r free F).tmps) = true) ∧ ∀ d r w, d j = false → (∀ e ∈ o.after, Region.binds .any e = true → d e.on = true) → B d r w → outc P o (fillE ops r free F) w (fun _ _ => False) X)
  freed : ∀ (j : Nat) (o : Oper), i ≤ j → j < n → ops[j]? = some o → j ∈ free →
    j ∉ dead ∧ (∀ r, Region.wanted o (yielded ops (fillE ops r free F).tmps) = true) ∧ (∃ t, o.dst = some t ∧ t < a.tmps.size) ∧ ∀ d r w, d j = false → (∀ e ∈ o.after, Region.binds .any e = true → d e.on = true) → B d r w → outc P o (fillE ops r free F) w (fun v w' => B (updD d j) (updV r j v) w') X
  defers : F.defers = a.defers
  size : F.tmps.size = a.tmps.size
  old : ∀ t, (∀ (j : Nat) (oj : Oper), i ≤ j → j < n → ops[j]? = some oj → oj.dst = some t → j ∈ dead ∨ j ∈ free) → F.tmps[t]? = a.tmps[t]?
  new : ∀ (j : Nat) (oj : Oper) t, i ≤ j → j < n → ops[j]? = some oj → j ∉ dead → j ∉ free → oj.dst = some t → t < a.tmps.size → F.tmps[t]? = some (vs j)

theorem mark_mem {i : Nat} {dead dead' : List Nat} (h : ∀ d, d < i + 1 → (d ∈ dead' ↔ d ∈ i :: dead)) : i ∈ dead' ∧ ∀ d, d < i → (d ∈ dead' ↔ d ∈ dead) := by
  refine ⟨(h i (by omega)).2 (by simp), fun d hlt => ?_⟩
  rw [h d (by omega)]
  constructor
  · intro hm; rcases List.mem_cons.1 hm with rfl | hm
    · omega
    · exact hm
  · intro hm; exact List.mem_cons_of_mem _ hm

theorem mark_lt {i : Nat} {dead : List Nat} (hd : ∀ d, d ∈ dead → d < i) : ∀ d, d ∈ i :: dead → d < i + 1 := by
  intro d hm
  rcases List.mem_cons.1 hm with rfl | hm
  · omega
  · have := hd d hm; omega

theorem headE_ext {P : Program} {ops : Array Oper} {B : (Nat → Bool) → (Nat → Value) → World → Prop} {X : List PanicEntry → World → Prop} {n : Nat} {fin : List Nat → List Nat → Act → Prop} (hk : HeadOk ops n) :
    ∀ (l : List Oper) (i : Nat) (dead free : List Nat) (a : Act), (∀ j, j < l.length → l[j]? = ops[i + j]?) → i + l.length = n → (∀ d, d ∈ dead → d < i) → (∀ d, d ∈ free → d < i) → headE P ops B X n fin dead free i l a →
    ∃ (vs : Nat → Value) (dead' free' : List Nat) (F : Act), fin dead' free' F ∧ HeadResE P ops B X i n dead' free' a F vs ∧ (∀ d, d < i → (d ∈ dead' ↔ d ∈ dead)) ∧ (∀ d, d ∈ dead' → d < n) ∧ (∀ d, d < i → (d ∈ free' ↔ d ∈ free)) ∧ (∀ d, d ∈ free' → d < n)
  | [], i, dead, free, a, _, hn, hd, hfr, h => by
    have hin : i = n := by simpa using hn
    refine ⟨fun _ => undef, dead, free, a, h, ⟨?_, ?_, ?_, rfl, rfl, fun _ _ => rfl, ?_⟩, fun _ _ => Iff.rfl, fun d hdd => by have := hd d hdd; omega, fun _ _ => Iff.rfl, fun d hdd => by have := hfr d hdd; omega⟩
    · intro j o h1 h2; omega
    · intro j o h1 h2; omega
    · intro j o h1 h2; omega
    · intro j oj t h1 h2; omega
  | o :: l, i, dead, free, a, hl, hn, hd, hfr, h => by
    simp only [List.length_cons] at hn
    have ho : ops[i]? = some o := by simpa using (hl 0 (by simp)).symm
    have hin : i < n := by omega
    have hl' : ∀ j, j < l.length → l[j]? = ops[i + 1 + j]? := fun j hj => by
      have := hl (j + 1) (by simpa using hj)
      simpa [Nat.add_assoc, Nat.add_comm 1 j] using this
    have haft := hk.after i o hin ho
    have hd1 : ∀ d, d ∈ dead → d < i + 1 := fun d hm => by have := hd d hm; omega
    have hf1 : ∀ d, d ∈ free → d < i + 1 := fun d hm => by have := hfr d hm; omega
    have hdstn : ∀ (k : Nat) (t : Tmp), (ops[k]?).bind (·.dst) = some t → ∃ ok, ops[k]? = some ok ∧ ok.dst = some t := by
      intro k t hkd
      cases hok : ops[k]? with
      | none => rw [hok] at hkd; cases hkd
      | some ok => rw [hok] at hkd; exact ⟨ok, rfl, hkd⟩
    -- what the operation looks at stands to the end
    have hstay : ∀ (F b : Act) (dead' free' : List Nat) (vs : Nat → Value) (r : Nat → Value), HeadResE P ops B X (i + 1) n dead' free' b F vs → (∀ t, t ∈ o.looksAt ops → b.tmps[t]? = a.tmps[t]?) → b.tmps.size = a.tmps.size →
        (∀ d, d < i → (d ∈ free' ↔ d ∈ free)) → (∀ d, d ∈ free' → d < n) → ∀ t, t ∈ o.looksAt ops → (fillE ops r free a).tmps[t]? = (fillE ops r free' F).tmps[t]? := by
      intro F b dead' free' vs r hr hb hbs hfi hfn t ht
      have hlt : ∀ k, k < n → (ops[k]?).bind (·.dst) = some t → k < i := fun k hkn hkd => by
        obtain ⟨ok, h1, h2⟩ := hdstn k t hkd
        exact (hk.looks i o k ok t hin ho hkn h1 h2 ht).1
      have hFa : F.tmps[t]? = a.tmps[t]? := by
        rw [hr.old t (fun j oj h1 h2 h3 h4 => absurd (hk.looks i o j oj t hin ho h2 h3 h4 ht).1 (by omega)), hb t ht]
      by_cases he : ∃ k, k ∈ free ∧ (ops[k]?).bind (·.dst) = some t
      · obtain ⟨k, hkf, hkd⟩ := he
        obtain ⟨ok, h1, h2⟩ := hdstn k t hkd
        have hkn : k < n := by have := hfr k hkf; omega
        have hki : k < i := hfr k hkf
        have hu : ∀ (fr : List Nat), (∀ d, d ∈ fr → d < n) → ∀ q, q ∈ fr → (ops[q]?).bind (·.dst) = some t → q = k := by
          intro fr hfrn q hq hqd
          obtain ⟨oq, g1, g2⟩ := hdstn q t hqd
          exact hk.dst q oq k ok t (hfrn q hq) g1 hkn h1 h2 g2
        by_cases hts : t < a.tmps.size
        · rw [fillE_at ops r a t hts k hkd free hkf (hu free (fun d hd => Nat.lt_trans (hfr d hd) hin)), fillE_at ops r F t (by rw [hr.size, hbs]; exact hts) k hkd free' ((hfi k hki).2 hkf) (hu free' hfn)]
        · rw [Array.getElem?_eq_none (by rw [fillE_size]; exact Nat.le_of_not_lt hts), Array.getElem?_eq_none (by rw [fillE_size, hr.size, hbs]; exact Nat.le_of_not_lt hts)]
      · rw [fillE_far ops r a t free (fun k hkf hkd => he ⟨k, hkf, hkd⟩), fillE_far ops r F t free' (fun k hkf hkd => he ⟨k, (hfi k (hlt k (hfn k hkf) hkd)).1 hkf, hkd⟩), hFa]
    have hput : ∀ (v : Value) t, t ∈ o.looksAt ops → (a.put o.dst v).tmps[t]? = a.tmps[t]? := fun v t ht =>
      put_same _ _ _ _ (fun he => absurd (hk.looks i o i o t hin ho hin ho he ht).1 (by omega))
    rcases h with ⟨hdd, h⟩ | ⟨hdd, hw, v, hv, h⟩ | ⟨hdd, hw, hv, h⟩ | ⟨hdd, hw, hsk, h⟩ | ⟨hdd, hw, htt, hv, h⟩
    · obtain ⟨vs, dead', free', F, hf, hr, hdi, hdn, hfi, hfn⟩ := headE_ext hk l (i + 1) (i :: dead) free a hl' (by omega) (mark_lt hd) hf1 h
      obtain ⟨hmem, hdi'⟩ := mark_mem hdi
      refine ⟨vs, dead', free', F, hf, ⟨?_, ?_, ?_, hr.defers, hr.size, ?_, ?_⟩, hdi', hdn, fun d hlt => hfi d (by omega), hfn⟩
      · intro j oj h1 h2 h3 h4
        by_cases e : j = i
        · subst e; exact absurd hmem h4
        · exact hr.live j oj (by omega) h2 h3 h4
      · intro j oj h1 h2 h3 h4
        by_cases e : j = i
        · subst e
          have : oj = o := Option.some.inj (h3.symm.trans ho)
          subst this
          left; rw [deadDep_iff haft hdi']; exact hdd
        · exact hr.died j oj (by omega) h2 h3 h4
      · intro j oj h1 h2 h3 h4
        by_cases e : j = i
        · subst e; have := hfr j ((hfi j (by omega)).1 h4); omega
        · exact hr.freed j oj (by omega) h2 h3 h4
      · intro t ht; exact hr.old t (fun j oj h1 => ht j oj (by omega))
      · intro j oj t h1 h2 h3 h4
        by_cases e : j = i
        · subst e; exact absurd hmem h4
        · exact hr.new j oj t (by omega) h2 h3 h4
    · obtain ⟨vs, dead', free', F, hf, hr, hdi, hdn, hfi, hfn⟩ := headE_ext hk l (i + 1) dead free _ hl' (by omega) hd1 hf1 h
      have hmem : i ∉ dead' := fun hm => by have := hd i ((hdi i (by omega)).1 hm); omega
      have hmef : i ∉ free' := fun hm => by have := hfr i ((hfi i (by omega)).1 hm); omega
      have hs := fun r => exec_same (hk.sel i o ho) (hstay F _ dead' free' vs r hr (hput v) (put_size _ _ _) (fun d hlt => hfi d (by omega)) hfn)
      refine ⟨fun j => if j = i then v else vs j, dead', free', F, hf, ⟨?_, ?_, ?_, by rw [hr.defers, put_defers'], by rw [hr.size, put_size], ?_, ?_⟩, fun d hlt => hdi d (by omega), hdn, fun d hlt => hfi d (by omega), hfn⟩
      · intro j oj h1 h2 h3 h4 h5
        by_cases e : j = i
        · subst e
          have : oj = o := Option.some.inj (h3.symm.trans ho)
          subst this
          refine ⟨by rw [deadDep_iff haft (fun d hlt => hdi d (by omega))]; exact hdd, .inl ⟨fun r => by rw [← (hs r).2]; exact hw r, fun d r w hd0 hdep hB => ?_⟩⟩
          rw [← outc_same (hs r).1]
          simp only [if_true]
          have := outc_of_wp (hv d r w hd0 hdep hB)
          rwa [fillE_size] at this
        · simp only [if_neg e]
          have := hr.live j oj (by omega) h2 h3 h4 h5
          rwa [put_size] at this
      · intro j oj h1 h2 h3 h4
        by_cases e : j = i
        · subst e; exact absurd h4 hmem
        · exact hr.died j oj (by omega) h2 h3 h4
      · intro j oj h1 h2 h3 h4
        by_cases e : j = i
        · subst e; exact absurd h4 hmef
        · have := hr.freed j oj (by omega) h2 h3 h4
          rwa [put_size] at this
      · intro t ht
        rw [hr.old t (fun j oj h1 => ht j oj (by omega)), put_same _ _ _ _ (fun he => by rcases ht i o (Nat.le_refl _) hin ho he with h | h; exact hmem h; exact hmef h)]
      · intro j oj t h1 h2 h3 h4 h4f h5 h6
        by_cases e : j = i
        · subst e
          have : oj = o := Option.some.inj (h3.symm.trans ho)
          subst this
          simp only [if_true]
          rw [hr.old t (fun k ok g1 g2 g3 g4 => absurd (hk.dst j oj k ok t h2 h3 g2 g3 g4 h5) (by omega)), h5, put_new _ _ _ h6]
        · simp only [if_neg e]; exact hr.new j oj t (by omega) h2 h3 h4 h4f h5 (by rw [put_size]; exact h6)
    · obtain ⟨vs, dead', free', F, hf, hr, hdi, hdn, hfi, hfn⟩ := headE_ext hk l (i + 1) (i :: dead) free a hl' (by omega) (mark_lt hd) hf1 h
      obtain ⟨hmem, hdi'⟩ := mark_mem hdi
      have hs := fun r => exec_same (hk.sel i o ho) (hstay F _ dead' free' vs r hr (fun _ _ => rfl) rfl (fun d hlt => hfi d (by omega)) hfn)
      refine ⟨vs, dead', free', F, hf, ⟨?_, ?_, ?_, hr.defers, hr.size, ?_, ?_⟩, hdi', hdn, fun d hlt => hfi d (by omega), hfn⟩
      · intro j oj h1 h2 h3 h4
        by_cases e : j = i
        · subst e; exact absurd hmem h4
        · exact hr.live j oj (by omega) h2 h3 h4
      · intro j oj h1 h2 h3 h4
        by_cases e : j = i
        · subst e
          have : oj = o := Option.some.inj (h3.symm.trans ho)
          subst this
          right
          refine ⟨fun r => by rw [← (hs r).2]; exact hw r, fun d r w hd0 hdep hB => ?_⟩
          rw [← outc_same (hs r).1]
          exact outc_of_dies (hv d r w hd0 hdep hB)
        · exact hr.died j oj (by omega) h2 h3 h4
      · intro j oj h1 h2 h3 h4
        by_cases e : j = i
        · subst e; have := hfr j ((hfi j (by omega)).1 h4); omega
        · exact hr.freed j oj (by omega) h2 h3 h4
      · intro t ht; exact hr.old t (fun j oj h1 => ht j oj (by omega))
      · intro j oj t h1 h2 h3 h4
        by_cases e : j = i
        · subst e; exact absurd hmem h4
        · exact hr.new j oj t (by omega) h2 h3 h4
    · obtain ⟨vs, dead', free', F, hf, hr, hdi, hdn, hfi, hfn⟩ := headE_ext hk l (i + 1) dead free _ hl' (by omega) hd1 hf1 h
      have hmem : i ∉ dead' := fun hm => by have := hd i ((hdi i (by omega)).1 hm); omega
      have hmef : i ∉ free' := fun hm => by have := hfr i ((hfi i (by omega)).1 hm); omega
      have hs := fun r => exec_same (hk.sel i o ho) (hstay F _ dead' free' vs r hr (hput undef) (put_size _ _ _) (fun d hlt => hfi d (by omega)) hfn)
      refine ⟨fun j => if j = i then undef else vs j, dead', free', F, hf, ⟨?_, ?_, ?_, by rw [hr.defers, put_defers'], by rw [hr.size, put_size], ?_, ?_⟩, fun d hlt => hdi d (by omega), hdn, fun d hlt => hfi d (by omega), hfn⟩
      · intro j oj h1 h2 h3 h4 h5
        by_cases e : j = i
        · subst e
          have : oj = o := Option.some.inj (h3.symm.trans ho)
          subst this
          refine ⟨by rw [deadDep_iff haft (fun d hlt => hdi d (by omega))]; exact hdd, .inr ⟨fun r => by rw [← (hs r).2]; exact hw r, by simp, hsk⟩⟩
        · simp only [if_neg e]
          have := hr.live j oj (by omega) h2 h3 h4 h5
          rwa [put_size] at this
      · intro j oj h1 h2 h3 h4
        by_cases e : j = i
        · subst e; exact absurd h4 hmem
        · exact hr.died j oj (by omega) h2 h3 h4
      · intro j oj h1 h2 h3 h4
        by_cases e : j = i
        · subst e; exact absurd h4 hmef
        · have := hr.freed j oj (by omega) h2 h3 h4
          rwa [put_size] at this
      · intro t ht
        rw [hr.old t (fun j oj h1 => ht j oj (by omega)), put_same _ _ _ _ (fun he => by rcases ht i o (Nat.le_refl _) hin ho he with h | h; exact hmem h; exact hmef h)]
      · intro j oj t h1 h2 h3 h4 h4f h5 h6
        by_cases e : j = i
        · subst e
          have : oj = o := Option.some.inj (h3.symm.trans ho)
          subst this
          simp only [if_true]
          rw [hr.old t (fun k ok g1 g2 g3 g4 => absurd (hk.dst j oj k ok t h2 h3 g2 g3 g4 h5) (by omega)), h5, put_new _ _ _ h6]
        · simp only [if_neg e]; exact hr.new j oj t (by omega) h2 h3 h4 h4f h5 (by rw [put_size]; exact h6)
    · obtain ⟨vs, dead', free', F, hf, hr, hdi, hdn, hfi, hfn⟩ := headE_ext hk l (i + 1) dead (i :: free) a hl' (by omega) hd1 (mark_lt hfr) h
      obtain ⟨hmem, hfi'⟩ := mark_mem hfi
      have hmed : i ∉ dead' := fun hm => by have := hd i ((hdi i (by omega)).1 hm); omega
      have hs := fun r => exec_same (hk.sel i o ho) (hstay F _ dead' free' vs r hr (fun _ _ => rfl) rfl hfi' hfn)
      refine ⟨vs, dead', free', F, hf, ⟨?_, ?_, ?_, hr.defers, hr.size, ?_, ?_⟩, fun d hlt => hdi d (by omega), hdn, hfi', hfn⟩
      · intro j oj h1 h2 h3 h4 h5
        by_cases e : j = i
        · subst e; exact absurd hmem h5
        · exact hr.live j oj (by omega) h2 h3 h4 h5
      · intro j oj h1 h2 h3 h4
        by_cases e : j = i
        · subst e; exact absurd h4 hmed
        · exact hr.died j oj (by omega) h2 h3 h4
      · intro j oj h1 h2 h3 h4
        by_cases e : j = i
        · subst e
          have : oj = o := Option.some.inj (h3.symm.trans ho)
          subst this
          obtain ⟨t, ht1, ht2⟩ := htt
          refine ⟨hmed, fun r => by rw [← (hs r).2]; exact hw r, ⟨t, ht1, ht2⟩, fun d r w hd0 hdep hB => ?_⟩
          rw [← outc_same (hs r).1]
          exact outc_of_wpE ht1 (by rw [fillE_size]; exact ht2) (hv d r w hd0 hdep hB)
        · exact hr.freed j oj (by omega) h2 h3 h4
      · intro t ht; exact hr.old t (fun j oj h1 => ht j oj (by omega))
      · intro j oj t h1 h2 h3 h4 h5
        by_cases e : j = i
        · subst e; exact absurd hmem h5
        · exact hr.new j oj t (by omega) h2 h3 h4 h5

/-- Where the head stands. -/
structure DrawInvE (ops : Array Oper) (B : (Nat → Bool) → (Nat → Value) → World → Prop) (n : Nat) (dead free : List Nat) (a0 F : Act) (r : Nat → Value) (listed : Array Bool) (a : Act) (w : World) : Prop where
  head : HeadInv .any ops n listed
  world : B (doneD listed) r w
  defers : a.defers = a0.defers
  size : a.tmps.size = a0.tmps.size
  live : ∀ (j : Nat), j < n → listed.getD j false = true → j ∉ dead
  old : ∀ t, (∀ (j : Nat) (oj : Oper), j < n → ops[j]? = some oj → oj.dst = some t → listed.getD j false = false) → a.tmps[t]? = a0.tmps[t]?
  new : ∀ (j : Nat) (oj : Oper) t, j < n → ops[j]? = some oj → j ∉ free → listed.getD j false = true → oj.dst = some t → a.tmps[t]? = F.tmps[t]?
  newf : ∀ (j : Nat) (oj : Oper) t, j < n → ops[j]? = some oj → j ∈ free → listed.getD j false = true → oj.dst = some t → a.tmps[t]? = some (r j)

theorem drawE_go {P : Program} {ops : Array Oper} {B : (Nat → Bool) → (Nat → Value) → World → Prop} {X : List PanicEntry → World → Prop} {Q : Exit → Act → World → Prop} {n : Nat} {dead free : List Nat} {a0 F : Act} {vs : Nat → Value}
    (hk : HeadOk ops n) (hr : HeadResE P ops B X 0 n dead free a0 F vs) (hdn : ∀ d, d ∈ dead → d < n) (hfn : ∀ d, d ∈ free → d < n)
    (hwait : ∀ listed, HeadInv .any ops n listed → ∀ i, i < n → listed.getD i true = false → ∀ t, n ≤ t → t ∉ Region.ready .any ops listed)
    (hX : ∀ c a' w', X c w' → a'.defers = a0.defers → a'.tmps.size = a0.tmps.size → (∀ t, (∀ (j : Nat) (oj : Oper), j < n → ops[j]? = some oj → oj.dst ≠ some t) → a'.tmps[t]? = a0.tmps[t]?) → Q (.panic c) a' w')
    (hfin : ∀ listed r w, HeadInv .any ops n listed → (∀ i, i < n → listed.getD i true = true) → dead = [] → B (doneD listed) r w → wpAny P .any ops Q (ops.size - n) listed (fillE ops r free F) w) :
    ∀ (m : Nat) (r : Nat → Value) (listed : Array Bool) (a : Act) (w : World), undone n listed = m → DrawInvE ops B n dead free a0 F r listed a w → wpAny P .any ops Q (m + (ops.size - n)) listed a w
  | 0, r, listed, a, w, hm, inv => by
    have hall := undone_zero hm
    have hall' : ∀ i, i < n → listed.getD i false = true := fun i hi => by
      have h1 := hall i hi
      have h2 : i < listed.size := by rw [inv.head.size]; have := hk.le; omega
      simp [h2] at h1 ⊢; exact h1
    have hdead : dead = [] := by
      cases hde : dead with
      | nil => rfl
      | cons d r =>
        have hd : d ∈ dead := by rw [hde]; simp
        exact absurd hd (inv.live d (hdn d hd) (hall' d (hdn d hd)))
    have hF : a = fillE ops r free F := by
      have h1 : a.tmps = (fillE ops r free F).tmps := by
        apply Array.ext_getElem?
        intro t
        by_cases h : ∃ (j : Nat) (oj : Oper), j < n ∧ ops[j]? = some oj ∧ oj.dst = some t
        · obtain ⟨j, oj, h1, h2, h3⟩ := h
          have hu : ∀ k, k ∈ free → (ops[k]?).bind (·.dst) = some t → k = j := by
            intro k hkf hkd
            cases hok : ops[k]? with
            | none => rw [hok] at hkd; cases hkd
            | some ok =>
              rw [hok] at hkd
              exact hk.dst k ok j oj t (hfn k hkf) hok h1 h2 h3 hkd
          by_cases hf : j ∈ free
          · obtain ⟨_, _, ⟨t', ht1, ht2⟩, _⟩ := hr.freed j oj (Nat.zero_le _) h1 h2 hf
            have : t' = t := by rw [ht1] at h3; injection h3
            subst this
            rw [inv.newf j oj t' h1 h2 hf (hall' j h1) h3, fillE_at ops r F t' (by rw [hr.size]; exact ht2) j (by rw [h2]; exact h3) free hf hu]
          · rw [inv.new j oj t h1 h2 hf (hall' j h1) h3, fillE_far ops r F t free (fun k hkf hkd => hf (by rw [← hu k hkf hkd]; exact hkf))]
        · rw [inv.old t (fun j oj h1 h2 h3 => absurd ⟨j, oj, h1, h2, h3⟩ h), fillE_far ops r F t free (fun k hkf hkd => ?_), hr.old t (fun j oj _ h1 h2 h3 => absurd ⟨j, oj, h1, h2, h3⟩ h)]
          cases hok : ops[k]? with
          | none => rw [hok] at hkd; cases hkd
          | some ok => rw [hok] at hkd; exact h ⟨k, ok, hfn k hkf, hok, hkd⟩
      have h2 : a.defers = (fillE ops r free F).defers := by rw [inv.defers, fillE_defers, hr.defers]
      revert h1 h2
      generalize fillE ops r free F = G
      intro h1 h2
      cases a; cases G; simp_all
    rw [Nat.zero_add, hF]
    exact hfin listed r w inv.head hall hdead inv.world
  | m + 1, r, listed, a, w, hm, inv => by
    rw [show m + 1 + (ops.size - n) = (m + (ops.size - n)) + 1 by omega]
    obtain ⟨i0, hi0, hun0⟩ : ∃ i, i < n ∧ listed.getD i true = false := by
      have : (List.range n).countP (fun i => !listed.getD i true) ≠ 0 := by
        show undone n listed ≠ 0
        omega
      rw [Ne, List.countP_eq_zero] at this
      simp only [Classical.not_forall] at this
      obtain ⟨i, hi, h⟩ := this
      exact ⟨i, List.mem_range.1 hi, by simpa using h⟩
    have hrd := some_ready hk inv.head.size i0 hi0 hun0
    refine ⟨fun h0 => ?_, fun i hi => ?_⟩
    · obtain ⟨j, _, hj⟩ := hrd
      rw [h0] at hj; cases hj
    · have hin : i < n := by
        rcases Nat.lt_or_ge i n with h | h
        · exact h
        · exact absurd hi (hwait listed inv.head i0 hi0 hun0 i h)
      obtain ⟨hun, o, ho, hall⟩ := mem_ready.1 hi
      have hunf : listed.getD i false = false := getD_both hun
      have hm' := undone_set hin hun
      have hlt : i < listed.size := by rw [inv.head.size]; have := hk.le; omega
      -- what the operation looks at is as in the frame at the head's end
      have hlook : ∀ t, t ∈ o.looksAt ops → a.tmps[t]? = (fillE ops r free F).tmps[t]? := by
        intro t ht
        by_cases h : ∃ (j : Nat) (oj : Oper), j < n ∧ ops[j]? = some oj ∧ oj.dst = some t
        · obtain ⟨j, oj, h1, h2, h3⟩ := h
          obtain ⟨_, e, he, hb, hon⟩ := hk.looks i o j oj t hin ho h1 h2 h3 ht
          have hlj : listed.getD j false = true := by rw [← hon]; exact hall e he hb
          have hu : ∀ k, k ∈ free → (ops[k]?).bind (·.dst) = some t → k = j := by
            intro k hkf hkd
            cases hok : ops[k]? with
            | none => rw [hok] at hkd; cases hkd
            | some ok =>
              rw [hok] at hkd
              exact hk.dst k ok j oj t (hfn k hkf) hok h1 h2 h3 hkd
          by_cases hf : j ∈ free
          · obtain ⟨_, _, ⟨t', ht1, ht2⟩, _⟩ := hr.freed j oj (Nat.zero_le _) h1 h2 hf
            have : t' = t := by rw [ht1] at h3; injection h3
            subst this
            rw [inv.newf j oj t' h1 h2 hf hlj h3, fillE_at ops r F t' (by rw [hr.size]; exact ht2) j (by rw [h2]; exact h3) free hf hu]
          · rw [inv.new j oj t h1 h2 hf hlj h3, fillE_far ops r F t free (fun k hkf hkd => hf (by rw [← hu k hkf hkd]; exact hkf))]
        · rw [inv.old t (fun j oj h1 h2 h3 => absurd ⟨j, oj, h1, h2, h3⟩ h), fillE_far ops r F t free (fun k hkf hkd => ?_), hr.old t (fun j oj _ h1 h2 h3 => absurd ⟨j, oj, h1, h2, h3⟩ h)]
          cases hok : ops[k]? with
          | none => rw [hok] at hkd; cases hkd
          | some ok => rw [hok] at hkd; exact h ⟨k, ok, hfn k hkf, hok, hkd⟩
      have hs := exec_same (hk.sel i o ho) hlook
      have hnd : deadDep dead o = false := by
        rw [Bool.eq_false_iff]
        intro hd
        simp only [deadDep, List.any_eq_true, Bool.and_eq_true, List.contains_iff_mem, Array.mem_toList_iff] at hd
        obtain ⟨e, he, hb, hm⟩ := hd
        exact inv.live e.on (hdn _ hm) (hall e he hb) hm
      have hd0 : doneD listed i = false := hunf
      have hold : ∀ (v : Value) t, (∀ (j : Nat) (oj : Oper), j < n → ops[j]? = some oj → oj.dst = some t → (listed.setIfInBounds i true).getD j false = false) → (a.put o.dst v).tmps[t]? = a0.tmps[t]? := by
        intro v t ht
        have hne : o.dst ≠ some t := fun he => by
          have := ht i o hin ho he
          simp [hlt] at this
        rw [put_same _ _ _ _ hne]
        refine inv.old t fun j oj h1 h2 h3 => ?_
        have := ht j oj h1 h2 h3
        by_cases e : i = j
        · subst e; exact hunf
        · rwa [getD_set_ne false e] at this
      -- the next frame
      have hnext : ∀ (v : Value) (w' : World), B (updD (doneD listed) i) r w' → i ∉ dead → i ∉ free → same o.dst a0.tmps.size v (vs i) → DrawInvE ops B n dead free a0 F r (listed.setIfInBounds i true) (a.put o.dst v) w' := by
        intro v w' hB hnot hnf hv
        refine ⟨inv.head.set hi hin, by rw [doneD_set hlt]; exact hB, by rw [put_defers', inv.defers], by rw [put_size, inv.size], ?_, hold v, ?_, ?_⟩
        · intro j hj hl
          by_cases e : i = j
          · subst e; exact hnot
          · rw [getD_set_ne false e] at hl; exact inv.live j hj hl
        · intro j oj t h1 h2 h2f h3 h4
          by_cases e : i = j
          · subst e
            have : oj = o := Option.some.inj (h2.symm.trans ho)
            subst this
            rcases Nat.lt_or_ge t a.tmps.size with ht | ht
            · rw [h4, put_new _ _ _ ht, hr.new i oj t (Nat.zero_le _) hin ho hnot hnf h4 (by rw [← inv.size]; exact ht), hv t h4 (by rw [← inv.size]; exact ht)]
            · rw [Array.getElem?_eq_none (by rw [put_size]; exact ht), Array.getElem?_eq_none (by rw [hr.size, ← inv.size]; exact ht)]
          · rw [getD_set_ne false e] at h3
            have hne : o.dst ≠ some t := fun he => e (hk.dst i o j oj t hin ho h1 h2 h4 he)
            rw [put_same _ _ _ _ hne]
            exact inv.new j oj t h1 h2 h2f h3 h4
        · intro j oj t h1 h2 h2f h3 h4
          by_cases e : i = j
          · subst e; exact absurd h2f hnf
          · rw [getD_set_ne false e] at h3
            have hne : o.dst ≠ some t := fun he => e (hk.dst i o j oj t hin ho h1 h2 h4 he)
            rw [put_same _ _ _ _ hne]
            exact inv.newf j oj t h1 h2 h2f h3 h4
      have hnextf : ∀ (v : Value) (w' : World), B (updD (doneD listed) i) (updV r i v) w' → i ∉ dead → i ∈ free → DrawInvE ops B n dead free a0 F (updV r i v) (listed.setIfInBounds i true) (a.put o.dst v) w' := by
        intro v w' hB hnot hnf
        obtain ⟨_, _, ⟨t0, ht1, ht2⟩, _⟩ := hr.freed i o (Nat.zero_le _) hin ho hnf
        refine ⟨inv.head.set hi hin, by rw [doneD_set hlt]; exact hB, by rw [put_defers', inv.defers], by rw [put_size, inv.size], ?_, hold v, ?_, ?_⟩
        · intro j hj hl
          by_cases e : i = j
          · subst e; exact hnot
          · rw [getD_set_ne false e] at hl; exact inv.live j hj hl
        · intro j oj t h1 h2 h2f h3 h4
          by_cases e : i = j
          · subst e; exact absurd hnf h2f
          · rw [getD_set_ne false e] at h3
            have hne : o.dst ≠ some t := fun he => e (hk.dst i o j oj t hin ho h1 h2 h4 he)
            rw [put_same _ _ _ _ hne]
            exact inv.new j oj t h1 h2 h2f h3 h4
        · intro j oj t h1 h2 h2f h3 h4
          by_cases e : i = j
          · subst e
            have : oj = o := Option.some.inj (h2.symm.trans ho)
            subst this
            have : t0 = t := by rw [ht1] at h4; injection h4
            subst this
            rw [h4, put_new _ _ _ (by rw [inv.size]; exact ht2)]
            simp [updV]
          · rw [getD_set_ne false e] at h3
            have hne : o.dst ≠ some t := fun he => e (hk.dst i o j oj t hin ho h1 h2 h4 he)
            rw [put_same _ _ _ _ hne, inv.newf j oj t h1 h2 h2f h3 h4]
            simp only [updV]
            rw [if_neg (fun h => e h.symm)]
      have hpan : ∀ c w', X c w' → Q (.panic c) a w' := fun c w' hx =>
        hX c a w' hx inv.defers inv.size fun t ht => inv.old t fun j oj h1 h2 h3 => absurd h3 (ht j oj h1 h2)
      unfold wpOp
      simp only [ho]
      by_cases hde : i ∈ dead
      · rcases hr.died i o (Nat.zero_le _) hin ho hde with h | ⟨hw, h⟩
        · rw [h] at hnd; cases hnd
        · rw [if_pos (by rw [hs.2]; exact hw r)]
          refine .inl (wp_of_outc ?_)
          rw [outc_same hs.1]
          exact outc_mono (h _ r w hd0 hall inv.world) (fun _ _ hf => hf.elim) hpan
      · by_cases hfe : i ∈ free
        · obtain ⟨_, hw, _, h⟩ := hr.freed i o (Nat.zero_le _) hin ho hfe
          rw [if_pos (by rw [hs.2]; exact hw r)]
          refine .inl (wp_of_outc ?_)
          rw [outc_same hs.1]
          refine outc_mono (h _ r w hd0 hall inv.world) (fun v w' hv => ?_) hpan
          exact drawE_go hk hr hdn hfn hwait hX hfin m _ _ _ _ (by omega) (hnextf v w' hv hde hfe)
        · obtain ⟨_, ⟨hw, h⟩ | ⟨hw, h, hsk⟩⟩ := hr.live i o (Nat.zero_le _) hin ho hde hfe
          · rw [if_pos (by rw [hs.2]; exact hw r)]
            refine .inl (wp_of_outc ?_)
            rw [outc_same hs.1]
            refine outc_mono (h _ r w hd0 hall inv.world) (fun v w' hv => ?_) hpan
            exact drawE_go hk hr hdn hfn hwait hX hfin m _ _ _ _ (by omega) (hnext v w' hv.2 hde hfe hv.1)
          · rw [if_neg (by rw [hs.2, hw r]; simp)]
            exact drawE_go hk hr hdn hfn hwait hX hfin m _ _ _ _ (by omega) (hnext undef w (hsk _ r w hd0 inv.world) hde hfe (fun _ _ _ => h.symm))

/-- A REGION THAT DRAWS ITS ORDER, and lays blocks: n operations in whatever order, then the tail. -/
theorem wp_drawE {P : Program} {id : Nat} {Q : Exit → Act → World → Prop} {a : Act} {w : World} {l : List Oper} (n : Nat) (B : (Nat → Bool) → (Nat → Value) → World → Prop) (X : List PanicEntry → World → Prop) (hm : P.follows .mixedOrders = true) (hok : drawOk l.toArray n = true)
    (hB : ∀ r, B (fun _ => false) r w.drew)
    (hX : ∀ c a' w', X c w' → a'.defers = a.defers → a'.tmps.size = a.tmps.size → (∀ t, noDst l n t = true → a'.tmps[t]? = a.tmps[t]?) → Q (.panic c) a' w')
    (h : headE P l.toArray B X n (fun dead free F => dead = [] → ∀ r w1 d, (∀ j, j < n → d j = true) → B d r w1 → wpList P l.toArray Q (l.drop n) (fillE l.toArray r free F) w1) [] [] 0 (l.take n) a) : (Code.region id l.toArray true).wp P Q a w := by
  simp only [drawOk, Bool.and_eq_true, Bool.or_eq_true, decide_eq_true_eq] at hok
  obtain ⟨⟨hh, ht⟩, hq⟩ := hok
  have hk := headOk_spec hh
  have hle : n ≤ l.length := by simpa using hk.le
  have htl : (l.take n).length = n := by simp; omega
  obtain ⟨vs, dead, free, F, hf, hr, _, hdn, _, hfn⟩ := headE_ext hk (l.take n) 0 [] [] a (fun j hj => by
    have hj' : j < n := by rw [htl] at hj; exact hj
    simp [hj']) (by simpa using htl) (by simp) (by simp) h
  have hun : undone n (Array.replicate l.toArray.size false) = n := by
    have : ∀ i, i ∈ List.range n → (!(Array.replicate l.toArray.size false).getD i true) = true := fun i hi => by
      have hi' : i < l.toArray.size := by have := List.mem_range.1 hi; simp; omega
      have hi'' : i < l.length := by simpa using hi'
      simp [hi'']
    unfold undone
    rw [List.countP_eq_length.2 this, List.length_range]
  have inv0 : HeadInv .any l.toArray n (Array.replicate l.toArray.size false) :=
    ⟨by simp, fun j oj _ hl => (by rw [getD_replicate_false] at hl; cases hl), fun t _ ht => getD_in (by simpa using ht) (getD_replicate_false _ _)⟩
  have hgo := drawE_go (Q := Q) hk hr hdn hfn ?_ (fun c a' w' hx h1 h2 h3 => hX c a' w' hx h1 h2 fun t ht' => h3 t fun j oj g1 g2 => noDst_spec ht' j oj g1 (by simpa using g2)) ?_ n (fun _ => undef) _ a w.drew hun
    ⟨inv0, by rw [doneD_none]; exact hB _, rfl, rfl, fun j _ hl => (by rw [getD_replicate_false] at hl; cases hl), fun _ _ => rfl, fun j oj t _ _ _ hl => (by rw [getD_replicate_false] at hl; cases hl), fun j oj t _ _ _ hl => (by rw [getD_replicate_false] at hl; cases hl)⟩
  · refine wp_region_any hm ?_
    rw [show n + (l.toArray.size - n) = l.toArray.size by simp; omega] at hgo
    exact hgo
  · intro listed inv i hi hun t hnt
    rcases ht with ht | ⟨⟨h1, h2⟩, h3⟩
    · intro hrd
      obtain ⟨_, o, ho, _⟩ := mem_ready.1 hrd
      have := (Array.getElem?_eq_some_iff.1 ho).1
      omega
    · exact tail_waits h2 h3 h1 inv _ i rfl hi hun t hnt
  · intro listed r w1 inv hall hd hBw
    have hlst : listed = Array.replicate n true ++ Array.replicate (l.toArray.size - n) false := by
      apply Array.ext
      · rw [inv.size]; simp; omega
      · intro i h1 h2
        by_cases hi : i < n
        · have := hall i hi
          simp [h1] at this
          rw [this, Array.getElem_append_left (by simpa using hi)]
          simp
        · have := inv.tail i (by omega) (by rw [← inv.size]; exact h1)
          simp [h1] at this
          rw [this, Array.getElem_append_right (by simpa using hi)]
          simp
    have hdl : (l.drop n).length = l.toArray.size - n := by simp
    have := wpAny_of_seq (md := .any) (P := P) (ops := l.toArray) (Q' := Q) (l.drop n) n listed (fillE l.toArray r free F) w1 (fun j => by simp [List.getElem?_drop]) (by rw [hdl, hlst]; exact hq) (hf hd r w1 (doneD listed) (fun j hj => by
      have h1 := hall j hj
      have h2 : j < listed.size := by rw [inv.size]; have := hk.le; omega
      simp only [doneD]
      simp [h2] at h1 ⊢; exact h1) hBw)
    rwa [hdl] at this

end Go.Proofs.Ytoplekfnghkkdaa

/-
  The law OperandBytes: the plain part.
-/
namespace Go.Proofs.Ytoplekfnghkkdaa
open Go Go.RowKit
set_option linter.unusedVariables false
set_option linter.unusedSimpArgs false

def obM : Mem := Mem.zero.mapN (0 : Int).toNat (2 : Int).toNat 3
theorem ob_map : Mem.zero.mapB 0 2 3 = true := by decide +kernel
theorem obM_R (p : Nat) (h : p < 2) : obM.R p = 3 := by
  simp only [obM, Mem.mapN]
  rw [if_pos (by simp; omega)]

def obO (x : Nat) : Opd := ⟨3, 0, x, -1, -1, 1⟩
theorem obO_ok (x : Nat) (h : x < 256) : (obO x).Ok := ⟨by simp only [obO]; omega, by simp [obO]⟩

def obA (x : Nat) (w : Int) : Mem := obM.putN x w (widthI 4).toNat
def obB (x : Nat) (w v : Int) : Mem := (obA x w).putN x v (widthI 1).toNat

theorem ob_place (s : St) (x : Nat) (h : x < 256) : s.place (obO x) = x := op_place0 s x (by omega) (by omega)

theorem ob_bad {M : Mem} (hR : M.R = obM.R) (x n : Nat) (r : Int) (hr : bits .and .i64 3 r ≠ 0) (hx : x < 256) (hn : n ≤ 4) : M.bad x r n = none := by
  refine bad_none_page M x n r (by omega) fun t ht => ?_
  rw [hR, obM_R _ (by omega)]
  exact hr

theorem ob_w1 (s : St) (x : Nat) (w : Int) (h : x < 256) : opWF obM s (obO x) 4 = Flt.zero ∧ opWK obM s (obO x) 4 = true ∧ opM obM s (obO x) 4 w = obA x w := by
  have hb := ob_bad (M := obM) rfl x (widthI 4).toNat 2 (by decide) h (by decide)
  have e : wd 4 = 4 := by decide
  have e3 : (obO x).k = 3 := rfl
  refine ⟨?_, ?_, ?_⟩
  · rw [opWF, if_pos e3, ob_place s x h, e, Mem.wrF, hb]
  · rw [opWK, if_pos e3, ob_place s x h, e, Mem.writeK, hb]; rfl
  · rw [opM, if_pos e3, ob_place s x h, e, Mem.writeM, hb]; rfl

theorem ob_w2 (s : St) (x : Nat) (w v : Int) (h : x < 256) : opWF (obA x w) s (obO x) 1 = Flt.zero ∧ opWK (obA x w) s (obO x) 1 = true ∧ opM (obA x w) s (obO x) 1 v = obB x w v := by
  have hb := ob_bad (M := obA x w) (by rw [obA, Mem.putN_R]) x (widthI 1).toNat 2 (by decide) h (by decide)
  have e : wd 1 = 1 := by decide
  have e3 : (obO x).k = 3 := rfl
  refine ⟨?_, ?_, ?_⟩
  · rw [opWF, if_pos e3, ob_place s x h, e, Mem.wrF, hb]
  · rw [opWK, if_pos e3, ob_place s x h, e, Mem.writeK, hb]; rfl
  · rw [opM, if_pos e3, ob_place s x h, e, Mem.writeM, hb]; rfl

theorem ob_B (x : Nat) (w v : Int) (h : x < 256) (k : Nat) (h0 : x ≤ k) (h1 : k < x + 4) : (obB x w v).B k = if k = x then v % 256 else w / 2 ^ (8 * (k - x)) % 256 := by
  have e4 : (widthI 4).toNat = 4 := by decide
  have e1 : (widthI 1).toNat = 1 := by decide
  rw [obB, Mem.putN_lt _ _ _ _ (by rw [e1]; omega) (by omega), obA, Mem.putN_lt _ _ _ _ (by rw [e4]; omega) (by omega), e1, e4]
  by_cases hk : k = x
  · subst hk
    rw [if_pos (by omega), if_pos rfl, show 8 * (k - (k : Int).toNat) = 0 from by omega]
    simp
  · rw [if_neg (by omega), if_pos (by omega), if_neg hk, Int.toNat_natCast]

theorem ob_get (x : Nat) (w v : Int) (h : x < 256) (hw0 : 0 ≤ w) (hw1 : w < 4294967296) : (obB x w v).get x (widthI 4).toNat = w / 256 * 256 + v % 256 := by
  rw [Mem.get4 _ _ (by omega), ob_B x w v h x (by omega) (by omega), ob_B x w v h (x + 1) (by omega) (by omega), ob_B x w v h (x + 2) (by omega) (by omega), ob_B x w v h (x + 3) (by omega) (by omega)]
  rw [if_pos rfl, if_neg (by omega), if_neg (by omega), if_neg (by omega), show 8 * (x + 1 - x) = 8 from by omega, show 8 * (x + 2 - x) = 16 from by omega, show 8 * (x + 3 - x) = 24 from by omega]
  simp only [Int.reducePow]
  omega

theorem ob_r (s : St) (x : Nat) (w v : Int) (h : x < 256) (hw0 : 0 ≤ w) (hw1 : w < 4294967296) : opV (obB x w v) s (obO x) 4 = w / 256 * 256 + v % 256 ∧ opF (obB x w v) s (obO x) 4 = Flt.zero ∧ opK (obB x w v) s (obO x) 4 = true := by
  have hb := ob_bad (M := obB x w v) (by rw [obB, Mem.putN_R, obA, Mem.putN_R]) x (widthI 4).toNat (rightI 1) (by decide) h (by decide)
  have e : wd 4 = 4 := by decide
  have e3 : (obO x).k = 3 := rfl
  have e1 : ¬ (obO x).k = 1 := by rw [e3]; decide
  have e2 : ¬ (obO x).k = 2 := by rw [e3]; decide
  refine ⟨?_, ?_, ?_⟩
  · rw [opV, if_neg e1, if_neg e2, if_pos e3, ob_place s x h, e, Mem.readV, hb]; exact ob_get x w v h hw0 hw1
  · rw [opF, if_pos e3, ob_place s x h, e, Mem.rdF, hb]
  · rw [opK, if_pos e3, ob_place s x h, e, Mem.readK, hb]; rfl

theorem ob_reg8 (s : St) (r : Nat) (v : Int) (hr : r < 8) (hs : s.Ok) : (s.setReg8 r v).reg8 r = v % 256 := by
  have e : ((r : Int) % 8).toNat = r := by omega
  unfold St.setReg8 St.reg8
  rw [e]
  by_cases h4 : r < 4
  · have := hs.R r
    rw [if_pos h4, if_pos h4, setR_same]
    omega
  · have := hs.R (r - 4)
    rw [if_neg h4, if_neg h4, setR_same]
    omega

theorem setReg8_pc (s : St) (i v : Int) : (s.setReg8 i v).pc = s.pc := by
  unfold St.setReg8
  split <;> rfl

theorem ob_wr (M : Mem) (s : St) (r : Nat) (v : Int) : opS s ⟨1, r, 0, 0, 0, 0⟩ 1 v = s.setReg8 r v ∧ opWF M s ⟨1, r, 0, 0, 0, 0⟩ 1 = Flt.zero ∧ opWK M s ⟨1, r, 0, 0, 0, 0⟩ 1 = true ∧ opM M s ⟨1, r, 0, 0, 0, 0⟩ 1 v = M :=
  ⟨rfl, rfl, rfl, rfl⟩

theorem ob_rr (M : Mem) (s : St) (r : Nat) (v : Int) (hr : r < 8) (hs : s.Ok) : opV M (s.setReg8 r v) ⟨1, r, 0, 0, 0, 0⟩ 1 = v % 256 ∧ opF M (s.setReg8 r v) ⟨1, r, 0, 0, 0, 0⟩ 1 = Flt.zero ∧ opK M (s.setReg8 r v) ⟨1, r, 0, 0, 0, 0⟩ 1 = true :=
  ⟨by simp only [opV, if_true]; exact ob_reg8 s r v hr hs, rfl, rfl⟩

theorem ob_ri (M : Mem) (s : St) (v : Int) : opV M s ⟨2, 0, v, 0, 0, 0⟩ 1 = v % 256 ∧ opF M s ⟨2, 0, v, 0, 0, 0⟩ 1 = Flt.zero ∧ opK M s ⟨2, 0, v, 0, 0, 0⟩ 1 = true :=
  ⟨rfl, rfl, rfl⟩

theorem ob_rn (M : Mem) (s : St) : opV M s ⟨0, 0, 0, 0, 0, 0⟩ 4 = 0 ∧ opF M s ⟨0, 0, 0, 0, 0, 0⟩ 4 = Flt.zero ∧ opK M s ⟨0, 0, 0, 0, 0, 0⟩ 4 = true :=
  ⟨rfl, rfl, rfl⟩

/-! ### What holds along the walk -/
structure ObB (w : World) (s t : St) (bs bo bt a pb : Nat) (C : Array Value) (M : Mem) (w1 : World) : Prop where
  s : w1.heap[bs]? = some (.cells s.cells 79 (0, 0))
  o : w1.heap[bo]? = some (.cells C 26 (0, 0))
  ht : w1.heap[bt]? = some (.cells t.cells 79 (0, 0))
  m : IsMem w1 a pb M
  u : Upd [] w w1
  n : w.heap.size ≤ bs ∧ bs < pb ∧ bs < a ∧ pb < bo ∧ a < bo ∧ bo < bt

theorem ObB.step {w w1 w2 : World} {s t : St} {bs bo bt a pb : Nat} {C : Array Value} {M : Mem} (h : ObB w s t bs bo bt a pb C M w1) (u : Upd [] w1 w2) : ObB w s t bs bo bt a pb C M w2 :=
  ⟨u.get h.s (by simp), u.get h.o (by simp), u.get h.ht (by simp), h.m.keep u (by simp) (by simp), h.u.also u (by simp), h.n⟩

theorem ObB.mem {w w1 w2 : World} {s t : St} {bs bo bt a pb : Nat} {C : Array Value} {M M' : Mem} (h : ObB w s t bs bo bt a pb C M w1) (u : Upd [pb] w1 w2) (hm : IsMem w2 a pb M') : ObB w s t bs bo bt a pb C M' w2 := by
  have hn := h.n
  exact ⟨u.get h.s (by simp; omega), u.get h.o (by simp; omega), u.get h.ht (by simp; omega), hm, h.u.also u (by simp; omega), h.n⟩

theorem ObB.far {w w1 w2 : World} {s t : St} {bs bo bt a pb g : Nat} {C : Array Value} {M : Mem} (h : ObB w s t bs bo bt a pb C M w1) (u : Upd [g] w1 w2) (hg : bt < g) : ObB w s t bs bo bt a pb C M w2 := by
  have hn := h.n
  exact ⟨u.get h.s (by simp; omega), u.get h.o (by simp; omega), u.get h.ht (by simp; omega), h.m.keep u (by simp; omega) (by simp; omega), h.u.also u (by simp; omega), h.n⟩

theorem ObB.sett {w w1 w2 : World} {s t t' : St} {bs bo bt a pb : Nat} {C : Array Value} {M : Mem} (h : ObB w s t bs bo bt a pb C M w1) (u : Upd [bt] w1 w2) (ht : w2.heap[bt]? = some (.cells t'.cells 79 (0, 0))) : ObB w s t' bs bo bt a pb C M w2 := by
  have hn := h.n
  exact ⟨u.get h.s (by simp; omega), u.get h.o (by simp; omega), ht, h.m.keep u (by simp; omega) (by simp; omega), h.u.also u (by simp; omega), h.n⟩

theorem ObB.lt {w w1 : World} {s t : St} {bs bo bt a pb : Nat} {C : Array Value} {M : Mem} (h : ObB w s t bs bo bt a pb C M w1) : bt < w1.heap.size := lt_of_heap h.ht

def obC (x : Nat) : Array Value := #[.int .i64 3, .int .i64 0, .int .u32 x, .int .i64 (-1), .int .i64 (-1), .int .u32 1]

theorem ObB.start {w w5 w6 : World} {s t : St} {bs bo a pb : Nat} {C : Array Value} {M : Mem} (hb : PlB w s bs a pb M w5) (ho : w5.heap[bo]? = some (.cells C 26 (0, 0))) (hn : pb < bo ∧ a < bo)
    (h : w6.heap[w5.heap.size]? = some (.cells t.cells 79 (0, 0)) ∧ w6.heap[w5.heap.size + 1]? = some (.cells #[.int .i64 0, .int .u32 0, .int .u32 0, .int .i64 0] 49 (0, 0)) ∧ Upd [] w5 w6) (u0 u1 u2 u3 : Value) :
    ObB w s t bs bo w5.heap.size a pb C M ((((w6.setCell ⟨w5.heap.size + 1, 0, none⟩ u0).setCell ⟨w5.heap.size + 1, 0 + 1, none⟩ u1).setCell ⟨w5.heap.size + 1, 0 + 2, none⟩ u2).setCell ⟨w5.heap.size + 1, 0 + 3, none⟩ u3) := by
  have hl := hb.lt
  have hol := lt_of_heap ho
  have hn0 := hb.n
  have h1 := (hb.step h.2.2).far (k12_f (g := w5.heap.size + 1) u0 u1 u2 u3) (by omega)
  exact ⟨h1.s, (k12_f u0 u1 u2 u3).get (h.2.2.get ho (by simp)) (by simp; omega), (k12_f u0 u1 u2 u3).get h.1 (by simp), h1.m, h1.u, by omega⟩

/-- Along a region that lays a state (operation i, stored by k) and a fault (operation j). -/
structure Ob10 (w : World) (s t : St) (bs bo bt a pb : Nat) (C : Array Value) (M : Mem) (u : St) (i j k : Nat) (d : Nat → Bool) (r : Nat → Value) (w1 : World) : Prop where
  b : ObB w s t bs bo bt a pb C M w1
  x : d i = true → ∃ g Z, r i = .pointer (some ⟨g, 0, none⟩) ∧ bt < g ∧ w1.heap[g]? = some (.cells Z 79 (0, 0)) ∧ Z.size = 17 ∧ (d k = true → Z = u.cells)
  f : d j = true → ∃ g, r j = .pointer (some ⟨g, 0, none⟩) ∧ bt < g ∧ w1.heap[g]? = some (.cells #[.int .i64 0, .int .u32 0, .int .u32 0, .int .i64 0] 49 (0, 0))
  o : d k = true → d i = true
  ne : i ≠ j ∧ i ≠ k ∧ j ≠ k

theorem updD_ne {d : Nat → Bool} {m i : Nat} (h : i ≠ m) : updD d m i = d i := by simp [updD, h]
theorem updD_eq {d : Nat → Bool} {m : Nat} : updD d m m = true := by simp [updD]
theorem updV_ne {r : Nat → Value} {m i : Nat} {v : Value} (h : i ≠ m) : updV r m v i = r i := by simp [updV, h]
theorem updV_eq {r : Nat → Value} {m : Nat} {v : Value} : updV r m v m = v := by simp [updV]

section
variable {w w1 w2 : World} {s t : St} {bs bo bt a pb : Nat} {C : Array Value} {M M' : Mem} {u : St} {i j k : Nat} {d : Nat → Bool} {r : Nat → Value}

theorem Ob10.start (h : ObB w s t bs bo bt a pb C M w1) (ne : i ≠ j ∧ i ≠ k ∧ j ≠ k) (r : Nat → Value) : Ob10 w s t bs bo bt a pb C M u i j k (fun _ => false) r w1 :=
  ⟨h, fun h => (by cases h), fun h => (by cases h), fun h => (by cases h), ne⟩

theorem Ob10.over (h : Ob10 w s t bs bo bt a pb C M u i j k d r w1) {S : List Nat} (hu : Upd S w1 w2) (hS : ∀ x, x ∈ S → x ≤ bt) (hb : ObB w s t bs bo bt a pb C M' w2) (m : Nat) (h1 : i ≠ m) (h2 : j ≠ m) (h3 : k ≠ m) : Ob10 w s t bs bo bt a pb C M' u i j k (updD d m) r w2 := by
  refine ⟨hb, fun hx => ?_, fun hf => ?_, fun ho => ?_, h.ne⟩
  · rw [updD_ne h1] at hx
    obtain ⟨g, Z, e1, e2, e3, e4, e5⟩ := h.x hx
    exact ⟨g, Z, e1, e2, hu.get e3 (fun hh => by have := hS _ hh; omega), e4, fun hk => e5 (by rwa [updD_ne h3] at hk)⟩
  · rw [updD_ne h2] at hf
    obtain ⟨g, e1, e2, e3⟩ := h.f hf
    exact ⟨g, e1, e2, hu.get e3 (fun hh => by have := hS _ hh; omega)⟩
  · rw [updD_ne h3] at ho; rw [updD_ne h1]; exact h.o ho

theorem Ob10.quiet (h : Ob10 w s t bs bo bt a pb C M u i j k d r w1) (hu : Upd [] w1 w2) (m : Nat) (h1 : i ≠ m) (h2 : j ≠ m) (h3 : k ≠ m) : Ob10 w s t bs bo bt a pb C M u i j k (updD d m) r w2 :=
  h.over hu (by simp) (h.b.step hu) m h1 h2 h3

theorem Ob10.same (h : Ob10 w s t bs bo bt a pb C M u i j k d r w1) (m : Nat) (h1 : i ≠ m) (h2 : j ≠ m) (h3 : k ≠ m) : Ob10 w s t bs bo bt a pb C M u i j k (updD d m) r w1 := h.quiet (Upd.refl [] w1) m h1 h2 h3

theorem Ob10.allocS (h : Ob10 w s t bs bo bt a pb C M u i j k d r w1) (hd : d i = false) (Z : Array Value) (hZ : Z.size = 17) : Ob10 w s t bs bo bt a pb C M u i j k (updD d i) (updV r i (.pointer (some ⟨w1.heap.size, 0, none⟩))) (w1.alloc (.cells Z 79)) := by
  obtain ⟨n1, n2, n3⟩ := h.ne
  refine ⟨h.b.step ((Upd.refl [] w1).alloc _), fun _ => ⟨_, _, updV_eq, h.b.lt, heap_alloc_new _ _, hZ, fun hk => ?_⟩, fun hf => ?_, fun _ => updD_eq, h.ne⟩
  · rw [updD_ne n2.symm] at hk
    rw [h.o hk] at hd; cases hd
  · rw [updD_ne n1.symm] at hf
    obtain ⟨g, e1, e2, e3⟩ := h.f hf
    exact ⟨g, by rw [updV_ne n1.symm]; exact e1, e2, heap_alloc_keep _ e3⟩

theorem Ob10.allocF (h : Ob10 w s t bs bo bt a pb C M u i j k d r w1) : Ob10 w s t bs bo bt a pb C M u i j k (updD d j) (updV r j (.pointer (some ⟨w1.heap.size, 0, none⟩))) (w1.alloc (.cells #[.int .i64 0, .int .u32 0, .int .u32 0, .int .i64 0] 49)) := by
  obtain ⟨n1, n2, n3⟩ := h.ne
  refine ⟨h.b.step ((Upd.refl [] w1).alloc _), fun hx => ?_, fun _ => ⟨_, updV_eq, h.b.lt, heap_alloc_new _ _⟩, fun hk => ?_, h.ne⟩
  · rw [updD_ne n1] at hx
    obtain ⟨g, Z, e1, e2, e3, e4, e5⟩ := h.x hx
    exact ⟨g, Z, by rw [updV_ne n1]; exact e1, e2, heap_alloc_keep _ e3, e4, fun hk => e5 (by rwa [updD_ne n3.symm] at hk)⟩
  · rw [updD_ne n3.symm] at hk; rw [updD_ne n1]; exact h.o hk

theorem Ob10.storeS (h : Ob10 w s t bs bo bt a pb C M u i j k d r w1) {g : Nat} {Z : Array Value} (hg : r i = .pointer (some ⟨g, 0, none⟩)) (hlt : bt < g) (hb : w1.heap[g]? = some (.cells Z 79 (0, 0))) (hZ : Z.size = 17) (hd : d i = true) :
    Ob10 w s t bs bo bt a pb C M u i j k (updD d k) r (w1.setCells g 0 u.cells.toList) := by
  obtain ⟨n1, n2, n3⟩ := h.ne
  have hu : Upd [g] w1 (w1.setCells g 0 u.cells.toList) := (Upd.refl [g] w1).setCells (.inl (by simp)) _ _
  refine ⟨h.b.far hu hlt, fun _ => ⟨g, u.cells, hg, hlt, heap_store_state u hb hZ, St.size u, fun _ => rfl⟩, fun hf => ?_, fun _ => by rw [updD_ne n2]; exact hd, h.ne⟩
  rw [updD_ne n3] at hf
  obtain ⟨g', e1, e2, e3⟩ := h.f hf
  have hne : g' ≠ g := by
    intro e
    subst e
    rw [hb] at e3
    injection e3 with e3
    injection e3 with _ e4
    exact absurd e4 (by decide)
  exact ⟨g', e1, e2, hu.get e3 (by simpa using hne)⟩

theorem Ob10.storeF (h : Ob10 w s t bs bo bt a pb C M u i j k d r w1) {g : Nat} (hg : r j = .pointer (some ⟨g, 0, none⟩)) (hlt : bt < g) (hb : w1.heap[g]? = some (.cells #[.int .i64 0, .int .u32 0, .int .u32 0, .int .i64 0] 49 (0, 0))) (m : Nat) (h1 : i ≠ m) (h2 : j ≠ m) (h3 : k ≠ m) :
    Ob10 w s t bs bo bt a pb C M u i j k (updD d m) r (w1.setCells g 0 (#[.int .i64 0, .int .u32 0, .int .u32 0, .int .i64 0] : Array Value).toList) := by
  have hu : Upd [g] w1 (w1.setCells g 0 (#[.int .i64 0, .int .u32 0, .int .u32 0, .int .i64 0] : Array Value).toList) := (Upd.refl [g] w1).setCells (.inl (by simp)) _ _
  refine ⟨h.b.far hu hlt, fun hx => ?_, fun hf => ⟨g, hg, hlt, by rw [heap_setCells_same _ _ _ _ hb]; rfl⟩, fun ho => ?_, h.ne⟩
  · rw [updD_ne h1] at hx
    obtain ⟨g', Z, e1, e2, e3, e4, e5⟩ := h.x hx
    have hne : g' ≠ g := by
      intro e
      subst e
      rw [hb] at e3
      injection e3 with e3
      injection e3 with _ e4
      exact absurd e4 (by decide)
    exact ⟨g', Z, e1, e2, hu.get e3 (by simpa using hne), e4, fun hk => e5 (by rwa [updD_ne h3] at hk)⟩
  · rw [updD_ne h3] at ho; rw [updD_ne h1]; exact h.o ho

theorem wp_store_flt0 {op : Oper} {a : Act} {w : World} {K : Act → World → Prop} {Q : Exit → Act → World → Prop} (g : Nat) (x y : Operand) (ho : op.op = .store 49 x y) (hx : a.eval x = .pointer (some ⟨g, 0, none⟩)) (hy : a.eval y = .agg #[.int .i64 0, .int .u32 0, .int .u32 0, .int .i64 0])
    (hb : w.heap[g]? = some (.cells #[.int .i64 0, .int .u32 0, .int .u32 0, .int .i64 0] 49 (0, 0))) (hK : K (a.put op.dst undef) (w.setCells g 0 (#[.int .i64 0, .int .u32 0, .int .u32 0, .int .i64 0] : Array Value).toList)) : op.wp Try.prog a w K Q :=
  wp_store_mid 49 x y ho g 0 #[.int .i64 0, .int .u32 0, .int .u32 0, .int .i64 0] hx hy (there_of hb 0 4 (by decide)) fault_info (by simp [Value.oneCell']) hK
end

end Go.Proofs.Ytoplekfnghkkdaa
