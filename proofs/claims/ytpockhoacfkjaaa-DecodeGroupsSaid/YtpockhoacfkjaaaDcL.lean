/-
  The decoder reads nothing behind what it tells: plain facts. No condition; no program in sight.
-/
import Derived.Test.YtpockhoacfkjaaaDcS
namespace Go.Proofs.Ytpockhoacfkjaaa
open Go Go.RowKit
set_option linter.unusedVariables false
set_option linter.unusedSimpArgs false

/-- Another list that agrees on the first n. -/
def Agree (n : Nat) (L L' : List Int) : Prop := n ≤ L'.length ∧ ∀ i, i < n → L'.getD i 0 = L.getD i 0

theorem Agree.le {n m : Nat} {L L' : List Int} (h : Agree n L L') (hm : m ≤ n) : Agree m L L' :=
  ⟨Nat.le_trans hm h.1, fun i hi => h.2 i (by omega)⟩

/-- Reads at most n, and nothing behind. -/
def Loc {α : Type} (n : Nat) (f : List Int → Nat → DR α) : Prop := ∀ L k, k ≤ L.length → match f L k with
  | .ok v k' => k ≤ k' ∧ k' ≤ k + n ∧ k' ≤ L.length ∧ ∀ L', Agree k' L L' → f L' k = .ok v k'
  | .err c => 10 ≤ c ∧ (c = 10 ∨ ∀ L', Agree L.length L L' → f L' k = .err c)

theorem Loc.pure {α : Type} (v : α) : Loc 0 (fun _ k => .ok v k) := fun L k h => ⟨Nat.le_refl _, Nat.le_refl _, h, fun _ _ => rfl⟩
theorem Loc.fail {α : Type} {c : Int} (hc : 10 ≤ c) : Loc 0 (fun _ _ => (.err c : DR α)) := fun L k _ => ⟨hc, .inr fun _ _ => rfl⟩

theorem Loc.mono {α : Type} {n m : Nat} {f : List Int → Nat → DR α} (h : Loc n f) (hm : n ≤ m) : Loc m f := by
  intro L k hk
  have := h L k hk
  split <;> rename_i he <;> rw [he] at this
  · exact ⟨this.1, by omega, this.2.2⟩
  · exact this

theorem Loc.bind {α β : Type} {n m : Nat} {f : List Int → Nat → DR α} {g : α → List Int → Nat → DR β} (hf : Loc n f) (hg : ∀ v, Loc m (g v)) :
    Loc (n + m) (fun L k => (f L k).bind fun v k => g v L k) := by
  intro L k hk
  have h := hf L k hk
  cases hfk : f L k with
  | err c =>
    rw [hfk] at h
    simp only [hfk, DR.bind_err]
    refine ⟨h.1, ?_⟩
    rcases h.2 with h | h
    · exact .inl h
    · exact .inr fun L' hL => by rw [h L' hL]; rfl
  | ok v k' =>
    rw [hfk] at h
    simp only [hfk, DR.bind_ok]
    have h2 := hg v L k' h.2.2.1
    cases hgk : g v L k' with
    | err c =>
      rw [hgk] at h2
      simp only [hgk]
      refine ⟨h2.1, ?_⟩
      rcases h2.2 with h2 | h2
      · exact .inl h2
      · exact .inr fun L' hL => by rw [h.2.2.2 L' (hL.le h.2.2.1), DR.bind_ok, h2 L' hL]
    | ok u k2 =>
      rw [hgk] at h2
      simp only [hgk]
      exact ⟨by omega, by omega, h2.2.2.1, fun L' hL => by rw [h.2.2.2 L' (hL.le h2.1), DR.bind_ok, h2.2.2.2 L' hL]⟩

theorem Loc.ite {α : Type} {n : Nat} {p : Prop} [Decidable p] {f g : List Int → Nat → DR α} (hf : Loc n f) (hg : Loc n g) : Loc n (fun L k => if p then f L k else g L k) := by
  intro L k hk
  by_cases hp : p
  · have := hf L k hk
    simp only [if_pos hp]
    exact this
  · have := hg L k hk
    simp only [if_neg hp]
    exact this

theorem loc_byte : Loc 1 dcByte := by
  intro L k hk
  unfold dcByte
  by_cases h : k < L.length
  · simp only [if_pos h]
    refine ⟨by omega, by omega, by omega, fun L' hL => ?_⟩
    rw [if_pos (by have := hL.1; omega), hL.2 k (by omega)]
  · simp only [if_neg h]
    exact ⟨by decide, .inl trivial⟩

theorem loc_word : Loc 4 dcWord := by
  intro L k hk
  unfold dcWord
  by_cases h : k + 4 ≤ L.length
  · simp only [if_pos h]
    refine ⟨by omega, by omega, by omega, fun L' hL => ?_⟩
    rw [if_pos (by have := hL.1; omega), wordAt, wordAt, hL.2 k (by omega), hL.2 (k + 1) (by omega), hL.2 (k + 2) (by omega), hL.2 (k + 3) (by omega)]
  · simp only [if_neg h]
    exact ⟨by decide, .inl trivial⟩

theorem loc_imm8 : Loc 1 dcImm8 := Loc.bind loc_byte fun v => Loc.pure _
theorem loc_small : Loc 1 dcSmall := Loc.bind loc_byte fun v => Loc.pure _
theorem loc_imm32 : Loc 4 dcImm32 := Loc.bind loc_word fun v => Loc.pure _
theorem loc_mrm : Loc 1 dcMrm := Loc.bind loc_byte fun v => Loc.pure _

theorem loc_tail (mod base x sc : Int) : Loc 4 (fun L k => dcTail L mod base x sc k) :=
  Loc.ite ((Loc.bind loc_byte fun v => Loc.pure _).mono (by decide)) (Loc.ite (Loc.bind loc_word fun v => Loc.pure _) (Loc.ite (Loc.bind loc_word fun v => Loc.pure _) ((Loc.pure _).mono (by decide))))

theorem loc_place (m : Mrm) : Loc 5 (fun L k => dcPlace L m k) :=
  Loc.ite ((Loc.pure _).mono (by decide)) (Loc.ite (Loc.bind loc_byte fun v => loc_tail _ _ _ _) ((loc_tail _ _ _ _).mono (by decide)))

theorem loc_two (op : Int) (t : Bool) : Loc 6 (fun L k => dcTwo L op t k) := Loc.bind loc_mrm fun m => Loc.bind (loc_place m) fun o => Loc.pure _
theorem loc_one (op : Int) (m : Mrm) : Loc 5 (fun L k => dcOne L op m k) := Loc.bind (loc_place m) fun o => Loc.pure _

theorem loc_row (c : Int) : Loc 6 (fun L k => dcRow L c k) :=
  Loc.ite (loc_two _ _) (Loc.ite (loc_two _ _) (Loc.ite ((Loc.bind loc_imm32 fun v => Loc.pure _).mono (by decide)) ((Loc.fail (by decide)).mono (by decide))))

theorem loc_lea : Loc 6 (fun L k => dcLea L k) :=
  Loc.bind loc_mrm fun m => Loc.ite ((Loc.fail (by decide)).mono (by decide)) (Loc.bind (loc_place m) fun o => Loc.pure _)

theorem loc_lays (c : Int) : Loc 10 (fun L k => dcLays L c k) :=
  Loc.bind loc_mrm fun m => Loc.ite ((Loc.fail (by decide)).mono (by decide)) (Loc.bind (loc_place m) fun o => Loc.ite (Loc.bind loc_imm32 fun v => Loc.pure _) ((Loc.bind loc_small fun v => Loc.pure _).mono (by decide)))

theorem loc_shift (c : Int) : Loc 7 (fun L k => dcShift L c k) :=
  Loc.bind loc_mrm fun m => Loc.ite ((Loc.fail (by decide)).mono (by decide)) (Loc.bind (loc_place m) fun o => Loc.ite (Loc.bind loc_small fun v => Loc.pure _) (Loc.ite ((Loc.pure _).mono (by decide)) ((Loc.pure _).mono (by decide))))

theorem loc_number (c : Int) : Loc 6 (fun L k => dcNumber L c k) :=
  Loc.bind loc_mrm fun m => Loc.ite ((Loc.fail (by decide)).mono (by decide)) (loc_one _ m)

theorem loc_unary : Loc 10 (fun L k => dcUnary L k) :=
  Loc.bind loc_mrm fun m => Loc.ite (Loc.bind (loc_place m) fun o => Loc.bind loc_imm32 fun v => Loc.pure _) (Loc.ite ((loc_one _ m).mono (by decide)) ((Loc.fail (by decide)).mono (by decide)))

theorem loc_last : Loc 6 (fun L k => dcLast L k) :=
  Loc.bind loc_mrm fun m => Loc.ite (loc_one _ m) (Loc.ite ((Loc.fail (by decide)).mono (by decide)) ((Loc.fail (by decide)).mono (by decide)))

theorem loc_groups (c : Int) : Loc 10 (fun L k => dcGroups L c k) :=
  Loc.ite ((loc_shift _).mono (by decide)) (Loc.ite ((Loc.bind loc_small fun o => Loc.ite (Loc.pure _) (Loc.fail (by decide))).mono (by decide))
    (Loc.ite ((Loc.bind loc_byte fun x => Loc.ite (Loc.pure _) (Loc.ite (Loc.pure _) (Loc.fail (by decide)))).mono (by decide)) (Loc.ite ((loc_number _).mono (by decide))
    (Loc.ite ((Loc.bind loc_byte fun x => Loc.ite (Loc.pure _) (Loc.ite (Loc.pure _) (Loc.fail (by decide)))).mono (by decide)) (Loc.ite loc_unary (Loc.ite (loc_last.mono (by decide)) ((Loc.fail (by decide)).mono (by decide))))))))

theorem loc_plain (c : Int) : Loc 10 (fun L k => dcPlain L c k) :=
  Loc.ite ((Loc.pure _).mono (by decide)) (Loc.ite ((Loc.pure _).mono (by decide)) (Loc.ite ((Loc.pure _).mono (by decide)) (Loc.ite ((Loc.pure _).mono (by decide)) (Loc.ite ((Loc.pure _).mono (by decide))
    (Loc.ite ((Loc.pure _).mono (by decide)) (Loc.ite ((Loc.pure _).mono (by decide)) (Loc.ite ((Loc.bind loc_imm32 fun v => Loc.pure _).mono (by decide)) (Loc.ite ((Loc.bind loc_imm32 fun v => Loc.pure _).mono (by decide))
    (Loc.ite ((Loc.bind loc_imm8 fun v => Loc.pure _).mono (by decide)) (loc_groups _))))))))))

theorem loc_moves (c : Int) : Loc 10 (fun L k => dcMoves L c k) :=
  Loc.ite ((Loc.bind loc_imm32 fun v => Loc.pure _).mono (by decide)) (Loc.ite ((Loc.bind loc_imm8 fun v => Loc.pure _).mono (by decide))
    (Loc.ite (Loc.bind loc_mrm fun m => Loc.bind (loc_place m) fun o => Loc.bind loc_imm32 fun v => Loc.pure _) (Loc.ite ((Loc.bind loc_mrm fun m => Loc.bind (loc_place m) fun o => Loc.bind loc_imm8 fun v => Loc.pure _).mono (by decide))
    (Loc.ite ((loc_two _ _).mono (by decide)) (Loc.ite ((loc_two _ _).mono (by decide)) (Loc.ite ((loc_two _ _).mono (by decide)) (Loc.ite ((loc_two _ _).mono (by decide)) (Loc.ite ((loc_two _ _).mono (by decide)) (Loc.ite ((loc_two _ _).mono (by decide))
    (Loc.ite (loc_lea.mono (by decide)) (Loc.ite ((Loc.bind loc_imm32 fun v => Loc.pure _).mono (by decide)) (Loc.ite (loc_lays _) (loc_plain _)))))))))))))

theorem loc_second : Loc 8 (fun L k => dcSecond L k) :=
  (Loc.bind (n := 1) (m := 7) loc_byte fun c => Loc.ite ((Loc.fail (by decide)).mono (by decide)) (Loc.ite ((Loc.bind (loc_two _ _) fun i => Loc.pure _).mono (by decide)) (Loc.ite ((Loc.bind loc_imm32 fun v => Loc.pure _).mono (by decide))
    (Loc.ite ((Loc.bind loc_mrm fun m => Loc.ite ((Loc.fail (by decide)).mono (by decide)) (Loc.bind (loc_place m) fun o => Loc.pure _)).mono (by decide))
    (Loc.ite ((loc_two _ _).mono (by decide)) (Loc.ite ((loc_two _ _).mono (by decide)) (Loc.ite ((loc_two _ _).mono (by decide)) ((Loc.fail (by decide)).mono (by decide)))))))))

theorem loc_rest (c : Int) : Loc 10 (fun L k => dcRest L c k) :=
  (Loc.ite (loc_second.mono (by decide)) (Loc.ite ((loc_row _).mono (by decide)) (Loc.ite ((Loc.pure _).mono (by decide)) (Loc.ite ((Loc.pure _).mono (by decide)) (Loc.ite ((Loc.pure _).mono (by decide)) (Loc.ite ((Loc.pure _).mono (by decide))
    (Loc.ite ((Loc.bind loc_imm8 fun v => Loc.pure _).mono (by decide)) (Loc.ite ((Loc.bind loc_small fun v => Loc.pure _).mono (by decide)) (Loc.ite ((Loc.bind loc_imm32 fun v => Loc.pure _).mono (by decide)) (loc_moves _))))))))))

theorem loc_insn : Loc 11 dcInsn := Loc.bind (n := 1) (m := 10) loc_byte loc_rest

theorem insn_pos {L : List Int} {i : Ins} {k : Nat} (h : dcInsn L 0 = .ok i k) : 1 ≤ k := by
  unfold dcInsn dcByte at h
  by_cases hl : 0 < L.length
  · rw [if_pos hl, DR.bind_ok] at h
    have := loc_rest (L.getD 0 0) L 1 hl
    simp only [Nat.zero_add] at h
    simp only [h] at this
    exact this.1
  · rw [if_neg hl] at h
    cases h

theorem agree_app (L M : List Int) (n : Nat) (hn : n ≤ L.length) : Agree n L (L ++ M) :=
  ⟨by rw [List.length_append]; omega, fun i hi => by rw [List.getD_eq_getElem?_getD, List.getD_eq_getElem?_getD, List.getElem?_append_left (by omega)]⟩

theorem agree_app' (L M : List Int) (n : Nat) (hn : n ≤ L.length) : Agree n (L ++ M) L :=
  ⟨hn, fun i hi => by rw [List.getD_eq_getElem?_getD, List.getD_eq_getElem?_getD, List.getElem?_append_left (by omega)]⟩

theorem agree_take (L : List Int) (j n : Nat) (hn : n ≤ j) (hj : j ≤ L.length) : Agree n (L.take j) L :=
  ⟨by omega, fun i hi => by rw [List.getD_eq_getElem?_getD, List.getD_eq_getElem?_getD, List.getElem?_take, if_pos (by omega)]⟩

theorem front_same (L M : List Int) (h : decE L ≠ 10) : decI (L ++ M) = decI L ∧ decN (L ++ M) = decN L ∧ decE (L ++ M) = decE L := by
  have hl := loc_insn L 0 (Nat.zero_le _)
  have e : dcInsn (L ++ M) 0 = dcInsn L 0 := by
    unfold decE at h
    cases hd : dcInsn L 0 with
    | ok i k => rw [hd] at hl; exact hl.2.2.2 _ (agree_app L M k hl.2.2.1)
    | err c =>
      rw [hd] at hl h
      rcases hl.2 with h1 | h1
      · exact absurd h1 h
      · exact h1 _ (agree_app L M _ (Nat.le_refl _))
  simp only [decI, decN, decE, e, and_self]

theorem front_short (L M : List Int) (h : decE L = 10) : decE (L ++ M) ≠ 0 ∨ (L.length : Int) < decN (L ++ M) := by
  have hl := loc_insn (L ++ M) 0 (Nat.zero_le _)
  by_cases h0 : decE (L ++ M) = 0
  · refine .inr ?_
    unfold decE at h0 h
    unfold decN
    cases hd : dcInsn (L ++ M) 0 with
    | err c =>
      rw [hd] at h0 hl
      simp only at h0
      have := hl.1
      omega
    | ok i k =>
      rw [hd] at hl
      simp only
      by_cases hk : k ≤ L.length
      · rw [hl.2.2.2 L (agree_app' L M k hk)] at h
        simp at h
      · omega
  · exact .inl h0

theorem front_none (L : List Int) (h : decE L ≠ 0) : decN L = 0 ∧ decI L = Ins.zero := by
  unfold decE at h
  unfold decN decI
  cases hd : dcInsn L 0 with
  | ok i k => rw [hd] at h; exact absurd rfl h
  | err c => exact ⟨rfl, rfl⟩

theorem front_cut (L : List Int) (h : decE L = 0) : 1 ≤ decN L ∧ decN L ≤ 15 ∧ decN L ≤ L.length ∧ (decI L).len = decN L ∧ ∀ j : Nat, (j : Int) < decN L → decE (L.take j) = 10 := by
  have hl := loc_insn L 0 (Nat.zero_le _)
  unfold decE at h
  unfold decN decI
  cases hd : dcInsn L 0 with
  | err c =>
    rw [hd] at h hl
    simp only at h
    have := hl.1
    omega
  | ok i k =>
    have hp := insn_pos hd
    rw [hd] at hl
    refine ⟨?_, ?_, ?_, rfl, fun j hj => ?_⟩
    · simp only; omega
    · simp only; omega
    · simp only; omega
    · simp only at hj
      have h2 := loc_insn (L.take j) 0 (Nat.zero_le _)
      have hlen : (L.take j).length = j := by rw [List.length_take]; omega
      unfold decE
      cases hd2 : dcInsn (L.take j) 0 with
      | ok i2 k2 =>
        rw [hd2] at h2
        have h3 := h2.2.2.2 L (agree_take L j k2 (by omega) (by omega))
        rw [hd] at h3
        injection h3 with h4 h5
        omega
      | err c =>
        rw [hd2] at h2
        simp only
        rcases h2.2 with h3 | h3
        · exact h3
        · have h4 := h3 L (by rw [hlen]; exact agree_take L j j (Nat.le_refl _) (by omega))
          rw [hd] at h4
          cases h4

end Go.Proofs.Ytpockhoacfkjaaa
