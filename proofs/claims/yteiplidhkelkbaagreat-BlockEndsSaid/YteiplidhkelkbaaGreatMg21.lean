/-
  Parts of the proof (their names shortened by a program). No condition.
-/
import Derived.Test.YteiplidhkelkbaaGreatMg01
import Derived.Test.YteiplidhkelkbaaGreatMg04
import Derived.Test.YteiplidhkelkbaaGreatMg15
namespace Go.Proofs.YteiplidhkelkbaaGreat
open Go Go.RowKit
set_option linter.unusedVariables false
set_option linter.unusedSimpArgs false
set_option maxRecDepth 100000
set_option maxHeartbeats 16000000
def Yjz (n : Nat) (L L' : List Int) : Prop := n ≤ L'.length ∧ ∀ i, i < n → L'.getD i 0 = L.getD i 0
theorem Yjz.le {n m : Nat} {L L' : List Int} (h : Yjz n L L') (hm : m ≤ n) : Yjz m L L' :=
 ⟨Nat.le_trans hm h.1, fun i hi => h.2 i (by omega)⟩
def Loc {α : Type} (n : Nat) (f : List Int → Nat → DR α) : Prop := ∀ L k, k ≤ L.length → match f L k with
 |.ok v k' => k ≤ k' ∧ k' ≤ k + n ∧ k' ≤ L.length ∧ ∀ L', Yjz k' L L' → f L' k = .ok v k'
 |.err c => 10 ≤ c ∧ (c = 10 ∨ ∀ L', Yjz L.length L L' → f L' k = .err c)
theorem Loc.pure {α : Type} (v : α) : Loc 0 (fun _ k => .ok v k) := fun L k h => ⟨Nat.le_refl _, Nat.le_refl _, h, fun _ _ => rfl⟩
theorem Loc.fail {α : Type} {c : Int} (hc : 10 ≤ c) : Loc 0 (fun _ _ => (.err c : DR α)) := fun L k _ => ⟨hc, .inr fun _ _ => rfl⟩
theorem Loc.mono {α : Type} {n m : Nat} {f : List Int → Nat → DR α} (h : Loc n f) (hm : n ≤ m) : Loc m f := by
 intro L k hk
 have := h L k hk
 split <;> rename_i he <;> rw [he] at this
 ·exact ⟨this.1, by omega, this.2.2⟩
 ·exact this
theorem Loc.bind {α β : Type} {n m : Nat} {f : List Int → Nat → DR α} {g : α → List Int → Nat → DR β} (hf : Loc n f) (hg : ∀ v, Loc m (g v)) :
  Loc (n + m) (fun L k => (f L k).bind fun v k => g v L k) := by
 intro L k hk
 have h := hf L k hk
 cases hfk : f L k with
 |err c =>
  rw [hfk] at h
  simp only [hfk, DR.bind_err]
  refine ⟨h.1, ?_⟩
  rcases h.2 with h | h
  ·exact .inl h
  ·exact .inr fun L' hL => by rw [h L' hL]; rfl
 |ok v k' =>
  rw [hfk] at h
  simp only [hfk, DR.bind_ok]
  have h2 := hg v L k' h.2.2.1
  cases hgk : g v L k' with
  |err c =>
   rw [hgk] at h2
   simp only [hgk]
   refine ⟨h2.1, ?_⟩
   rcases h2.2 with h2 | h2
   ·exact .inl h2
   ·exact .inr fun L' hL => by rw [h.2.2.2 L' (hL.le h.2.2.1), DR.bind_ok, h2 L' hL]
  |ok u k2 =>
   rw [hgk] at h2
   simp only [hgk]
   exact ⟨by omega, by omega, h2.2.2.1, fun L' hL => by rw [h.2.2.2 L' (hL.le h2.1), DR.bind_ok, h2.2.2.2 L' hL]⟩
theorem Loc.ite {α : Type} {n : Nat} {p : Prop} [Decidable p] {f g : List Int → Nat → DR α} (hf : Loc n f) (hg : Loc n g) : Loc n (fun L k => if p then f L k else g L k) := by
 intro L k hk
 by_cases hp : p
 ·have := hf L k hk
  simp only [if_pos hp]
  exact this
 ·have := hg L k hk
  simp only [if_neg hp]
  exact this
theorem Yes : Loc 1 Yz := by
 intro L k hk
 unfold Yz
 by_cases h : k < L.length
 ·simp only [if_pos h]
  refine ⟨by omega, by omega, by omega, fun L' hL => ?_⟩
  rw [if_pos (by have := hL.1; omega), hL.2 k (by omega)]
 ·simp only [if_neg h]
  exact ⟨by decide, .inl trivial⟩
theorem Ykc : Loc 4 Ycl := by
 intro L k hk
 unfold Ycl
 by_cases h : k + 4 ≤ L.length
 ·simp only [if_pos h]
  refine ⟨by omega, by omega, by omega, fun L' hL => ?_⟩
  rw [if_pos (by have := hL.1; omega), Yb0, Yb0, hL.2 k (by omega), hL.2 (k + 1) (by omega), hL.2 (k + 2) (by omega), hL.2 (k + 3) (by omega)]
 ·simp only [if_neg h]
  exact ⟨by decide, .inl trivial⟩
theorem Yi2 : Loc 1 Yce := Loc.bind Yes fun v => Loc.pure _
theorem Yia : Loc 1 Ybu := Loc.bind Yes fun v => Loc.pure _
theorem Yds : Loc 4 Yas := Loc.bind Ykc fun v => Loc.pure _
theorem Ye7 : Loc 1 Yai := Loc.bind Yes fun v => Loc.pure _
theorem Ymt (mod base x sc : Int) : Loc 4 (fun L k => Yak L mod base x sc k) :=
 Loc.ite ((Loc.bind Yes fun v => Loc.pure _).mono (by decide)) (Loc.ite (Loc.bind Ykc fun v => Loc.pure _) (Loc.ite (Loc.bind Ykc fun v => Loc.pure _) ((Loc.pure _).mono (by decide))))
theorem Yec (m : Mrm) : Loc 5 (fun L k => Ya6 L m k) :=
 Loc.ite ((Loc.pure _).mono (by decide)) (Loc.ite (Loc.bind Yes fun v => Ymt _ _ _ _) ((Ymt _ _ _ _).mono (by decide)))
theorem Yd6 (op : Int) (t : Bool) : Loc 6 (fun L k => Yaz L op t k) := Loc.bind Ye7 fun m => Loc.bind (Yec m) fun o => Loc.pure _
theorem Ylp (op : Int) (m : Mrm) : Loc 5 (fun L k => Ybb L op m k) := Loc.bind (Yec m) fun o => Loc.pure _
theorem loc_row (c : Int) : Loc 6 (fun L k => Yf4 L c k) :=
 Loc.ite (Yd6 _ _) (Loc.ite (Yd6 _ _) (Loc.ite ((Loc.bind Yds fun v => Loc.pure _).mono (by decide)) ((Loc.fail (by decide)).mono (by decide))))
theorem loc_lea : Loc 6 (fun L k => Yhq L k) :=
 Loc.bind Ye7 fun m => Loc.ite ((Loc.fail (by decide)).mono (by decide)) (Loc.bind (Yec m) fun o => Loc.pure _)
theorem loc_lays (c : Int) : Loc 10 (fun L k => Yea L c k) :=
 Loc.bind Ye7 fun m => Loc.ite ((Loc.fail (by decide)).mono (by decide)) (Loc.bind (Yec m) fun o => Loc.ite (Loc.bind Yds fun v => Loc.pure _) ((Loc.bind Yia fun v => Loc.pure _).mono (by decide)))
theorem Yt7 (c : Int) : Loc 7 (fun L k => Yc2 L c k) :=
 Loc.bind Ye7 fun m => Loc.ite ((Loc.fail (by decide)).mono (by decide)) (Loc.bind (Yec m) fun o => Loc.ite (Loc.bind Yia fun v => Loc.pure _) (Loc.ite ((Loc.pure _).mono (by decide)) ((Loc.pure _).mono (by decide))))
theorem Yrr (c : Int) : Loc 6 (fun L k => Yc7 L c k) :=
 Loc.bind Ye7 fun m => Loc.ite ((Loc.fail (by decide)).mono (by decide)) (Ylp _ m)
theorem Yu0 : Loc 10 (fun L k => Ye9 L k) :=
 Loc.bind Ye7 fun m => Loc.ite (Loc.bind (Yec m) fun o => Loc.bind Yds fun v => Loc.pure _) (Loc.ite ((Ylp _ m).mono (by decide)) ((Loc.fail (by decide)).mono (by decide)))
theorem loc_last : Loc 6 (fun L k => Yf2 L k) :=
 Loc.bind Ye7 fun m => Loc.ite (Ylp _ m) (Loc.ite ((Loc.fail (by decide)).mono (by decide)) ((Loc.fail (by decide)).mono (by decide)))
theorem Ysr (c : Int) : Loc 10 (fun L k => Yb7 L c k) :=
 Loc.ite ((Yt7 _).mono (by decide)) (Loc.ite ((Loc.bind Yia fun o => Loc.ite (Loc.pure _) (Loc.fail (by decide))).mono (by decide))
  (Loc.ite ((Loc.bind Yes fun x => Loc.ite (Loc.pure _) (Loc.ite (Loc.pure _) (Loc.fail (by decide)))).mono (by decide)) (Loc.ite ((Yrr _).mono (by decide))
  (Loc.ite ((Loc.bind Yes fun x => Loc.ite (Loc.pure _) (Loc.ite (Loc.pure _) (Loc.fail (by decide)))).mono (by decide)) (Loc.ite Yu0 (Loc.ite (loc_last.mono (by decide)) ((Loc.fail (by decide)).mono (by decide))))))))
theorem Yuy (c : Int) : Loc 10 (fun L k => Ycg L c k) :=
 Loc.ite ((Loc.pure _).mono (by decide)) (Loc.ite ((Loc.pure _).mono (by decide)) (Loc.ite ((Loc.pure _).mono (by decide)) (Loc.ite ((Loc.pure _).mono (by decide)) (Loc.ite ((Loc.pure _).mono (by decide))
  (Loc.ite ((Loc.pure _).mono (by decide)) (Loc.ite ((Loc.pure _).mono (by decide)) (Loc.ite ((Loc.bind Yds fun v => Loc.pure _).mono (by decide)) (Loc.ite ((Loc.bind Yds fun v => Loc.pure _).mono (by decide))
  (Loc.ite ((Loc.bind Yi2 fun v => Loc.pure _).mono (by decide)) (Ysr _))))))))))
theorem Yt8 (c : Int) : Loc 10 (fun L k => Ya2 L c k) :=
 Loc.ite ((Loc.bind Yds fun v => Loc.pure _).mono (by decide)) (Loc.ite ((Loc.bind Yi2 fun v => Loc.pure _).mono (by decide))
  (Loc.ite (Loc.bind Ye7 fun m => Loc.bind (Yec m) fun o => Loc.bind Yds fun v => Loc.pure _) (Loc.ite ((Loc.bind Ye7 fun m => Loc.bind (Yec m) fun o => Loc.bind Yi2 fun v => Loc.pure _).mono (by decide))
  (Loc.ite ((Yd6 _ _).mono (by decide)) (Loc.ite ((Yd6 _ _).mono (by decide)) (Loc.ite ((Yd6 _ _).mono (by decide)) (Loc.ite ((Yd6 _ _).mono (by decide)) (Loc.ite ((Yd6 _ _).mono (by decide)) (Loc.ite ((Yd6 _ _).mono (by decide))
  (Loc.ite (loc_lea.mono (by decide)) (Loc.ite ((Loc.bind Yds fun v => Loc.pure _).mono (by decide)) (Loc.ite (loc_lays _) (Yuy _)))))))))))))
theorem Yrm : Loc 8 (fun L k => Yeh L k) :=
 (Loc.bind (n := 1) (m := 7) Yes fun c => Loc.ite ((Loc.fail (by decide)).mono (by decide)) (Loc.ite ((Loc.bind (Yd6 _ _) fun i => Loc.pure _).mono (by decide)) (Loc.ite ((Loc.bind Yds fun v => Loc.pure _).mono (by decide))
  (Loc.ite ((Loc.bind Ye7 fun m => Loc.ite ((Loc.fail (by decide)).mono (by decide)) (Loc.bind (Yec m) fun o => Loc.pure _)).mono (by decide))
  (Loc.ite ((Yd6 _ _).mono (by decide)) (Loc.ite ((Yd6 _ _).mono (by decide)) (Loc.ite ((Yd6 _ _).mono (by decide)) ((Loc.fail (by decide)).mono (by decide)))))))))
theorem Ynr (c : Int) : Loc 10 (fun L k => Yde L c k) :=
 (Loc.ite (Yrm.mono (by decide)) (Loc.ite ((loc_row _).mono (by decide)) (Loc.ite ((Loc.pure _).mono (by decide)) (Loc.ite ((Loc.pure _).mono (by decide)) (Loc.ite ((Loc.pure _).mono (by decide)) (Loc.ite ((Loc.pure _).mono (by decide))
  (Loc.ite ((Loc.bind Yi2 fun v => Loc.pure _).mono (by decide)) (Loc.ite ((Loc.bind Yia fun v => Loc.pure _).mono (by decide)) (Loc.ite ((Loc.bind Yds fun v => Loc.pure _).mono (by decide)) (Yt8 _))))))))))
theorem Ymy : Loc 11 Ydh := Loc.bind (n := 1) (m := 10) Yes Ynr
theorem insn_pos {L : List Int} {i : Ins} {k : Nat} (h : Ydh L 0 = .ok i k) : 1 ≤ k := by
 unfold Ydh Yz at h
 by_cases hl : 0 < L.length
 ·rw [if_pos hl, DR.bind_ok] at h
  have := Ynr (L.getD 0 0) L 1 hl
  simp only [Nat.zero_add] at h
  simp only [h] at this
  exact this.1
 ·rw [if_neg hl] at h
  cases h
theorem Ylb (L : List Int) (j n : Nat) (hn : n ≤ j) (hj : j ≤ L.length) : Yjz n (L.take j) L :=
 ⟨by omega, fun i hi => by rw [List.getD_eq_getElem?_getD, List.getD_eq_getElem?_getD, List.getElem?_take, if_pos (by omega)]⟩
theorem Yrp (L : List Int) (h : Ycv L ≠ 0) : Ygs L = 0 ∧ Ygr L = Ins.zero := by
 unfold Ycv at h
 unfold Ygs Ygr
 cases hd : Ydh L 0 with
 |ok i k => rw [hd] at h; exact absurd rfl h
 |err c => exact ⟨rfl, rfl⟩
theorem Yuu (L : List Int) (h : Ycv L = 0) : 1 ≤ Ygs L ∧ Ygs L ≤ 15 ∧ Ygs L ≤ L.length ∧ (Ygr L).len = Ygs L ∧ ∀ j : Nat, (j : Int) < Ygs L → Ycv (L.take j) = 10 := by
 have hl := Ymy L 0 (Nat.zero_le _)
 unfold Ycv at h
 unfold Ygs Ygr
 cases hd : Ydh L 0 with
 |err c =>
  rw [hd] at h hl
  simp only at h
  have := hl.1
  omega
 |ok i k =>
  have hp := insn_pos hd
  rw [hd] at hl
  refine ⟨?_, ?_, ?_, rfl, fun j hj => ?_⟩
  ·simp only; omega
  ·simp only; omega
  ·simp only; omega
  ·simp only at hj
   have h2 := Ymy (L.take j) 0 (Nat.zero_le _)
   have hlen : (L.take j).length = j := by rw [List.length_take]; omega
   unfold Ycv
   cases hd2 : Ydh (L.take j) 0 with
   |ok i2 k2 =>
    rw [hd2] at h2
    have h3 := h2.2.2.2 L (Ylb L j k2 (by omega) (by omega))
    rw [hd] at h3
    injection h3 with h4 h5
    omega
   |err c =>
    rw [hd2] at h2
    simp only
    rcases h2.2 with h3 | h3
    ·exact h3
    ·have h4 := h3 L (by rw [hlen]; exact Ylb L j j (Nat.le_refl _) (by omega))
     rw [hd] at h4
     cases h4
section
structure Fi (w : World) (l : List (Nat × Ins)) (v : Value) (L : List Int) (w1 : World) : Prop where
 d : Dn w v L w1
 i : ∀ p, p ∈ l → w1.heap[p.1]? = some (.cells p.2.cells 42 (0, 0))
section
variable {w w1 w2 : World} {v v' : Value} {L N : List Int} {l : List (Nat × Ins)}
theorem Fi.start (h : Upd [] w w1) : Fi w [] (.slice none 0 0) [] w1 := ⟨Dn.start h, fun _ h => by cases h⟩
theorem Fi.step (h : Fi w l v L w1) (u : Upd [] w1 w2) : Fi w l v L w2 := ⟨h.d.step u, fun p hp => u.get (h.i p hp) (by simp)⟩
theorem Fi.ins (h : Fi w l v L w1) {j : Ins} (hw : (w1.alloc (.cells Ins.zero.cells 42)).setCells w1.heap.size 0 j.cells.toList = w2) : Fi w ((w1.heap.size, j) :: l) v L w2 := by
 obtain ⟨z1, z2⟩ := Yau (S := []) (w0 := w1) hw (heap_alloc_new w1 (.cells Ins.zero.cells 42)) rfl ((Upd.refl [] w1).alloc _) (.inr (Nat.le_refl _))
 have h2 := h.step z2
 refine ⟨h2.d, fun p hp => ?_⟩
 rcases List.mem_cons.1 hp with rfl | hp
 ·exact z1
 ·exact h2.i p hp
theorem Fi.grow (h : Fi w l v L w1) (hg : Yhl w1 w.heap.size v N v' w2) : Fi w l v' N w2 := by
 refine ⟨h.d.grow hg, fun p hp => hg.u.get (h.i p hp) ?_⟩
 intro hx
 have := Yje h.d.o (h.i p hp) (by decide)
 cases hv : v.ownBlock with
 |none => rw [hv] at hx; simp at hx
 |some g => rw [hv] at hx this; simp at hx; subst hx; exact this rfl
end
end
end Go.Proofs.YteiplidhkelkbaaGreat
