/-
  A law's last step where the arguments are whatever plain data: they read behind the call as they did ahead of it; an argument that is a struct or an array of numbers, bools and strings, opened cell by cell. No condition.
-/
import Derived.Test.YtncafchgdgmeaaaLaw
import Derived.Carry
import Derived.OpenShut
namespace Go.Proofs.Ytncafchgdgmeaaa
open Go Go.RowKit Go.WideShapes Go.ChangeShapes
set_option linter.unusedVariables false
set_option linter.unusedSimpArgs false

section
variable {H : Type} {enc : TypeId × Value → H} {P : Program}

def readableAll (P : Program) (ts : List TypeId) : Bool := ts.all fun t => P.readableRec t && decide (t < P.types.size)

theorem args_stay (hl : laidOutB P = true) {W W' : World} (u : Upd [] W W') {sp' : Nat → Bool} :
    ∀ (ts : List TypeId) (vs : List Value) (ds : List (DataW H)) (pl : List MemPlace), readableAll P ts = true → (∀ p ∈ pl, p.block < W.heap.size) → (∀ p ∈ pl, sp' p.block = true) →
      DataW.TrodAll enc P W 0 (fun _ => true) true ts vs ds pl → DataW.TrodAll enc P W' 0 sp' true ts vs ds pl
  | [], [], [], _, _, _, _, h => h
  | t :: ts, v :: vs, d :: ds, pl, hr, hlt, hs, h => by
    obtain ⟨p, q, h1, h2, rfl⟩ := h
    simp only [readableAll, List.all_cons, Bool.and_eq_true, decide_eq_true_eq] at hr
    refine ⟨p, q, WideElems.Trod_stays hl hr.1.1 hr.1.2 h1 (fun x hx => u.below.same (hlt x (List.mem_append_left _ hx))) (fun x hx => hs x (List.mem_append_left _ hx)), ?_, rfl⟩
    exact args_stay hl u ts vs ds q (by rw [readableAll]; exact hr.2) (fun x hx => hlt x (List.mem_append_right _ hx)) (fun x hx => hs x (List.mem_append_right _ hx)) h2

theorem post_of_upd_args {f : Func} {s : ChangeSpec} {apart fresh handsOn again : Bool} {W W' : World} {args : Array Value} {v : Value} {ds : List (DataW H)} {pl : List MemPlace}
    (hl : laidOutB P = true) (hrd : readableAll P f.params.toList = true) (hvars : s.vars = [])
    (hW : DataW.Whole enc P f.params.toList s.vars apart W args.toList ds [] pl)
    (hA : DataW.TrodAll enc P W 0 (fun _ => true) true f.params.toList args.toList ds pl)
    (hr : ∀ (b : Nat) (sp : Nat → Bool) (hd : Bool), DataW.TrodAll enc P W' b sp hd f.resultTypes.toList (v.resultList f.resultTypes.size) (s.fn H (ds ++ [])).results [])
    (hargs : (s.fn H (ds ++ [])).args = ds) (hgs : (s.fn H (ds ++ [])).vars = [])
    (u : Upd [] W W')
    (hok : ∀ (j : Nat) (t : TypeId) (r : Value), f.resultTypes[j]? = some t → (v.resultList f.resultTypes.size)[j]? = some r → Value.okWide P W' .any 0 t r) :
    s.post enc P f apart fresh handsOn again W args v W' := by
  refine post_of_upd (pa := pl) (pv := []) hW hr (fun sp hsp => ?_) (fun sp _ => ?_) (by simp) u hok
  · rw [hargs]
    exact args_stay hl u _ _ _ _ hrd (fun p h => hW.lt p h) hsp hA
  · rw [hgs, hvars]
    exact rfl

inductive Leaf where
  | int (k : IntKind)
  | bool
  | string

def LeafOk : Leaf → Value → Prop
  | .int k, v => ∃ n, v = .int k n ∧ (Lit.int k n).wf = true
  | .bool, v => ∃ b, v = .bool b
  | .string, v => ∃ s : ByteArray, v = .string s ∧ s.size ≤ maxLen

/-- What stands in cell j of a value of a type. -/
def leafAt (P : Program) : Nat → TypeId → Nat → Option Leaf
  | 0, _, _ => none
  | n + 1, t, j =>
    match P.underlying t with
    | some (.int k) => if j = 0 then some (.int k) else none
    | some .bool => if j = 0 then some .bool else none
    | some .string => if j = 0 then some .string else none
    | some (.array m e) => if 0 < P.cellsOf e ∧ j / P.cellsOf e < m then leafAt P n e (j % P.cellsOf e) else none
    | some (.struct fs) => fs.toList.findSome? fun f => if f.offset ≤ j ∧ j < f.offset + P.cellsOf f.type then leafAt P n f.type (j - f.offset) else none
    | _ => none

theorem leafAt_ok {w : World} {base : Nat} {spare : Nat → Bool} {held : Bool} : ∀ (n : Nat) (t : TypeId) (fuel : Nat) (cs : List Value) (x : DataW H × List MemPlace) (j : Nat) (lf : Leaf), DataW.trod enc P w base spare held fuel t cs = some x → leafAt P n t j = some lf → ∃ v, cs[j]? = some v ∧ LeafOk lf v
  | 0, _, _, _, _, _, _, _, h => by cases h
  | n + 1, t, fuel, cs, x, j, lf, hx, h => by
    unfold leafAt at h
    split at h
    · rename_i k hu
      obtain ⟨z, rfl, _, hw⟩ := DataW.trod_int hu hx
      split at h
      · rename_i hj; subst hj
        injection h with h; subst h
        exact ⟨_, rfl, z, rfl, hw⟩
      · cases h
    · rename_i hu
      obtain ⟨b, rfl, _⟩ := DataW.trod_bool hu hx
      split at h
      · rename_i hj; subst hj
        injection h with h; subst h
        exact ⟨_, rfl, b, rfl⟩
      · cases h
    · rename_i hu
      obtain ⟨s, rfl, _, hs⟩ := DataW.trod_string hu hx
      split at h
      · rename_i hj; subst hj
        injection h with h; subst h
        exact ⟨_, rfl, s, rfl, hs⟩
      · cases h
    · rename_i m e hu
      split at h
      · rename_i hj
        obtain ⟨xs, f, _, _, _, hl, hi⟩ := DataW.trod_array hu hx
        have h1 := hi _ hj.2
        obtain ⟨y, hy⟩ : ∃ y, xs[j / P.cellsOf e]? = some y := ⟨_, List.getElem?_eq_getElem (by omega)⟩
        rw [hy] at h1
        obtain ⟨v, hv, hlv⟩ := leafAt_ok n e f _ y _ lf h1 h
        refine ⟨v, ?_, hlv⟩
        have hm := Nat.mod_lt j hj.1
        have hd := Nat.div_add_mod j (P.cellsOf e)
        rw [List.getElem?_take, if_pos hm, List.getElem?_drop, Nat.mul_comm, hd] at hv
        exact hv
      · cases h
    · rename_i fs hu
      obtain ⟨f, hf, hc⟩ := List.exists_of_findSome?_eq_some h
      split at hc
      · rename_i hj
        obtain ⟨xs, k, _, _, _, hl, hi⟩ := DataW.trod_struct hu hx
        obtain ⟨i, hfi⟩ := List.getElem?_of_mem hf
        have hfi' : fs[i]? = some f := by rw [← hfi, Array.getElem?_toList]
        have hlt : i < fs.size := (Array.getElem?_eq_some_iff.1 hfi').1
        have h1 := hi i f hfi'
        obtain ⟨y, hy⟩ : ∃ y, xs[i]? = some y := ⟨_, List.getElem?_eq_getElem (by omega)⟩
        rw [hy] at h1
        obtain ⟨v, hv, hlv⟩ := leafAt_ok n f.type k _ y _ lf h1 hc
        refine ⟨v, ?_, hlv⟩
        rw [List.getElem?_take, if_pos (by omega), List.getElem?_drop, show f.offset + (j - f.offset) = j from by omega] at hv
        exact hv
      · cases hc
    · cases h

def isAggB (P : Program) (t : TypeId) : Bool :=
  match P.underlying t with
  | some (.struct _) => true
  | some (.array _ _) => true
  | _ => false

/-- A struct or an array, opened. -/
theorem open_leaves {w : World} {base : Nat} {spare : Nat → Bool} {held : Bool} {r : Reach} {b0 : Nat} {t : TypeId} {v : Value} {d : DataW H} {p : List MemPlace} (ha : isAggB P t = true)
    (hv : Value.okWide P w r b0 t v) (h : DataW.Trod enc P w base spare held t v d p) :
    ∃ cs : Array Value, v = .agg cs ∧ cs.size = P.cellsOf t ∧ ∀ n j lf, leafAt P n t j = some lf → ∃ x, cs[j]? = some x ∧ LeafOk lf x := by
  have : ∃ cs : Array Value, v = .agg cs ∧ cs.size = P.cellsOf t := by
    unfold isAggB at ha
    unfold Value.okWide at hv
    split at ha
    · rename_i hu; rw [hu] at hv; obtain ⟨cs, h1, h2, _⟩ := hv; exact ⟨cs, h1, h2⟩
    · rename_i hu; rw [hu] at hv; obtain ⟨cs, h1, h2, _⟩ := hv; exact ⟨cs, h1, h2⟩
    · cases ha
  obtain ⟨cs, rfl, hs⟩ := this
  refine ⟨cs, rfl, hs, fun n j lf hl => ?_⟩
  obtain ⟨fuel, hf⟩ := h
  obtain ⟨x, hx, hxl⟩ := leafAt_ok n t fuel _ _ j lf hf hl
  have e : (Value.agg cs).cells = cs := rfl
  exact ⟨x, by rw [e, Array.getElem?_toList] at hx; exact hx, hxl⟩

def Leaf.isInt (k : IntKind) : Leaf → Bool
  | .int q => decide (q = k)
  | _ => false

def intsB (P : Program) (t : TypeId) (k : IntKind) (n : Nat) : Bool :=
  isAggB P t && decide (P.cellsOf t = n) && (List.range n).all fun j => match leafAt P 8 t j with | some l => l.isInt k | none => false

/-- An array of numbers, opened. -/
theorem open_nums {w : World} {base : Nat} {spare : Nat → Bool} {held : Bool} {r : Reach} {b0 : Nat} {t : TypeId} {v : Value} {d : DataW H} {p : List MemPlace} (k : IntKind) (n : Nat) (ha : intsB P t k n = true)
    (hv : Value.okWide P w r b0 t v) (h : DataW.Trod enc P w base spare held t v d p) :
    ∃ f : Nat → Int, v = .agg ((List.range n).map fun j => .int k (f j)).toArray ∧ ∀ j, j < n → (Lit.int k (f j)).wf = true := by
  simp only [intsB, Bool.and_eq_true, decide_eq_true_eq, List.all_eq_true, List.mem_range] at ha
  obtain ⟨⟨h1, h2⟩, h3⟩ := ha
  obtain ⟨cs, rfl, hs, hc⟩ := open_leaves h1 hv h
  have hg : ∀ j, j < n → ∃ z, cs[j]? = some (.int k z) ∧ (Lit.int k z).wf = true := by
    intro j hj
    have := h3 j hj
    cases hl : leafAt P 8 t j with
    | none => rw [hl] at this; cases this
    | some l =>
      rw [hl] at this
      cases l with
      | int q =>
        simp only [Leaf.isInt, decide_eq_true_eq] at this
        subst this
        obtain ⟨x, hx, z, rfl, hw⟩ := hc 8 j _ hl
        exact ⟨z, hx, hw⟩
      | bool => cases this
      | string => cases this
  refine ⟨fun j => match cs[j]? with | some (.int _ z) => z | _ => 0, ?_, fun j hj => ?_⟩
  · congr 1
    apply Array.ext_getElem?
    intro j
    simp only [List.getElem?_toArray, List.getElem?_map]
    by_cases hj : j < n
    · obtain ⟨z, hz, _⟩ := hg j hj
      simp [hj, hz]
    · rw [Array.getElem?_eq_none (by omega), List.getElem?_eq_none (by simp; omega)]
      rfl
  · obtain ⟨z, hz, hw⟩ := hg j hj
    simp only [hz]
    exact hw
end

end Go.Proofs.Ytncafchgdgmeaaa
