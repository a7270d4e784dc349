/-
  A law's last step, from the frame relation 'Upd []' of a walk. No condition.
-/
import Derived.Test.YtncafchgdgmeaaaMem
import Derived.ProofKit
import Derived.OpenShut
namespace Go.Proofs.Ytncafchgdgmeaaa
open Go Go.RowKit Go.WideShapes Go.ChangeShapes
set_option linter.unusedVariables false
set_option linter.unusedSimpArgs false

theorem post_of_upd {H : Type} {enc : TypeId × Value → H} {P : Program} {f : Func} {s : ChangeSpec} {apart fresh handsOn again : Bool} {W W' : World} {args : Array Value} {v : Value} {ds gs : List (DataW H)} {pl pa pv : List MemPlace}
    (hW : DataW.Whole enc P f.params.toList s.vars apart W args.toList ds gs pl)
    (hr : ∀ (b : Nat) (sp : Nat → Bool) (hd : Bool), DataW.TrodAll enc P W' b sp hd f.resultTypes.toList (v.resultList f.resultTypes.size) (s.fn H (ds ++ gs)).results [])
    (ha : ∀ sp : Nat → Bool, (∀ p ∈ pl, sp p.block = true) → DataW.TrodAll enc P W' 0 sp true f.params.toList args.toList (s.fn H (ds ++ gs)).args pa)
    (hv : ∀ sp : Nat → Bool, (∀ p ∈ pl, sp p.block = true) → DataW.TrodVars enc P W' sp s.vars (s.fn H (ds ++ gs)).vars pv)
    (hp : pl = pa ++ pv) (u : Upd [] W W')
    (hok : ∀ (j : Nat) (t : TypeId) (r : Value), f.resultTypes[j]? = some t → (v.resultList f.resultTypes.size)[j]? = some r → Value.okWide P W' .any 0 t r) :
    s.post enc P f apart fresh handsOn again W args v W' := by
  have hb := u.below
  have hin : ∀ p ∈ pl, p.block < W.heap.size := fun p h => hW.lt p h
  have hsp : ∀ p ∈ pl, (fun b => decide (b < W.heap.size)) p.block = true := fun p h => by simpa using hin p h
  refine ⟨ds, gs, pl, [], pa, pv, hW, hr _ _ _, ha _ hsp, hv _ hsp, World.keptBut_mono (fun p h => ⟨h, .inr ?_⟩) (hb.frame (· ∈ pl)), fun _ => ?_⟩
  · rw [hp, List.mem_append] at h
    exact h
  · obtain ⟨_, _, _, _, _, hz, hn⟩ := hW
    refine ⟨hok, _, _, ([] ++ pa) ++ pv, ⟨[] ++ pa, pv, trodAll_append (ha _ (fun _ _ => rfl)) (hr _ _ _), hv _ (fun _ _ => rfl), rfl, fun b o h => ?_, fun h => ?_⟩, ?_⟩
    · have hm : MemPlace.cell b o ∈ pl := by rw [hp]; simpa using h
      rw [hb.frozen (hin _ hm)]
      exact hz b o hm
    · have := hn h
      rw [hp] at this
      simpa using this
    · intro p h _
      rw [hp]
      simpa using h

end Go.Proofs.Ytncafchgdgmeaaa
