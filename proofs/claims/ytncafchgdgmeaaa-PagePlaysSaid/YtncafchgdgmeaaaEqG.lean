/-
  Structs held against one another, field by field. No condition.
-/
import Derived.Test.YtncafchgdgmeaaaRow
import Derived.ChangeKeysEq
import Derived.Lib.SliceRun
namespace Go.Proofs.Ytncafchgdgmeaaa
open Go Go.RowKit
set_option linter.unusedVariables false
set_option linter.unusedSimpArgs false

theorem part_range {P : Program} {t : TypeId} {xs : Array Value} {off n : Nat} {i : TypeInfo} (w : World) (ht : (isAgg t).run P w = .ok true w) (hi : P.info? t = some i) (hn : i.size = n) : (part t xs off).run P w = .ok (.agg (xs.extract off (off + n))) w := by
  subst hn
  simp [part, ht, sizeOf, typeInfo, hi]

theorem eqFields_cons {P : Program} {w : World} {d : Nat} {xs ys : Array Value} {f : Field} {fs : List Field} {u v : Value} {b c : Bool} (hne : (f.name ≠ "_") = True)
    (hx : (part f.type xs f.offset).run P w = .ok u w) (hy : (part f.type ys f.offset).run P w = .ok v w) (he : (Op.equalIn d f.type u v).run P w = .ok b w) (hr : (Op.eqFields d xs ys fs).run P w = .ok c w) :
    (Op.eqFields d xs ys (f :: fs)).run P w = .ok (b && c) w := by
  simp only [Op.eqFields, hne, if_true]
  rw [Sem.run_bind, hx, Result.andThen_ok, Sem.run_bind, hy, Result.andThen_ok, Sem.run_bind, he, Result.andThen_ok]
  cases b
  · rfl
  · simp only [Bool.not_true, Bool.false_eq_true, if_false]
    rw [hr]; rfl

theorem eqFields_nil {P : Program} {w : World} {d : Nat} {xs ys : Array Value} : (Op.eqFields d xs ys []).run P w = .ok true w := rfl

theorem eqItems_int {P : Program} (w : World) (d : Nat) {e : TypeId} {k : IntKind} (he : P.underlying e = some (.int k)) (xs ys : Array Value) (f g : Nat → Int) :
    ∀ is : List Nat, (∀ i, i ∈ is → xs[i]? = some (.int k (f i)) ∧ ys[i]? = some (.int k (g i))) → (Op.eqItems (d + 1) e 1 xs ys is).run P w = .ok (is.all fun i => f i == g i) w
  | [], _ => by simp [Op.eqItems]
  | i :: is, h => by
    have h1 := h i (by simp)
    have ih := eqItems_int w d he xs ys f g is (fun j hj => h j (by simp [hj]))
    have hp : P.plainKey e = true := by simp [Program.plainKey, he]
    simp only [Op.eqItems, Nat.mul_one, Sem.run_bind, run_part_plain w hp h1.1, run_part_plain w hp h1.2, Result.andThen_ok, run_equalIn_int w d e k k _ _ he, List.all_cons]
    cases hb : f i == g i
    · simp
    · simpa using ih

end Go.Proofs.Ytncafchgdgmeaaa
