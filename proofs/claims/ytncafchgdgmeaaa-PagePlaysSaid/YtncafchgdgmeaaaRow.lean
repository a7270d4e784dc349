/-
  Rows that grew, slices of bytes: small facts. No condition.
-/
import Derived.Test.YtncafchgdgmeaaaMem
import Derived.WalkSpells
namespace Go.Proofs.Ytncafchgdgmeaaa
open Go Go.RowKit
set_option linter.unusedVariables false
set_option linter.unusedSimpArgs false

theorem Upd.of_grown {w w' : World} {row : Option Nat} (h : w.grownBy w' row) : Upd row.toList w w' :=
  ⟨h.os, h.tape, h.output, h.size, fun k hk hn => h.block k hk (fun e => hn (by rw [← e]; simp))⟩

def slLen : Value → Nat
  | .slice _ l _ => l
  | _ => 0

theorem ownsRow_form {w : World} {base e size : Nat} {v : Value} {n : Nat} {xs : List Value} (h : w.ownsRow base e size v n xs) : ∃ b c, v = .slice b n c := by
  obtain ⟨_, ⟨h1, h2⟩ | ⟨g, cap, cur, h1, _⟩⟩ := h
  · exact ⟨none, 0, by rw [h1, h2]⟩
  · exact ⟨_, _, h1⟩

theorem slLen_own {w : World} {base e size : Nat} {v : Value} {n : Nat} {xs : List Value} (h : w.ownsRow base e size v n xs) : slLen v = n := by
  obtain ⟨b, c, rfl⟩ := ownsRow_form h; rfl

theorem one_new (w : World) (v : Value) (t : TypeId) : ∀ j u, [v][j]? = some u → (w.alloc (.cells #[v] t)).cell? ((⟨w.heap.size, 0, none⟩ : Addr).add j) = some u := by
  intro j u hu
  rcases j with _ | j
  · simp only [List.getElem?_cons_zero, Option.some.injEq] at hu
    subst hu
    rw [Addr.add_mid, cells_of (heap_alloc_new _ _)]
    rfl
  · simp at hu

theorem one_oneCell (k : IntKind) (z : Int) : ∀ u ∈ [Value.int k z], u.oneCell' = true := by
  intro u hu
  simp only [List.mem_singleton] at hu
  subst hu; rfl

/-- A slice of bytes that reads as l; its cells, if any, lie in block g. -/
def BySl (w : World) (v : Value) (l : List Int) (g : Nat) : Prop :=
  (v = .slice none 0 0 ∧ l = []) ∨ ∃ o c C T f, v = .slice (some ⟨g, o, none⟩) l.length c ∧ w.heap[g]? = some (.cells C T f) ∧ ∀ i, i < l.length → C[o + i]? = some (.int .u8 (l.getD i 0))

theorem BySl.form {w : World} {v : Value} {l : List Int} {g : Nat} (h : BySl w v l g) : ∃ b c, v = .slice b l.length c := by
  rcases h with ⟨h1, h2⟩ | ⟨o, c, _, _, _, h1, _⟩
  · exact ⟨none, 0, by rw [h1, h2]; rfl⟩
  · exact ⟨_, _, h1⟩

theorem BySl.keep {w w' : World} {v : Value} {l : List Int} {g : Nat} {S : List Nat} (h : BySl w v l g) (u : Upd S w w') (hg : g ∉ S) : BySl w' v l g := by
  rcases h with h | ⟨o, c, C, T, f, h1, h2, h3⟩
  · exact .inl h
  · exact .inr ⟨o, c, C, T, f, h1, u.get h2 hg, h3⟩

theorem ret_of {v : Value} {v' : Value} (h : v = v') : Ending.returned v = .returned v' := by rw [h]

end Go.Proofs.Ytncafchgdgmeaaa
