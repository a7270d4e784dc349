/-
  The reference's memory: its zero value. No condition.
-/
import Derived.Test.YtncafchgdgmeaaaRfF
import Derived.Test.YtncafchgdgmeaaaPgJ
namespace Go.Proofs.Ytncafchgdgmeaaa
open Go Go.RowKit
set_option linter.unusedVariables false
set_option linter.unusedSimpArgs false

structure Rep (v : Value) (l : List Value) (n : Nat) : Prop where
  eq : l = List.replicate n v

theorem Rep.append {v : Value} {l m : List Value} {a b : Nat} (h : Rep v l a) (k : Rep v m b) : Rep v (l.append m) (a + b) :=
  ⟨by rw [h.eq, k.eq]; exact List.replicate_append_replicate⟩

structure Rep2 (v u : Value) (l : List Value) (n m : Nat) : Prop where
  eq : l = List.replicate n v ++ List.replicate m u

theorem Rep2.append {v u : Value} {l l' : List Value} {n m m' : Nat} (h : Rep2 v u l n m) (k : Rep u l' m') : Rep2 v u (l.append l') n (m + m') :=
  ⟨by rw [h.eq, k.eq]; show (List.replicate n v ++ List.replicate m u) ++ List.replicate m' u = _; rw [List.append_assoc, List.replicate_append_replicate]⟩

theorem Rep.leaf {v : Value} {l : List Value} (h : l = List.replicate l.length v) : Rep v l l.length := ⟨h⟩
theorem Rep2.leaf {v u : Value} {l : List Value} (h : l = List.replicate l.length v) : Rep2 v u l l.length 0 := ⟨by rw [List.replicate_zero, List.append_nil]; exact h⟩

theorem zero_ref_shape : ∃ l n m, Try.t52.zero = some (.agg l.toArray) ∧ Rep2 (.int .i64 0) (.int .u8 0) l n m ∧ n = 64 ∧ m = 16384 := by
  apply Exists.intro
  apply Exists.intro
  apply Exists.intro
  apply And.intro
  · unfold Try.t52; exact rfl
  apply And.intro
  · repeat (first | (with_reducible apply Rep2.append) | (with_reducible apply Rep.append) | exact Rep.leaf (by kernel_rfl) | exact Rep2.leaf (by kernel_rfl))
  · exact ⟨by kernel_rfl, by kernel_rfl⟩

theorem zero_ref : ∃ Z : Array Value, Try.t52.zero = some (.agg Z) ∧ HoldsR Z Mem.zero := by
  obtain ⟨l, n, m, h, k, hn, hm⟩ := zero_ref_shape
  have hk := k.eq
  clear k
  refine ⟨l.toArray, h, ?_, fun i hi => ?_⟩
  · clear h
    rw [List.size_toArray, hk, List.length_append, List.length_replicate, List.length_replicate, hn, hm]
  · clear h
    rw [hk, List.getElem?_toArray]
    by_cases h64 : i < 64
    · rw [List.getElem?_append_left (by rw [List.length_replicate]; omega), List.getElem?_replicate, if_pos (by omega), Mem.rat, if_pos h64]
      rfl
    · rw [List.getElem?_append_right (by rw [List.length_replicate]; omega), List.length_replicate, List.getElem?_replicate, if_pos (by omega), Mem.rat, if_neg h64]
      rfl

theorem info_ref : Try.prog.info? 52 = some Try.t52 := by kernel_rfl

/-- The reference's new memory, as it is built. -/
theorem run_build_ref : ∃ Z : Array Value, HoldsR Z Mem.zero ∧ ∀ w, (Instr.build 52 #[]).run Try.prog w = .ok (.agg Z) w := by
  obtain ⟨Z, hz, hZ⟩ := zero_ref
  refine ⟨Z, hZ, fun w => ?_⟩
  have hz' : (zeroValue 52).run Try.prog w = .ok (.agg Z) w := by
    generalize hT : Try.t52 = T at hz
    have hi := info_ref
    rw [hT] at hi
    clear hT
    simp [zeroValue, typeInfo, hi, hz]
  clear hz
  unfold Instr.build
  simp only [Sem.run_bind, hz', Result.andThen_ok, Try.runUnderlying52]
  simp only [Array.mapM_eq_mapM_toList, List.mapM_cons, List.mapM_nil, Sem.run_bind, Sem.run_pure, Result.andThen_ok, Sem.run_map]
  have h49 : ∀ w, (sizeOf 49).run Try.prog w = .ok 64 w := Try.sizeOf49
  have h50 : ∀ w, (sizeOf 50).run Try.prog w = .ok 16384 w := Try.sizeOf50
  simp only [h49, h50, Result.andThen_ok]
  rfl

theorem ref_info : (Try.prog.info? 52).map (·.size) = some 16448 := by kernel_rfl

theorem rat_one (M : Mem) (k : Nat) : (M.rat k).oneCell' = true := by
  unfold Mem.rat; split <;> rfl

theorem HoldsR.one {C : Array Value} {M : Mem} (h : HoldsR C M) : C.all (·.oneCell') = true := by
  rw [Array.all_eq_true]
  intro i hi
  have hi' : i < 16448 := by rw [← h.size]; exact hi
  have e := h.get i hi'
  rw [Array.getElem?_eq_getElem hi] at e
  injection e with e
  rw [e]
  exact rat_one M i

theorem IsRef.new {w : World} {C : Array Value} {M : Mem} (h : HoldsR C M) (hok : M.Ok) : IsRef (w.alloc (.cells C 52 (0, 0))) w.heap.size M := ⟨⟨C, h, heap_alloc_new _ _⟩, hok⟩

theorem strInts_get (s : ByteArray) (k : Nat) (h : k < s.size) : (strInts s).getD k 0 = ((s[k].toNat : Nat) : Int) := by
  have hi' : k < s.data.size := h
  rw [List.getD_eq_getElem?_getD, strInts, List.getElem?_map, Array.getElem?_toList, Array.getElem?_eq_getElem hi']
  rfl

/-- The reference's bytes of a string's first k, from a place on. -/
def Mem.strN (M : Mem) (o : Nat) (s : ByteArray) : Nat → Mem
  | 0 => M
  | k + 1 => (M.strN o s k).setB (o + k) ((strInts s).getD k 0)

theorem Mem.strN_ok {M : Mem} (h : M.Ok) (o : Nat) (s : ByteArray) : ∀ k, (M.strN o s k).Ok
  | 0 => h
  | k + 1 => Mem.setB_ok (Mem.strN_ok h o s k) _ (strInts_ok s k).1 (strInts_ok s k).2

theorem pokeN_strN (M : Mem) (p : Int) (hp0 : 0 ≤ p) (s : ByteArray) : ∀ k : Nat, p * 256 + k ≤ 16384 → M.pokeN (p * 256) (strInts s) k = M.strN (p.toNat * 256) s k
  | 0, _ => rfl
  | k + 1, h => by
    rw [Mem.pokeN, Mem.strN, pokeN_strN M p hp0 s k (by omega)]
    congr 1
    unfold plus
    omega

end Go.Proofs.Ytncafchgdgmeaaa
