/-
  Package page: Load, by its contract.
-/
import Derived.Test.YtncafchgdgmeaaaPgI
import Derived.Laws.IdiomStrings
import Derived.Outline
namespace Go.Proofs.Ytncafchgdgmeaaa
open Go Go.RowKit
set_option linter.unusedVariables false
set_option linter.unusedSimpArgs false

/-- A span of pages, with the bytes at its beginning. -/
structure SpanV where
  pg : Int
  ct : Int
  rt : Int
  by_ : ByteArray
  deriving Inhabited

def SpanV.ok (s : SpanV) : Prop := -9223372036854775808 ≤ s.ct ∧ s.ct ≤ 9223372036854775807

/-- Spans in memory: a slice. -/
def SpansIn (w : World) (v : Value) (l : List SpanV) (g : Nat) : Prop :=
  (∃ a c, v = .slice a 0 c ∧ l = []) ∨
  ∃ o c, v = .slice (some ⟨g, o, none⟩) l.length c ∧ g < w.heap.size ∧ l.length ≤ 9223372036854775807 ∧ ∀ i s, l[i]? = some s → w.cell? ⟨g, o + i * 4, none⟩ = some (.int .i64 s.pg) ∧ w.cell? ⟨g, o + i * 4 + 1, none⟩ = some (.int .i64 s.ct) ∧ w.cell? ⟨g, o + i * 4 + 2, none⟩ = some (.int .i64 s.rt) ∧ w.cell? ⟨g, o + i * 4 + 3, none⟩ = some (.string s.by_)

theorem SpansIn.keep {w w' : World} {v : Value} {l : List SpanV} {g : Nat} {S : List Nat} (h : SpansIn w v l g) (u : Upd S w w') (hg : g ∉ S) : SpansIn w' v l g := by
  rcases h with h | ⟨o, c, h1, h2, h4, h3⟩
  · exact .inl h
  · refine .inr ⟨o, c, h1, Nat.lt_of_lt_of_le h2 u.size, h4, fun i s hs => ?_⟩
    have e : ∀ k, w'.cell? ⟨g, k, none⟩ = w.cell? ⟨g, k, none⟩ := fun k => by
      simp only [World.cell?]; rw [u.block g h2 hg]
    rw [e, e, e, e]
    exact h3 i s hs

def strInts (s : ByteArray) : List Int := s.data.toList.map fun b => (b.toNat : Int)

theorem strInts_length (s : ByteArray) : (strInts s).length = s.size := by rw [strInts, List.length_map, Array.length_toList]; rfl

theorem strInts_ok (s : ByteArray) (i : Nat) : 0 ≤ (strInts s).getD i 0 ∧ (strInts s).getD i 0 ≤ 255 := by
  rw [List.getD_eq_getElem?_getD, strInts, List.getElem?_map]
  cases s.data.toList[i]? with
  | none => simp
  | some b =>
    have h := b.toNat_lt
    simp only [Option.map_some, Option.getD_some]
    exact ⟨by omega, by omega⟩

def Mem.spanB (M : Mem) (s : SpanV) : Bool := M.mapB s.pg s.ct s.rt && decide ((s.by_.size : Int) ≤ s.ct * 256)
def Mem.span1 (M : Mem) (s : SpanV) : Mem := (M.mapN s.pg.toNat s.ct.toNat s.rt).poke (s.pg * 256) (strInts s.by_)

def loadN (l : List SpanV) : Nat → Mem
  | 0 => Mem.zero
  | j + 1 => (loadN l j).span1 (l.getD j default)

def loadB (l : List SpanV) : Bool := (List.range l.length).all fun i => (loadN l i).spanB (l.getD i default)
def loadM (l : List SpanV) : Mem := loadN l l.length

/-- What Load leaves. -/
def loadR (l : List SpanV) (M : Mem) : Mem := if loadB l then loadM l else M

theorem loadR_yes {l : List SpanV} {M : Mem} (h : loadB l = true) : loadR l M = loadM l := by rw [loadR, if_pos h]
theorem loadR_no {l : List SpanV} {M : Mem} (h : loadB l = false) : loadR l M = M := by rw [loadR, if_neg (by rw [h]; simp)]

theorem mapB_row {M : Mem} {p n r : Int} (h : M.mapB p n r = true) : 0 ≤ p ∧ 1 ≤ n ∧ n ≤ 64 ∧ p ≤ 64 - n := by
  simp only [Mem.mapB, Mem.all, Bool.and_eq_true] at h
  exact (rowB_iff p n).1 h.2.1

theorem loadB_no {l : List SpanV} {j : Nat} (hj : j < l.length) (h : (loadN l j).spanB (l.getD j default) = false) : loadB l = false := by
  rw [loadB, List.all_eq_false]; exact ⟨j, List.mem_range.2 hj, by rw [h]; simp⟩

theorem loadB_yes {l : List SpanV} (h : ∀ j, j < l.length → (loadN l j).spanB (l.getD j default) = true) : loadB l = true := by
  rw [loadB, List.all_eq_true]; exact fun j hj => h j (List.mem_range.1 hj)

theorem bytes_sl (w : World) (s : ByteArray) (cap : Nat) (f : Nat × Nat) (h : s.size ≤ cap) :
    BySl ((w.drew.alloc (.cells (bytesRow s cap) 5 f))) (.slice (some ⟨w.heap.size, 0, none⟩) s.size cap) (strInts s) w.heap.size := by
  refine .inr ⟨0, cap, _, _, _, by rw [strInts_length], heap_alloc_new _ _, fun i hi => ?_⟩
  rw [strInts_length] at hi
  have hi' : i < s.data.size := hi
  have e : (strInts s).getD i 0 = ((s.data[i]'hi').toNat : Int) := by
    rw [List.getD_eq_getElem?_getD, strInts, List.getElem?_map, Array.getElem?_toList, Array.getElem?_eq_getElem hi']
    rfl
  rw [e, Nat.zero_add, bytesRow, Array.getElem?_append_left (by rw [Array.size_map]; exact hi'), Array.getElem?_map, Array.getElem?_eq_getElem hi']
  rfl

/-- The memory at a, its pages where they were, or new. -/
structure SomeMem (w w' : World) (a pb : Nat) (M : Mem) : Prop where
  ex : ∃ qb, (qb = pb ∨ w.heap.size ≤ qb) ∧ IsMem w' a qb M

theorem SomeMem.mk' {w w' : World} {a pb : Nat} {M : Mem} (qb : Nat) (h : qb = pb ∨ w.heap.size ≤ qb) (k : IsMem w' a qb M) : SomeMem w w' a pb M := ⟨⟨qb, h, k⟩⟩

theorem load_end {w w1 : World} {a pb na nb d : Nat} {M N : Mem} (hN : IsMem w1 na nb N) (hM : IsMem w a pb M) (hU : Upd [] w w1) (hna : w.heap.size ≤ na) (hnb : w.heap.size ≤ nb) (hd : 64 ≤ d)
    (h1 : w1.heap[na]? = some (.cells #[.slice (some ⟨nb, 0, none⟩) 64 d] 106 (0, 0))) : IsMem (w1.setCell ⟨a, 0, none⟩ (.slice (some ⟨nb, 0, none⟩) 64 d)) a nb N := by
  obtain ⟨c, _, h2⟩ := hM.hd
  have h3 := hU.get h2 (by simp)
  obtain ⟨C, h4, h5⟩ := hN.pg
  have ha := hM.al
  exact ⟨⟨d, hd, heap_set_same h3 0 _⟩, ⟨C, h4, heap_set_keep _ (by simp; omega) h5⟩, hN.ok⟩

set_option maxRecDepth 100000 in
set_option maxHeartbeats 4000000 in
theorem Load_any (M : Mem) (a pb g : Nat) (v : Value) (l : List SpanV) (w : World) (hM : IsMem w a pb M) (hl : SpansIn w v l g) (hok : ∀ s, s ∈ l → s.ok) :
    Calls Try.prog 21 #[.pointer (some ⟨a, 0, none⟩), v] w fun e w' => e = .returned (.int .i64 (errI (loadB l) 60)) ∧ SomeMem w w' a pb (loadR l M) ∧ Upd [a] w w' := by
  have hmo : Try.prog.follows .mixedOrders = true := by kernel_rfl
  have HM := Lib.hid hM
  have HL := Lib.hid hl
  clear hM
  have hl2 := hl
  clear hl
  rcases hl2 with ⟨x, c, rfl, rfl⟩ | ⟨o, c, rfl, hg, hlen, hc⟩
  · go_enter Try.func21, Try.ntmps21
    go_wp2_with (go_at_call 15; refine (New_any _).mono ?_; rintro e w1 ⟨na, nb, rfl, hna, hnb, hN, hU⟩; have HN := Lib.hid hN; have HU := Lib.hid hU; clear hN hU)
    go_loopw [11] (fun i wr => i = .int .i64 0 ∧ IsMem wr na nb Mem.zero ∧ Upd [] w wr) (fun _ _ => 0)
    case atStart => exact ⟨rfl, HN.out, HU.out⟩
    case round =>
      obtain ⟨rfl, hN, hU⟩ := hrel
      have HN := Lib.hid hN
      have HU := Lib.hid hU
      clear hN hU
      obtain ⟨d, hd, h1⟩ := HN.out.hd
      have H1 := Lib.hid h1
      have ca : wr.cell? ⟨na, 0, none⟩ = some (.slice (some ⟨nb, 0, none⟩) 64 d) := by rw [cells_of h1]; rfl
      obtain ⟨d2, hd2, h2⟩ := HM.out.hd
      have h2' := HU.out.get h2 (by simp)
      have H2 := Lib.hid h2'
      have hfr : wr.frozen? ⟨a, 0, none⟩ = false := free_of h2' 0
      have hcb : wr.cell? ⟨a, 0, none⟩ = some (.slice (some ⟨pb, 0, none⟩) 64 d2) := by rw [cells_of h2']; rfl
      clear h1 h2 h2'
      go_wp2
      go_ret
      exact ⟨rfl, SomeMem.mk' (M := loadR [] M) nb (.inr hnb) (load_end HN.out HM.out HU.out hna hnb hd H1.out), (HU.out.mono (by simp)).setCell (by simp) _⟩
  · have hcv := fun (w : World) (s : ByteArray) => run_bytes_of_string (P := Try.prog) w 9 43 5 s (by kernel_rfl) (by kernel_rfl) (by kernel_rfl)
    have HC := Lib.hid hc
    clear hc
    have HO := Lib.hid hok
    clear hok
    go_enter Try.func21, Try.ntmps21
    go_wp2_with (go_at_call 15; refine (New_any _).mono ?_; rintro e w1 ⟨na, nb, rfl, hna, hnb, hN, hU⟩; have HN := Lib.hid hN; have HU := Lib.hid hU; clear hN hU)
    go_loopw [11] (fun i wr => ∃ j : Nat, j ≤ l.length ∧ i = .int .i64 j ∧ (∀ k, k < j → (loadN l k).spanB (l.getD k default) = true) ∧ IsMem wr na nb (loadN l j) ∧ Upd [] w wr) (fun i _ => l.length - (intOf i).toNat)
    case atStart => exact ⟨0, Nat.zero_le _, rfl, by omega, HN.out, HU.out⟩
    case round =>
      obtain ⟨j, hj, rfl, hall, hN, hU⟩ := hrel
      clear HN HU
      have HN := Lib.hid hN
      have HU := Lib.hid hU
      have HA := Lib.hid hall
      clear hN hU hall
      by_cases hlt : j < l.length
      · obtain ⟨s, hs⟩ : ∃ s, l[j]? = some s := ⟨l[j], List.getElem?_eq_getElem hlt⟩
        have hsd : l.getD j default = s := by rw [List.getD_eq_getElem?_getD, hs]; rfl
        have hcs := HL.out.keep HU.out (by simp)
        obtain ⟨c0, c1, c2, c3⟩ : wr.cell? ⟨g, o + j * 4, none⟩ = some (.int .i64 s.pg) ∧ wr.cell? ⟨g, o + j * 4 + 1, none⟩ = some (.int .i64 s.ct) ∧ wr.cell? ⟨g, o + j * 4 + 2, none⟩ = some (.int .i64 s.rt) ∧ wr.cell? ⟨g, o + j * 4 + 3, none⟩ = some (.string s.by_) := by
          rcases hcs with ⟨_, _, hv, _⟩ | ⟨o', c', hv, _, _, h⟩
          · injection hv with _ e _; omega
          · injection hv with e _ _
            injection e with e
            injection e with _ e _
            subst e
            exact h j s hs
        have hsm : s.ok := HO.out s (List.mem_of_getElem? hs)
        have HS := Lib.hid hsm
        have HSD := Lib.hid hsd
        clear hcs hs hsm hsd
        have hmb : (loadN l j).mapB s.pg s.ct s.rt = true ∨ (loadN l j).mapB s.pg s.ct s.rt = false := by cases (loadN l j).mapB s.pg s.ct s.rt <;> simp
        rcases hmb with hmb | hmb
        · have hrow := mapB_row hmb
          have HB := Lib.hid hmb
          clear hmb
          by_cases hsz : (s.by_.size : Int) ≤ s.ct * 256
          · obtain ⟨p1, p2, p3, p4⟩ := hrow
            have q1 : s.pg * 256 % 4294967296 = s.pg * 256 := by omega
            have q2 : 0 ≤ s.pg * 256 := by omega
            have q3 : s.pg * 256 < 4294967296 := by omega
            go_wp2_with (first | (go_at_call 16; refine (Map_yes (loadN l j) na nb s.pg s.ct s.rt _ (HN.out.keep ((Upd.refl [] _).alloc _) (by simp) (by simp)) HS.out.1 HB.out).mono ?_; rintro e w2 ⟨rfl, hM2, hU2⟩; have HM2 := Lib.hid hM2; have HU2 := Lib.hid hU2; have cs2 : ∀ o, w2.cell? ⟨wr.heap.size, o, none⟩ = #[Value.int .i64 s.pg, .int .i64 s.ct, .int .i64 s.rt, .string s.by_][o]? := cells_of (hU2.get (heap_alloc_new _ _) (by have := HN.out.pl; simp; omega)); clear hM2 hU2) | (go_at_call 28; refine (Poke_any _ na nb (s.pg * 256) _ (strInts s.by_) w2.heap.size _ (HM2.out.keep (((Upd.refl [] _).drew).alloc _) (by simp) (by simp)) q2 q3 (bytes_sl _ _ _ _ (grownCap_ge _ _ _ _)) (by have := HM2.out.pl; omega) (strInts_ok _) (by rw [strInts_length]; unfold maxLen; omega)).mono ?_; rintro e w3 ⟨rfl, hM3, hU3⟩; have HM3 := Lib.hid hM3; have HU3 := Lib.hid hU3; clear hM3 hU3))
            go_roundw
            case rel =>
              refine ⟨j + 1, by omega, by go_num, fun k hk => ?_, ?_, ?_⟩
              · by_cases e : k = j
                · subst e
                  rw [HSD.out, Mem.spanB, HB.out]
                  simpa using hsz
                · exact HA.out k (by omega)
              · have h := HM3.out
                rw [loadN, HSD.out]
                exact h
              · have hn : ∀ x, x ∈ [nb] → x ∈ ([] : List Nat) ∨ w.heap.size ≤ x := by simpa using hnb
                exact ((((HU.out.alloc _).also HU2.out hn).drew).alloc _).also HU3.out hn
            case measure => simp [intOf]; omega
          · obtain ⟨p1, p2, p3, p4⟩ := hrow
            have hsz' : s.ct * 256 < s.by_.size := by omega
            go_wp2_with (go_at_call 16; refine (Map_yes (loadN l j) na nb s.pg s.ct s.rt _ (HN.out.keep ((Upd.refl [] _).alloc _) (by simp) (by simp)) HS.out.1 HB.out).mono ?_; rintro e w2 ⟨rfl, hM2, hU2⟩; have HM2 := Lib.hid hM2; have HU2 := Lib.hid hU2; have cs2 : ∀ o, w2.cell? ⟨wr.heap.size, o, none⟩ = #[Value.int .i64 s.pg, .int .i64 s.ct, .int .i64 s.rt, .string s.by_][o]? := cells_of (hU2.get (heap_alloc_new _ _) (by have := HN.out.pl; simp; omega)); clear hM2 hU2)
            go_ret
            have hn : ∀ x, x ∈ [nb] → x ∈ ([] : List Nat) ∨ w.heap.size ≤ x := by simpa using hnb
            have hno : loadB l = false := loadB_no hlt (by rw [HSD.out, Mem.spanB]; simp; omega)
            have hU' := (HU.out.alloc _).also HU2.out hn
            exact ⟨by rw [hno]; rfl, by rw [loadR_no hno]; exact SomeMem.mk' pb (.inl rfl) (HM.out.keep hU' (by simp) (by simp)), hU'.mono (by simp)⟩
        · have HB := Lib.hid hmb
          clear hmb
          go_wp2_with (go_at_call 16; refine (Map_no (loadN l j) na nb s.pg s.ct s.rt _ (HN.out.keep ((Upd.refl [] _).alloc _) (by simp) (by simp)) HS.out.1 HB.out).mono ?_; rintro e w2 ⟨rfl, hU2⟩; have HU2 := Lib.hid hU2; clear hU2)
          go_ret
          have hno : loadB l = false := loadB_no hlt (by rw [HSD.out, Mem.spanB, HB.out]; rfl)
          have hU' := (HU.out.alloc _).also HU2.out (by simp)
          exact ⟨by rw [hno]; rfl, by rw [loadR_no hno]; exact SomeMem.mk' pb (.inl rfl) (HM.out.keep hU' (by simp) (by simp)), hU'.mono (by simp)⟩
      · obtain ⟨d, hd, h1⟩ := HN.out.hd
        have H1 := Lib.hid h1
        have ca : wr.cell? ⟨na, 0, none⟩ = some (.slice (some ⟨nb, 0, none⟩) 64 d) := by rw [cells_of h1]; rfl
        obtain ⟨d2, hd2, h2⟩ := HM.out.hd
        have h2' := HU.out.get h2 (by simp)
        have H2 := Lib.hid h2'
        have hfr : wr.frozen? ⟨a, 0, none⟩ = false := free_of h2' 0
        have hcb : wr.cell? ⟨a, 0, none⟩ = some (.slice (some ⟨pb, 0, none⟩) 64 d2) := by rw [cells_of h2']; rfl
        clear h1 h2 h2'
        go_wp2
        go_ret
        have e : j = l.length := by omega
        subst e
        have hyes := loadB_yes HA.out
        exact ⟨by rw [hyes]; rfl, by rw [loadR_yes hyes]; exact SomeMem.mk' nb (.inr hnb) (load_end HN.out HM.out HU.out hna hnb hd H1.out), (HU.out.mono (by simp)).setCell (by simp) _⟩

end Go.Proofs.Ytncafchgdgmeaaa
