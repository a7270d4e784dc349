/-
  The document's decoder in Go: early, rest: for every operation. No condition.
-/
import Derived.Test.YtoplekfnghkkdaaMg22
import Derived.Test.YtoplekfnghkkdaaMg03
namespace Go.Proofs.Ytoplekfnghkkdaa
open Go Go.RowKit
set_option linter.unusedVariables false
set_option linter.unusedSimpArgs false

theorem early_mk (L : List Int) (c : Int) (k : Nat) (sh T B : Bool) (hl : 1 < L.length) (ht : toldE c (L.getD 1 0 / 8 % 8) (L.getD 1 0 / 64) = T) (hb : (if c = 198 ∨ c = 199 then L.getD 1 0 / 8 % 8 != 0 else if c = 255 ∧ L.getD 1 0 / 8 % 8 = 7 then true else false) = B) :
    reEarly L c ⟨k, sh, false⟩ = ⟨Ins.zero, T, ⟨k, if T || B then false else sh, B⟩⟩ := by
  unfold reEarly
  rw [if_neg (by omega)]
  dsimp only
  rw [ht, hb]

theorem rearly_any (d g : Nat) (k : Nat) (sh : Bool) (v : Value) (L : List Int) (w : World) (hD : IsRd w d v L g ⟨k, sh, false⟩) (c : Int) (hc : modL.contains c = true) :
    Calls Try.prog 175 #[.pointer (some ⟨d, 0, none⟩), .int .u8 c] w (RAns d v L g w (reEarly L c ⟨k, sh, false⟩)) := by
  by_cases hl : L.length < 2
  · rw [show reEarly L c ⟨k, sh, false⟩ = ⟨Ins.zero, false, ⟨k, sh, false⟩⟩ from by unfold reEarly; rw [if_pos hl]]
    exact rearly_len d g _ v L w hD c hl
  replace hl : 1 < L.length := by omega
  have hm : c = 129 ∨ c = 131 ∨ c = 133 ∨ c = 135 ∨ c = 136 ∨ c = 137 ∨ c = 138 ∨ c = 139 ∨ c = 141 ∨ c = 193 ∨ c = 198 ∨ c = 199 ∨ c = 209 ∨ c = 211 ∨ c = 217 ∨ c = 220 ∨ c = 221 ∨ c = 247 ∨ c = 255 := by simpa [modL] using hc
  rcases hm with rfl | rfl | rfl | rfl | rfl | rfl | rfl | rfl | rfl | rfl | rfl | rfl | rfl | rfl | rfl | rfl | rfl | rfl | rfl
  · rw [early_mk L 129 k sh false false hl (by rfl) (by rfl)]
    exact rearly_129 d g _ v L w hD k sh rfl hl
  · rw [early_mk L 131 k sh false false hl (by rfl) (by rfl)]
    exact rearly_131 d g _ v L w hD k sh rfl hl
  · rw [early_mk L 133 k sh false false hl (by rfl) (by rfl)]
    exact rearly_133 d g _ v L w hD k sh rfl hl
  · rw [early_mk L 135 k sh false false hl (by rfl) (by rfl)]
    exact rearly_135 d g _ v L w hD k sh rfl hl
  · rw [early_mk L 136 k sh false false hl (by rfl) (by rfl)]
    exact rearly_136 d g _ v L w hD k sh rfl hl
  · rw [early_mk L 137 k sh false false hl (by rfl) (by rfl)]
    exact rearly_137 d g _ v L w hD k sh rfl hl
  · rw [early_mk L 138 k sh false false hl (by rfl) (by rfl)]
    exact rearly_138 d g _ v L w hD k sh rfl hl
  · rw [early_mk L 139 k sh false false hl (by rfl) (by rfl)]
    exact rearly_139 d g _ v L w hD k sh rfl hl
  · rw [early_mk L 141 k sh false false hl (by rfl) (by rfl)]
    exact rearly_141 d g _ v L w hD k sh rfl hl
  · by_cases h : shiftsI (L.getD 1 0 / 8 % 8) = 0
    · rw [early_mk L 193 k sh true false hl (by simp [toldE, -List.getD_eq_getElem?_getD, h]) (by simp [toldE, -List.getD_eq_getElem?_getD, h])]
      exact rearly_193_y d g _ v L w hD k sh rfl hl h
    · rw [early_mk L 193 k sh false false hl (by simp [toldE, -List.getD_eq_getElem?_getD, h]) (by simp [toldE, -List.getD_eq_getElem?_getD, h])]
      exact rearly_193_n d g _ v L w hD k sh rfl hl h
  · by_cases h : L.getD 1 0 / 8 % 8 = 0
    · rw [early_mk L 198 k sh false false hl (by simp [toldE, -List.getD_eq_getElem?_getD, h]) (by simp [toldE, -List.getD_eq_getElem?_getD, h])]
      exact rearly_198_0 d g _ v L w hD k sh rfl hl h
    · rw [early_mk L 198 k sh false true hl (by simp [toldE, -List.getD_eq_getElem?_getD, h]) (by simp [toldE, -List.getD_eq_getElem?_getD, h])]
      exact rearly_198_n d g _ v L w hD k sh rfl hl h
  · by_cases h : L.getD 1 0 / 8 % 8 = 0
    · rw [early_mk L 199 k sh false false hl (by simp [toldE, -List.getD_eq_getElem?_getD, h]) (by simp [toldE, -List.getD_eq_getElem?_getD, h])]
      exact rearly_199_0 d g _ v L w hD k sh rfl hl h
    · rw [early_mk L 199 k sh false true hl (by simp [toldE, -List.getD_eq_getElem?_getD, h]) (by simp [toldE, -List.getD_eq_getElem?_getD, h])]
      exact rearly_199_n d g _ v L w hD k sh rfl hl h
  · by_cases h : shiftsI (L.getD 1 0 / 8 % 8) = 0
    · rw [early_mk L 209 k sh true false hl (by simp [toldE, -List.getD_eq_getElem?_getD, h]) (by simp [toldE, -List.getD_eq_getElem?_getD, h])]
      exact rearly_209_y d g _ v L w hD k sh rfl hl h
    · rw [early_mk L 209 k sh false false hl (by simp [toldE, -List.getD_eq_getElem?_getD, h]) (by simp [toldE, -List.getD_eq_getElem?_getD, h])]
      exact rearly_209_n d g _ v L w hD k sh rfl hl h
  · by_cases h : shiftsI (L.getD 1 0 / 8 % 8) = 0
    · rw [early_mk L 211 k sh true false hl (by simp [toldE, -List.getD_eq_getElem?_getD, h]) (by simp [toldE, -List.getD_eq_getElem?_getD, h])]
      exact rearly_211_y d g _ v L w hD k sh rfl hl h
    · rw [early_mk L 211 k sh false false hl (by simp [toldE, -List.getD_eq_getElem?_getD, h]) (by simp [toldE, -List.getD_eq_getElem?_getD, h])]
      exact rearly_211_n d g _ v L w hD k sh rfl hl h
  · rw [early_mk L 217 k sh true false hl (by rfl) (by rfl)]
    exact rearly_217 d g _ v L w hD k sh rfl hl
  · by_cases h : numbersI (L.getD 1 0 / 8 % 8) = 0
    · rw [early_mk L 220 k sh true false hl (by simp [toldE, -List.getD_eq_getElem?_getD, h]) (by simp [toldE, -List.getD_eq_getElem?_getD, h])]
      exact rearly_220_y d g _ v L w hD k sh rfl hl h
    · by_cases h3 : L.getD 1 0 / 64 = 3
      · rw [early_mk L 220 k sh true false hl (by simp [toldE, -List.getD_eq_getElem?_getD, h, h3]) (by simp [toldE, -List.getD_eq_getElem?_getD, h, h3])]
        exact rearly_220_m d g _ v L w hD k sh rfl hl ⟨h, h3⟩
      · rw [early_mk L 220 k sh false false hl (by simp [toldE, -List.getD_eq_getElem?_getD, h, h3]) (by simp [toldE, -List.getD_eq_getElem?_getD, h, h3])]
        exact rearly_220_n d g _ v L w hD k sh rfl hl ⟨h, h3⟩
  · by_cases h : L.getD 1 0 / 8 % 8 = 0
    · rw [early_mk L 221 k sh false false hl (by simp [toldE, -List.getD_eq_getElem?_getD, h]) (by simp [toldE, -List.getD_eq_getElem?_getD, h])]
      exact rearly_221_0 d g _ v L w hD k sh rfl hl h
    · by_cases h3 : L.getD 1 0 / 8 % 8 = 3
      · rw [early_mk L 221 k sh false false hl (by simp [toldE, -List.getD_eq_getElem?_getD, h3]) (by simp [toldE, -List.getD_eq_getElem?_getD, h3])]
        exact rearly_221_3 d g _ v L w hD k sh rfl hl h3
      · rw [early_mk L 221 k sh true false hl (by simp [toldE, -List.getD_eq_getElem?_getD, h, h3]) (by simp [toldE, -List.getD_eq_getElem?_getD, h, h3])]
        exact rearly_221_n d g _ v L w hD k sh rfl hl ⟨h, h3⟩
  · by_cases h : L.getD 1 0 / 8 % 8 = 1
    · rw [early_mk L 247 k sh true false hl (by simp [toldE, -List.getD_eq_getElem?_getD, h]) (by simp [toldE, -List.getD_eq_getElem?_getD, h])]
      exact rearly_247_1 d g _ v L w hD k sh rfl hl h
    · rw [early_mk L 247 k sh false false hl (by simp [toldE, -List.getD_eq_getElem?_getD, h]) (by simp [toldE, -List.getD_eq_getElem?_getD, h])]
      exact rearly_247_n d g _ v L w hD k sh rfl hl h
  · by_cases h3 : L.getD 1 0 / 8 % 8 = 3
    · rw [early_mk L 255 k sh true false hl (by simp [toldE, -List.getD_eq_getElem?_getD, h3]) (by simp [toldE, -List.getD_eq_getElem?_getD, h3])]
      exact rearly_255_3 d g _ v L w hD k sh rfl hl h3
    by_cases h5 : L.getD 1 0 / 8 % 8 = 5
    · rw [early_mk L 255 k sh true false hl (by simp [toldE, -List.getD_eq_getElem?_getD, h5]) (by simp [toldE, -List.getD_eq_getElem?_getD, h5])]
      exact rearly_255_5 d g _ v L w hD k sh rfl hl h5
    by_cases h7 : L.getD 1 0 / 8 % 8 = 7
    · rw [early_mk L 255 k sh false true hl (by simp [toldE, -List.getD_eq_getElem?_getD, h7]) (by simp [toldE, -List.getD_eq_getElem?_getD, h7])]
      exact rearly_255_7 d g _ v L w hD k sh rfl hl h7
    rw [early_mk L 255 k sh false false hl (by simp [toldE, -List.getD_eq_getElem?_getD, h3, h5, h7]) (by simp [toldE, -List.getD_eq_getElem?_getD, h3, h5, h7])]
    exact rearly_255_n d g _ v L w hD k sh rfl hl ⟨h3, h5, h7⟩

theorem rrest_any (d g : Nat) (s : Rd) (v : Value) (L : List Int) (w : World) (hD : IsRd w d v L g s) (c : Int) (o : Opd) (n : Int) (hn : 0 ≤ n ∧ n < 8) (hc : c = 198 ∨ c = 199 ∨ c = 217 ∨ c = 220 ∨ c = 221 ∨ c = 247 ∨ c = 255) :
    Calls Try.prog 176 #[.pointer (some ⟨d, 0, none⟩), .int .u8 c, .agg #[.int .i64 o.k, .int .i64 o.r, .int .u32 o.imm, .int .i64 o.b, .int .i64 o.x, .int .u32 o.sc], .int .i64 n] w (RAns d v L g w (reRest L c o n s)) := by
  rcases hc with rfl | rfl | rfl | rfl | rfl | rfl | rfl
  · by_cases h : n = 0
    · rw [show reRest L 198 o n s = ⟨⟨2, 0, o, immO (reB L { s with bd := false }), false, 0⟩, false, reB' L { s with bd := false }⟩ from by simp [reRest, h]]
      exact rrest_198_0 d g s v L w hD o n h
    · rw [show reRest L 198 o n s = ⟨Ins.zero, false, { s with bd := true }⟩ from by simp [reRest, h]]
      exact rrest_198_n d g s v L w hD o n h
  · by_cases h : n = 0
    · rw [show reRest L 199 o n s = ⟨⟨1, 0, o, immO (reW L { s with bd := false }), false, 0⟩, false, reW' L { s with bd := false }⟩ from by simp [reRest, h]]
      exact rrest_199_0 d g s v L w hD o n h
    · rw [show reRest L 199 o n s = ⟨Ins.zero, false, { s with bd := true }⟩ from by simp [reRest, h]]
      exact rrest_199_n d g s v L w hD o n h
  · by_cases h4 : n = 4
    · cases e0 : o.eqB (regO 0)
      · cases e1 : o.eqB (regO 1)
        · rw [show reRest L 217 o n s = ⟨bareI 52, true, s⟩ from by simp [reRest, e0, e1]]
          exact rrest_217_d d g s v L w hD o n e0 h4 e1
        · rw [show reRest L 217 o n s = ⟨bareI 52, false, s⟩ from by simp [reRest, e0, e1, h4]]
          exact rrest_217_b d g s v L w hD o n e0 h4 e1
      · rw [show reRest L 217 o n s = ⟨bareI 51, false, s⟩ from by simp [reRest, e0, h4]]
        exact rrest_217_y d g s v L w hD o n e0 h4
    · have h4' : (n == 4) = false := by simpa using h4
      have e : reRest L 217 o n s = ⟨bareI 52, true, s⟩ := by simp [reRest, h4]
      rw [e]
      cases e0 : o.eqB (regO 0)
      · cases e1 : o.eqB (regO 1)
        · exact rrest_217_e d g s v L w hD o n e0 h4 e1
        · exact rrest_217_c d g s v L w hD o n e0 h4 e1
      · have e1 : o.eqB (regO 1) = false := by
          rw [Opd.eqB_iff] at e0
          subst e0
          rfl
        exact rrest_217_a d g s v L w hD o n e0 h4 e1
  · by_cases h : numbersI n = 0
    · rw [show reRest L 220 o n s = ⟨⟨0, 0, o, Opd.none, false, 0⟩, true, s⟩ from by simp [reRest, h]]
      exact rrest_220_z d g s v L w hD o n hn h
    by_cases hk : o.k = 1
    · rw [show reRest L 220 o n s = ⟨⟨numbersI n, 0, o, Opd.none, false, 0⟩, true, s⟩ from by simp [reRest, h, hk]]
      exact rrest_220_r d g s v L w hD o n hn h hk
    · rw [show reRest L 220 o n s = ⟨⟨numbersI n, 0, o, Opd.none, false, 0⟩, false, s⟩ from by simp [reRest, h, hk]]
      exact rrest_220_m d g s v L w hD o n hn h hk
  · by_cases h3 : n = 3
    · by_cases hk : o.k = 1
      · rw [show reRest L 221 o n s = ⟨⟨46, 0, o, Opd.none, false, 0⟩, true, s⟩ from by simp [reRest, h3, hk]]
        exact rrest_221_3r d g s v L w hD o n h3 hk
      · rw [show reRest L 221 o n s = ⟨⟨46, 0, o, Opd.none, false, 0⟩, false, s⟩ from by simp [reRest, h3, hk]]
        exact rrest_221_3m d g s v L w hD o n h3 hk
    by_cases h0 : n = 0
    · by_cases hk : o.k = 1
      · rw [show reRest L 221 o n s = ⟨⟨45, 0, o, Opd.none, false, 0⟩, true, s⟩ from by simp [reRest, h0, hk]]
        exact rrest_221_0r d g s v L w hD o n h0 hk
      · rw [show reRest L 221 o n s = ⟨⟨45, 0, o, Opd.none, false, 0⟩, false, s⟩ from by simp [reRest, h0, hk]]
        exact rrest_221_0m d g s v L w hD o n h0 hk
    · rw [show reRest L 221 o n s = ⟨⟨45, 0, o, Opd.none, false, 0⟩, true, s⟩ from by simp [reRest, h0, h3]]
      exact rrest_221_n d g s v L w hD o n h0 h3
  · by_cases h0 : n = 0
    · rw [show reRest L 247 o n s = ⟨⟨11, 0, o, immO (reW L s), false, 0⟩, false, reW' L s⟩ from by simp [reRest, h0]]
      exact rrest_247_0 d g s v L w hD o n h0
    by_cases h : othersI n = 0
    · rw [show reRest L 247 o n s = ⟨⟨0, 0, o, Opd.none, false, 0⟩, true, s⟩ from by simp [reRest, h0, h]]
      exact rrest_247_z d g s v L w hD o n hn h0 h
    · rw [show reRest L 247 o n s = ⟨⟨othersI n, 0, o, Opd.none, false, 0⟩, false, s⟩ from by simp [reRest, h0, h]]
      exact rrest_247_y d g s v L w hD o n hn h0 h
  · by_cases h7 : n = 7
    · rw [show reRest L 255 o n s = ⟨⟨0, 0, o, Opd.none, false, 0⟩, true, { s with bd := true }⟩ from by subst h7; rfl]
      exact rrest_255_7 d g s v L w hD o n hn h7
    have e7 : (n == 7) = false := by simpa using h7
    by_cases h : lastI n = 0
    · rw [show reRest L 255 o n s = ⟨⟨0, 0, o, Opd.none, false, 0⟩, true, { s with bd := false }⟩ from by simp [reRest, h, e7]]
      exact rrest_255_z d g s v L w hD o n hn h7 h
    · rw [show reRest L 255 o n s = ⟨⟨lastI n, 0, o, Opd.none, false, 0⟩, false, { s with bd := false }⟩ from by simp [reRest, h, e7]]
      exact rrest_255_y d g s v L w hD o n hn h7 h
end Go.Proofs.Ytoplekfnghkkdaa

/-
  The document's decoder against the decoder, both as plain data: they tell the same of every bytes. No condition; no program in sight.
-/
namespace Go.Proofs.Ytoplekfnghkkdaa
open Go Go.RowKit
set_option linter.unusedVariables false
set_option linter.unusedSimpArgs false

def Rd.at (k : Nat) : Rd := ⟨k, false, false⟩

/-- What a part of the document's decoder makes is what the decoder makes. -/
def Rel (r : DR Ins) (q : RI) : Prop :=
  match r with
  | .ok i k => q = ⟨i, false, Rd.at k⟩ ∧ isB i = true ∧ i.len = 0
  | .err c => c = 10 ∧ q.s.sh = true ∨ c = 90 ∧ q.s.sh = false ∧ q.s.bd = true ∨ c = 12 ∧ q.s.sh = false ∧ q.s.bd = false ∧ (q.e = true ∨ isB q.i = false)

theorem Rel.ok {i : Ins} {k : Nat} (h : isB i = true) (h0 : i.len = 0) : Rel (.ok i k) ⟨i, false, Rd.at k⟩ := ⟨rfl, h, h0⟩
theorem Rel.e10 {q : RI} (h : q.s.sh = true) : Rel (.err 10) q := .inl ⟨rfl, h⟩
theorem Rel.e90 {q : RI} (h : q.s.sh = false) (h1 : q.s.bd = true) : Rel (.err 90) q := .inr (.inl ⟨rfl, h, h1⟩)
theorem Rel.e12 {q : RI} (h : q.s.sh = false) (h1 : q.s.bd = false) (h2 : q.e = true ∨ isB q.i = false) : Rel (.err 12) q := .inr (.inr ⟨rfl, h, h1, h2⟩)

theorem rel_byte (L : List Int) (k : Nat) : dcByte L k = .ok (reB L (Rd.at k)) (k + 1) ∧ reB' L (Rd.at k) = Rd.at (k + 1) ∨ dcByte L k = .err 10 ∧ (reB' L (Rd.at k)).sh = true := by
  unfold dcByte reB reB' Rd.at
  by_cases h : k < L.length
  · left; simp [h]
  · right; simp [h, Rd.short]

theorem sh_byte (L : List Int) (s : Rd) (h : s.sh = true) : (reB' L s).sh = true := by unfold reB'; split <;> simp [Rd.short, h]
theorem sh_word (L : List Int) (s : Rd) (h : s.sh = true) : (reW' L s).sh = true := sh_byte _ _ (sh_byte _ _ (sh_byte _ _ (sh_byte _ _ h)))
theorem bd_byte (L : List Int) (s : Rd) : (reB' L s).bd = s.bd := by unfold reB'; split <;> rfl
theorem bd_word (L : List Int) (s : Rd) : (reW' L s).bd = s.bd := by simp only [reW', bd_byte]

theorem rel_word (L : List Int) (k : Nat) : dcWord L k = .ok (reW L (Rd.at k)) (k + 4) ∧ reW' L (Rd.at k) = Rd.at (k + 4) ∨ dcWord L k = .err 10 ∧ (reW' L (Rd.at k)).sh = true := by
  by_cases h : k + 4 ≤ L.length
  · left
    have e : ∀ j, j < L.length → reB' L (Rd.at j) = Rd.at (j + 1) ∧ reB L (Rd.at j) = L.getD j 0 := fun j hj => by simp [reB', reB, Rd.at, hj]
    have e0 := e k (by omega)
    have e1 := e (k + 1) (by omega)
    have e2 := e (k + 1 + 1) (by omega)
    have e3 := e (k + 1 + 1 + 1) (by omega)
    unfold dcWord reW reW' wordAt
    rw [if_pos h, e0.1, e1.1, e2.1, e3.1, e0.2, e1.2, e2.2, e3.2]
    exact ⟨rfl, rfl⟩
  · right
    refine ⟨by unfold dcWord; rw [if_neg h], ?_⟩
    have st : ∀ s : Rd, (reB' L s).sh = true ∨ (reB' L s).k = s.k + 1 ∧ s.k < L.length := fun s => by
      unfold reB'
      split
      · exact .inr ⟨rfl, by assumption⟩
      · exact .inl rfl
    unfold reW'
    rcases st (Rd.at k) with h0 | ⟨h0, l0⟩
    · exact sh_byte _ _ (sh_byte _ _ (sh_byte _ _ h0))
    rcases st (reB' L (Rd.at k)) with h1 | ⟨h1, l1⟩
    · exact sh_byte _ _ (sh_byte _ _ h1)
    rcases st (reB' L (reB' L (Rd.at k))) with h2 | ⟨h2, l2⟩
    · exact sh_byte _ _ h2
    rcases st (reB' L (reB' L (reB' L (Rd.at k)))) with h3 | ⟨h3, l3⟩
    · exact h3
    · have : (Rd.at k).k = k := rfl
      omega

theorem reB_range {L : List Int} (hL : BOk L) (s : Rd) : 0 ≤ reB L s ∧ reB L s ≤ 255 := by
  unfold reB
  split
  · exact hL _
  · decide

theorem rel_tail (L : List Int) (mod base x sc : Int) (hm : mod ≠ 3) (h0 : 0 ≤ mod ∧ mod < 4) (k : Nat) :
    (∃ k2, dcTail L mod base x sc k = .ok (reT L mod base x sc (Rd.at k)) k2 ∧ reT' L mod base x sc (Rd.at k) = Rd.at k2) ∨ dcTail L mod base x sc k = .err 10 ∧ (reT' L mod base x sc (Rd.at k)).sh = true := by
  unfold dcTail reT reT'
  by_cases h1 : mod = 1
  · rw [if_pos h1, if_neg (by omega), if_pos h1, if_neg (by omega), if_pos h1]
    rcases rel_byte L k with ⟨a, b⟩ | ⟨a, b⟩
    · rw [a]; exact .inl ⟨_, rfl, b⟩
    · rw [a]; exact .inr ⟨rfl, b⟩
  by_cases h2 : mod = 2
  · rw [if_neg h1, if_pos h2, if_neg (by omega), if_neg h1, if_pos h2, if_neg (by omega), if_neg h1, if_pos h2]
    rcases rel_word L k with ⟨a, b⟩ | ⟨a, b⟩
    · rw [a]; exact .inl ⟨_, rfl, b⟩
    · rw [a]; exact .inr ⟨rfl, b⟩
  have h3 : mod = 0 := by omega
  by_cases h5 : base = 5
  · rw [if_neg h1, if_neg h2, if_pos h5, if_pos ⟨h3, h5⟩, if_pos ⟨h3, h5⟩]
    rcases rel_word L k with ⟨a, b⟩ | ⟨a, b⟩
    · rw [a]; exact .inl ⟨_, rfl, b⟩
    · rw [a]; exact .inr ⟨rfl, b⟩
  · rw [if_neg h1, if_neg h2, if_neg h5, if_neg (by omega), if_neg h1, if_neg h2, if_neg (by omega), if_neg h1, if_neg h2]
    exact .inl ⟨_, rfl, rfl⟩

theorem reT_mem (L : List Int) (mod base x sc : Int) (s : Rd) (hb : 0 ≤ base ∧ base < 8) (hx : -1 ≤ x ∧ x < 8 ∧ x ≠ 4) (hs : sc = 1 ∨ 0 ≤ x ∧ (sc = 2 ∨ sc = 4 ∨ sc = 8)) :
    isMemB (reT L mod base x sc s) = true ∧ (reT L mod base x sc s).k = 3 := by
  have h : ∀ (v b : Int), -1 ≤ b ∧ b < 8 → isMemB ⟨3, 0, v, b, x, sc⟩ = true := fun v b hb => by
    simp only [isMemB, Bool.and_eq_true, Bool.or_eq_true, beq_iff_eq, bne_iff_ne, decide_eq_true_eq, ne_eq]
    obtain ⟨h1, h2, h3⟩ := hx
    refine ⟨⟨⟨⟨⟨⟨⟨trivial, trivial⟩, hb.1⟩, hb.2⟩, h1⟩, h2⟩, h3⟩, ?_⟩
    rcases hs with h | ⟨h, g⟩
    · exact .inl h
    · exact .inr ⟨h, by rcases g with g | g | g <;> simp [g]⟩
  unfold reT
  split
  · exact ⟨h _ _ (by omega), rfl⟩
  split
  · exact ⟨h _ _ (by omega), rfl⟩
  split
  · exact ⟨h _ _ (by omega), rfl⟩
  · exact ⟨h _ _ (by omega), rfl⟩

theorem isReg_regO (r : Int) (h : 0 ≤ r ∧ r < 8) : isRegB (regO r) = true := by
  have e : (regO r).r = r := rfl
  have e1 : (regO r).k = 1 := rfl
  rw [isRegB, e, e1, Opd.eqB_self]
  simp [h.1, h.2]
theorem isImm_immO (v : Int) : isImmB (immO v) = true := by
  rw [isImmB, show (immO v).imm = v from rfl, Opd.eqB_self]; rfl
/-- ModRM and what is behind it: the parts of the first byte, the operand. -/
theorem rel_modrm {L : List Int} (hL : BOk L) (k : Nat) :
    (∃ m, dcMrm L k = .ok m (k + 1) ∧ m = mrmOf (L.getD k 0) ∧ k < L.length ∧ reN L (Rd.at k) = m.reg ∧ (0 ≤ m.reg ∧ m.reg < 8) ∧ (0 ≤ m.mod ∧ m.mod < 4) ∧
      ((∃ k2, dcPlace L m (k + 1) = .ok (reM L (Rd.at k)) k2 ∧ reM' L (Rd.at k) = Rd.at k2) ∨ dcPlace L m (k + 1) = .err 10 ∧ (reM' L (Rd.at k)).sh = true ∧ m.mod ≠ 3) ∧
      (m.mod = 3 ∧ reM L (Rd.at k) = regO m.rm ∧ (0 ≤ m.rm ∧ m.rm < 8) ∨ m.mod ≠ 3 ∧ (reM L (Rd.at k)).k = 3 ∧ isMemB (reM L (Rd.at k)) = true)) ∨
    dcMrm L k = .err 10 ∧ (reM' L (Rd.at k)).sh = true ∧ L.length ≤ k := by
  by_cases hk : k < L.length
  · left
    have hb : reB L (Rd.at k) = L.getD k 0 := by simp [reB, Rd.at, hk]
    have hb' : reB' L (Rd.at k) = Rd.at (k + 1) := by simp [reB', Rd.at, hk]
    have hr := reB_range hL (Rd.at k)
    refine ⟨mrmOf (L.getD k 0), by simp [dcMrm, dcByte, hk, DR.bind], rfl, hk, by rw [reN, hb]; rfl, ?_, ?_, ?_, ?_⟩
    · rw [hb] at hr; simp only [mrmOf]; omega
    · rw [hb] at hr; simp only [mrmOf]; omega
    · unfold reM reM' dcPlace mrmOf
      rw [hb, hb']
      rw [hb] at hr
      obtain ⟨c, hc⟩ : ∃ c, L.getD k 0 = c := ⟨_, rfl⟩
      rw [hc] at hr ⊢
      dsimp only
      by_cases h3 : c / 64 = 3
      · rw [if_pos h3, if_pos h3, if_pos h3]; exact .inl ⟨_, rfl, rfl⟩
      rw [if_neg h3, if_neg h3, if_neg h3]
      by_cases h4 : c % 8 = 4
      · rw [if_pos h4, if_pos h4, if_pos h4]
        rcases rel_byte L (k + 1) with ⟨a, b⟩ | ⟨a, b⟩
        · rw [a, b, DR.bind_ok]
          by_cases h5 : reB L (Rd.at (k + 1)) / 8 % 8 = 4
          · simp only [if_pos h5]
            rcases rel_tail L (c / 64) (reB L (Rd.at (k + 1)) % 8) (-1) 1 h3 (by omega) (k + 1 + 1) with h | h
            · exact .inl h
            · exact .inr ⟨h.1, h.2, h3⟩
          · simp only [if_neg h5]
            rcases rel_tail L (c / 64) (reB L (Rd.at (k + 1)) % 8) (reB L (Rd.at (k + 1)) / 8 % 8) (2 ^ (reB L (Rd.at (k + 1)) / 64).toNat) h3 (by omega) (k + 1 + 1) with h | h
            · exact .inl h
            · exact .inr ⟨h.1, h.2, h3⟩
        · rw [a, DR.bind_err]
          refine .inr ⟨rfl, ?_, h3⟩
          have st : ∀ (mod base x sc : Int) (s : Rd), s.sh = true → (reT' L mod base x sc s).sh = true := fun mod base x sc s h => by
            unfold reT'
            split
            · exact sh_word _ _ h
            split
            · exact sh_byte _ _ h
            split
            · exact sh_word _ _ h
            · exact h
          split <;> exact st _ _ _ _ _ b
      · rw [if_neg h4, if_neg h4, if_neg h4]
        rcases rel_tail L (c / 64) (c % 8) (-1) 1 h3 (by omega) (k + 1) with h | h
        · exact .inl h
        · exact .inr ⟨h.1, h.2, h3⟩
    · unfold reM mrmOf
      rw [hb, hb']
      rw [hb] at hr
      obtain ⟨c, hc⟩ : ∃ c, L.getD k 0 = c := ⟨_, rfl⟩
      rw [hc] at hr ⊢
      dsimp only
      by_cases h3 : c / 64 = 3
      · rw [if_pos h3]; exact .inl ⟨h3, rfl, by omega⟩
      rw [if_neg h3]
      refine .inr ⟨h3, ?_⟩
      have ht := reB_range hL (Rd.at (k + 1))
      by_cases h4 : c % 8 = 4
      · rw [if_pos h4]
        by_cases h5 : reB L (Rd.at (k + 1)) / 8 % 8 = 4
        · rw [if_pos h5]
          exact (reT_mem L _ _ _ _ _ (by omega) (by omega) (.inl rfl)).symm
        · rw [if_neg h5]
          refine (reT_mem L _ _ _ _ _ (by omega) (by omega) ?_).symm
          have : reB L (Rd.at (k + 1)) / 64 = 0 ∨ reB L (Rd.at (k + 1)) / 64 = 1 ∨ reB L (Rd.at (k + 1)) / 64 = 2 ∨ reB L (Rd.at (k + 1)) / 64 = 3 := by omega
          rcases this with h | h | h | h <;> rw [h]
          · exact .inl rfl
          · exact .inr ⟨by omega, .inl rfl⟩
          · exact .inr ⟨by omega, .inr (.inl rfl)⟩
          · exact .inr ⟨by omega, .inr (.inr rfl)⟩
      · rw [if_neg h4]
        exact (reT_mem L _ _ _ _ _ (by omega) (by omega) (.inl rfl)).symm
  · right
    refine ⟨by simp [dcMrm, dcByte, hk, DR.bind], ?_, by omega⟩
    have hb : reB L (Rd.at k) = 0 := by simp [reB, Rd.at, hk]
    have hb' : (reB' L (Rd.at k)).sh = true := by simp [reB', Rd.at, hk, Rd.short]
    unfold reM'
    rw [hb]
    simp [reT', hb']

end Go.Proofs.Ytoplekfnghkkdaa

/-
  The document's decoder against the decoder, both as plain data: by operations. No condition; no program in sight.
-/
namespace Go.Proofs.Ytoplekfnghkkdaa
open Go Go.RowKit
set_option linter.unusedVariables false
set_option linter.unusedSimpArgs false

theorem bd_tail (L : List Int) (mod base x sc : Int) (s : Rd) : (reT' L mod base x sc s).bd = s.bd := by
  unfold reT'
  split
  · exact bd_word _ _
  split
  · exact bd_byte _ _
  split
  · exact bd_word _ _
  · rfl
theorem bd_modrm (L : List Int) (s : Rd) : (reM' L s).bd = s.bd := by
  unfold reM'
  dsimp only
  split
  · exact bd_byte _ _
  split
  · split
    · rw [bd_tail, bd_byte, bd_byte]
    · rw [bd_tail, bd_byte, bd_byte]
  · rw [bd_tail, bd_byte]

/-- An operand that ModRM tells. -/
structure MO (m : Mrm) (o : Opd) : Prop where
  reg : 0 ≤ m.reg ∧ m.reg < 8
  mod : 0 ≤ m.mod ∧ m.mod < 4
  o : m.mod = 3 ∧ o = regO m.rm ∧ (0 ≤ m.rm ∧ m.rm < 8) ∨ m.mod ≠ 3 ∧ o.k = 3 ∧ isMemB o = true

theorem MO.rm {m : Mrm} {o : Opd} (h : MO m o) : rmB o = true := by
  rcases h.o with ⟨_, rfl, hr⟩ | ⟨_, _, hr⟩
  · rw [rmB, isReg_regO _ hr]; rfl
  · rw [rmB, hr, Bool.or_true]
theorem MO.kind {m : Mrm} {o : Opd} (h : MO m o) : (o.k == 1) = (m.mod == 3) := by
  rcases h.o with ⟨h1, rfl, hr⟩ | ⟨h1, h2, hr⟩
  · rw [h1]; rfl
  · have : (m.mod == 3) = false := by simp [h1]
    rw [h2, this]; rfl
theorem MO.mem {m : Mrm} {o : Opd} (h : MO m o) (h3 : m.mod ≠ 3) : isMemB o = true := by
  rcases h.o with ⟨h1, _⟩ | ⟨_, _, hr⟩
  · exact absurd h1 h3
  · exact hr

theorem early_told (L : List Int) (c : Int) (s : Rd) (hl : 1 < L.length) (hs : s.bd = false) (ht : toldE c (mrmOf (L.getD 1 0)).reg (mrmOf (L.getD 1 0)).mod = true) (hb : badE c (mrmOf (L.getD 1 0)).reg = false) :
    (reEarly L c s).e = true ∧ (reEarly L c s).s.sh = false ∧ (reEarly L c s).s.bd = false := by
  unfold reEarly
  rw [if_neg (by omega)]
  simp only [mrmOf] at ht hb
  dsimp only
  rw [ht]
  refine ⟨rfl, rfl, ?_⟩
  unfold badE at hb
  split
  · rename_i h; rw [if_pos h] at hb; exact hb
  · rename_i h
    rw [if_neg h] at hb
    split
    · rename_i h2; rw [if_pos h2.1, h2.2] at hb; cases hb
    · exact hs

theorem early_bad (L : List Int) (c : Int) (s : Rd) (hl : 1 < L.length) (hb : badE c (mrmOf (L.getD 1 0)).reg = true) : (reEarly L c s).s.sh = false ∧ (reEarly L c s).s.bd = true := by
  unfold reEarly
  rw [if_neg (by omega)]
  simp only [mrmOf] at hb
  dsimp only
  have : (if c = 198 ∨ c = 199 then L.getD 1 0 / 8 % 8 != 0 else if c = 255 ∧ L.getD 1 0 / 8 % 8 = 7 then true else s.bd) = true := by
    unfold badE at hb
    split
    · rename_i h; rw [if_pos h] at hb; exact hb
    · rename_i h
      rw [if_neg h] at hb
      split at hb
      · rename_i h2; rw [if_pos ⟨h2, by simpa using hb⟩]
      · cases hb
  rw [this]
  simp

theorem early_no (L : List Int) (c : Int) (s : Rd) (hs : s.bd = false) (hsh : s.sh = true) (ht : toldE c (mrmOf (L.getD 1 0)).reg (mrmOf (L.getD 1 0)).mod = false) (hb : badE c (mrmOf (L.getD 1 0)).reg = false) :
    (reEarly L c s).s.sh = true := by
  unfold reEarly
  split
  · exact hsh
  simp only [mrmOf] at ht hb
  dsimp only
  have : (if c = 198 ∨ c = 199 then L.getD 1 0 / 8 % 8 != 0 else if c = 255 ∧ L.getD 1 0 / 8 % 8 = 7 then true else s.bd) = false := by
    unfold badE at hb
    split
    · rename_i h; rw [if_pos h] at hb; exact hb
    · rename_i h
      rw [if_neg h] at hb
      split
      · rename_i h2; rw [if_pos h2.1, h2.2] at hb; cases hb
      · exact hs
  rw [this, ht]
  simp [hsh]

theorem early_len (L : List Int) (c : Int) (s : Rd) (hsh : s.sh = true) (h : L.length ≤ 1) : (reEarly L c s).s.sh = true := by
  unfold reEarly
  rw [if_pos (by omega)]
  exact hsh

theorem rel_modded {L : List Int} (hL : BOk L) (c : Int) (hc : modL.contains c = true) (h15 : c ≠ 15) (D : DR Ins) (F : Mrm → Nat → DR Ins) (hD : D = (dcMrm L 1).bind F)
    (hearly : ∀ m : Mrm, (0 ≤ m.reg ∧ m.reg < 8) → m.mod ≠ 3 → dcPlace L m 2 = .err 10 → toldE c m.reg m.mod = true ∧ badE c m.reg = false ∧ F m 2 = .err 12 ∨ badE c m.reg = true ∧ F m 2 = .err 90 ∨ toldE c m.reg m.mod = false ∧ badE c m.reg = false ∧ F m 2 = .err 10)
    (hrest : ∀ (m : Mrm) (o : Opd) (k : Nat), MO m o → dcPlace L m 2 = .ok o k → Rel (F m 2) (reModRest L c o m.reg (Rd.at k))) : Rel D (reModded L c (Rd.at 1)) := by
  subst hD
  unfold reModded
  rw [if_neg h15, if_pos hc]
  rcases rel_modrm hL 1 with ⟨m, h1, hm, hl, hn, hr, hmod, hp, ho⟩ | ⟨h1, h2, h3⟩
  · rw [h1, DR.bind_ok, hn]
    rcases hp with ⟨k2, hp, hs⟩ | ⟨hp, hs, h3⟩
    · rw [hs, if_neg (by simp [Rd.at])]
      exact hrest m _ k2 ⟨hr, hmod, ho⟩ hp
    · rw [if_pos hs]
      have hb : (reM' L (Rd.at 1)).bd = false := bd_modrm _ _
      have he := hearly m hr h3 hp
      rw [hm] at he ⊢
      rcases he with ⟨a, b, e⟩ | ⟨a, e⟩ | ⟨a, b, e⟩
      · rw [show (1 : Nat) + 1 = 2 from rfl, e]
        obtain ⟨x, y, z⟩ := early_told L c _ hl hb a b
        exact Rel.e12 y z (.inl x)
      · rw [show (1 : Nat) + 1 = 2 from rfl, e]
        obtain ⟨y, z⟩ := early_bad L c (reM' L (Rd.at 1)) hl a
        exact Rel.e90 y z
      · rw [show (1 : Nat) + 1 = 2 from rfl, e]
        exact Rel.e10 (early_no L c _ hb hs a b)
  · rw [h1, DR.bind_err, if_pos h2]
    exact Rel.e10 (early_len L c _ h2 h3)

/-! ### What may be -/
theorem isB_mk (op : Int) (a b : Opd) (h : operandsB op a b = true) : isB ⟨op, 0, a, b, false, 0⟩ = true := by simp [isB, h]
theorem isB_cond (op cond : Int) (a b : Opd) (hc : 0 ≤ cond ∧ cond ≤ 15) (ho : op = 33 ∨ op = 34 ∨ op = 35) (h : operandsB op a b = true) : isB ⟨op, cond, a, b, false, 0⟩ = true := by
  unfold isB
  rw [if_neg (by simp), if_neg (by simp only; omega)]
  exact h

theorem of_two1 (op : Int) (ho : op = 1 ∨ 3 ≤ op ∧ op ≤ 10) {o : Opd} {r : Int} (h : rmB o = true) (hr : 0 ≤ r ∧ r < 8) : operandsB op o (regO r) = true := by
  rw [operandsB, if_pos ho, h, isReg_regO r hr]; rfl
theorem of_two2 (op : Int) (ho : op = 1 ∨ 3 ≤ op ∧ op ≤ 10) {o : Opd} {r : Int} (h : rmB o = true) (hr : 0 ≤ r ∧ r < 8) : operandsB op (regO r) o = true := by
  rw [operandsB, if_pos ho, rmB, isReg_regO r hr]
  rw [rmB, Bool.or_eq_true] at h
  rcases h with h | h <;> simp [h]
theorem of_imm (op : Int) (ho : op = 1 ∨ 3 ≤ op ∧ op ≤ 10) {o : Opd} (v : Int) (h : rmB o = true) : operandsB op o (immO v) = true := by
  rw [operandsB, if_pos ho, h, isImm_immO]; simp
theorem of_shift (op : Int) (ho : 21 ≤ op ∧ op ≤ 25) {o : Opd} (v : Int) (hv : 0 ≤ v ∧ v < 256) (h : rmB o = true) : operandsB op o (immO v) = true ∧ operandsB op o (regO 1) = true := by
  have e : ∀ b, operandsB op o b = (rmB o && (byteImmB b || isRegB b && b.r == 1)) := fun b => by
    rw [operandsB, if_neg (by omega), if_neg (by omega), if_neg (by omega), if_neg (by omega), if_neg (by omega), if_neg (by omega), if_pos ho]
  rw [e, e, h, byteImmB, isImm_immO, show (immO v).imm = v from rfl, isReg_regO 1 (by decide)]
  exact ⟨by simp; omega, by simp [regO]⟩
theorem of_one (op : Int) (ho : 12 ≤ op ∧ op ≤ 17 ∨ op = 19 ∨ op = 20 ∨ op = 34) {o : Opd} (h : rmB o = true) : operandsB op o Opd.none = true := by
  rw [operandsB, if_neg (by omega), if_neg (by omega), if_neg (by omega), if_neg (by omega), if_pos ho, h]; rfl
theorem of_jump (op : Int) (ho : op = 28 ∨ op = 30 ∨ op = 32) {o : Opd} (h : rmB o = true ∨ isImmB o = true) : operandsB op o Opd.none = true := by
  rw [operandsB, if_neg (by omega), if_neg (by omega), if_neg (by omega), if_neg (by omega), if_neg (by omega), if_neg (by omega), if_neg (by omega), if_neg (by omega), if_pos ho]
  rcases h with h | h <;> simp [h] <;> rfl
theorem of_num (op : Int) (ho : op = 45 ∨ op = 46 ∨ 47 ≤ op ∧ op ≤ 50 ∨ op = 53) {o : Opd} (h : isMemB o = true) : operandsB op o Opd.none = true := by
  rw [operandsB, if_neg (by omega), if_neg (by omega), if_neg (by omega), if_neg (by omega), if_neg (by omega), if_neg (by omega), if_neg (by omega), if_neg (by omega), if_neg (by omega), if_neg (by omega), if_neg (by omega), if_neg (by omega), if_pos ho, h]
  rfl
theorem of_reg (op : Int) (ho : op = 18 ∨ op = 35 ∨ op = 36 ∨ op = 37) {o : Opd} {r : Int} (hr : 0 ≤ r ∧ r < 8) (h : rmB o = true) : operandsB op (regO r) o = true := by
  rw [operandsB, if_neg (by omega), if_neg (by omega), if_neg (by omega), if_neg (by omega), if_neg (by omega), if_pos ho, isReg_regO r hr, h]; rfl

theorem reg_rm (r : Int) (h : 0 ≤ r ∧ r < 8) : rmB (regO r) = true := by rw [rmB, isReg_regO r h]; rfl

/-- A word, a byte behind an operand. -/
theorem rel_imm32 (L : List Int) (k : Nat) (f : Opd → Ins) (h : ∀ v, isB (f (immO v)) = true ∧ (f (immO v)).len = 0) :
    Rel ((dcImm32 L k).bind fun i k => .ok (f i) k) ⟨f (immO (reW L (Rd.at k))), false, reW' L (Rd.at k)⟩ := by
  unfold dcImm32
  rcases rel_word L k with ⟨a, b⟩ | ⟨a, b⟩
  · rw [a, b]; exact Rel.ok (h _).1 (h _).2
  · rw [a]; exact Rel.e10 b
theorem rel_imm8 (L : List Int) (k : Nat) (f : Opd → Ins) (h : ∀ v, isB (f (immO v)) = true ∧ (f (immO v)).len = 0) :
    Rel ((dcImm8 L k).bind fun i k => .ok (f i) k) ⟨f (immO (sx8 (reB L (Rd.at k)))), false, reB' L (Rd.at k)⟩ := by
  unfold dcImm8
  rcases rel_byte L k with ⟨a, b⟩ | ⟨a, b⟩
  · rw [a, b]; exact Rel.ok (h _).1 (h _).2
  · rw [a]; exact Rel.e10 b
theorem rel_small {L : List Int} (hL : BOk L) (k : Nat) (f : Opd → Ins) (h : ∀ v, 0 ≤ v ∧ v < 256 → isB (f (immO v)) = true ∧ (f (immO v)).len = 0) :
    Rel ((dcSmall L k).bind fun i k => .ok (f i) k) ⟨f (immO (reB L (Rd.at k))), false, reB' L (Rd.at k)⟩ := by
  unfold dcSmall
  have hr := reB_range hL (Rd.at k)
  rcases rel_byte L k with ⟨a, b⟩ | ⟨a, b⟩
  · rw [a, b]; exact Rel.ok (h _ (by omega)).1 (h _ (by omega)).2
  · rw [a]; exact Rel.e10 b

theorem eight_ok (n : Int) (h : 0 ≤ n ∧ n < 8) : eightI n = 1 ∨ 3 ≤ eightI n ∧ eightI n ≤ 10 := by unfold eightI; omega

/-! ### The nineteen -/
theorem rel_two (c op : Int) (t : Bool) {L : List Int} (hL : BOk L) (hc : modL.contains c = true) (h15 : c ≠ 15) (hE : ∀ n mod, toldE c n mod = false ∧ badE c n = false)
    (hR : ∀ o n s, reModRest L c o n s = ⟨if t = true then ⟨op, 0, regO n, o, false, 0⟩ else ⟨op, 0, o, regO n, false, 0⟩, false, s⟩)
    (hB : ∀ (o : Opd) r, rmB o = true → 0 ≤ r ∧ r < 8 → operandsB op (if t = true then regO r else o) (if t = true then o else regO r) = true) : Rel (dcTwo L op t 1) (reModded L c (Rd.at 1)) := by
  refine rel_modded hL c hc h15 _ _ rfl (fun m hr h3 hp => .inr (.inr ⟨(hE m.reg m.mod).1, (hE m.reg m.mod).2, by rw [hp]; rfl⟩)) (fun m o k hm hp => ?_)
  rw [hp, hR]
  have := hB o m.reg hm.rm hm.reg
  cases t
  · exact Rel.ok (isB_mk _ _ _ this) rfl
  · exact Rel.ok (isB_mk _ _ _ this) rfl

theorem told_no (c : Int) (h : c = 129 ∨ c = 131 ∨ c = 133 ∨ c = 135 ∨ c = 136 ∨ c = 137 ∨ c = 138 ∨ c = 139 ∨ c = 141) (n mod : Int) : toldE c n mod = false ∧ badE c n = false := by
  unfold toldE badE
  rcases h with rfl | rfl | rfl | rfl | rfl | rfl | rfl | rfl | rfl <;> exact ⟨rfl, rfl⟩

theorem moves_of (L : List Int) (c : Int) (h : 96 ≤ c ∧ ¬(112 ≤ c ∧ c < 128) ∧ ¬(176 ≤ c ∧ c < 192)) (k : Nat) : dcRest L c k = dcMoves L c k := by
  unfold dcRest
  rw [if_neg (by omega), if_neg (by omega), if_neg (by omega), if_neg (by omega), if_neg (by omega), if_neg (by omega), if_neg (by omega), if_neg (by omega), if_neg (by omega)]

theorem rel_129 {L : List Int} (hL : BOk L) : Rel (dcMoves L 129 1) (reModded L 129 (Rd.at 1)) := by
  refine rel_modded hL 129 rfl (by decide) _ (fun m k => (dcPlace L m k).bind fun o k => (dcImm32 L k).bind fun i k => .ok ⟨eightI m.reg, 0, o, i, false, 0⟩ k) rfl
    (fun m hr h3 hp => .inr (.inr ⟨rfl, rfl, by rw [hp]; rfl⟩)) (fun m o k hm hp => ?_)
  rw [hp]
  exact rel_imm32 L k (fun i => ⟨eightI m.reg, 0, o, i, false, 0⟩) (fun v => ⟨isB_mk _ _ _ (of_imm _ (eight_ok _ hm.reg) v hm.rm), rfl⟩)
theorem rel_131 {L : List Int} (hL : BOk L) : Rel (dcMoves L 131 1) (reModded L 131 (Rd.at 1)) := by
  refine rel_modded hL 131 rfl (by decide) _ (fun m k => (dcPlace L m k).bind fun o k => (dcImm8 L k).bind fun i k => .ok ⟨eightI m.reg, 0, o, i, false, 0⟩ k) rfl
    (fun m hr h3 hp => .inr (.inr ⟨rfl, rfl, by rw [hp]; rfl⟩)) (fun m o k hm hp => ?_)
  rw [hp]
  exact rel_imm8 L k (fun i => ⟨eightI m.reg, 0, o, i, false, 0⟩) (fun v => ⟨isB_mk _ _ _ (of_imm _ (eight_ok _ hm.reg) v hm.rm), rfl⟩)
theorem rel_133 {L : List Int} (hL : BOk L) : Rel (dcMoves L 133 1) (reModded L 133 (Rd.at 1)) :=
  rel_two 133 11 false hL rfl (by decide) (told_no _ (by decide)) (fun _ _ _ => rfl) (fun o r h hr => by simp [operandsB, h, isReg_regO r hr])
theorem rel_135 {L : List Int} (hL : BOk L) : Rel (dcMoves L 135 1) (reModded L 135 (Rd.at 1)) :=
  rel_two 135 27 false hL rfl (by decide) (told_no _ (by decide)) (fun _ _ _ => rfl) (fun o r h hr => by simp [operandsB, h, isReg_regO r hr])
theorem rel_136 {L : List Int} (hL : BOk L) : Rel (dcMoves L 136 1) (reModded L 136 (Rd.at 1)) :=
  rel_two 136 2 false hL rfl (by decide) (told_no _ (by decide)) (fun _ _ _ => rfl) (fun o r h hr => by simp [operandsB, h, isReg_regO r hr])
theorem rel_138 {L : List Int} (hL : BOk L) : Rel (dcMoves L 138 1) (reModded L 138 (Rd.at 1)) :=
  rel_two 138 2 true hL rfl (by decide) (told_no _ (by decide)) (fun _ _ _ => rfl) (fun o r h hr => by
    rw [rmB, Bool.or_eq_true] at h
    rcases h with h | h <;> simp [operandsB, rmB, h, isReg_regO r hr])
theorem rel_137 {L : List Int} (hL : BOk L) : Rel (dcMoves L 137 1) (reModded L 137 (Rd.at 1)) :=
  rel_two 137 1 false hL rfl (by decide) (told_no _ (by decide)) (fun _ _ _ => rfl) (fun o r h hr => of_two1 1 (.inl rfl) h hr)
theorem rel_139 {L : List Int} (hL : BOk L) : Rel (dcMoves L 139 1) (reModded L 139 (Rd.at 1)) :=
  rel_two 139 1 true hL rfl (by decide) (told_no _ (by decide)) (fun _ _ _ => rfl) (fun o r h hr => of_two2 1 (.inl rfl) h hr)

theorem rel_141 {L : List Int} (hL : BOk L) : Rel (dcMoves L 141 1) (reModded L 141 (Rd.at 1)) := by
  refine rel_modded hL 141 rfl (by decide) _ (fun m k => if m.mod = 3 then .err 90 else (dcPlace L m k).bind fun o k => .ok ⟨26, 0, regO m.reg, o, false, 0⟩ k) rfl
    (fun m hr h3 hp => .inr (.inr ⟨rfl, rfl, by rw [if_neg h3, hp]; rfl⟩)) (fun m o k hm hp => ?_)
  rw [hp, show reModRest L 141 o m.reg (Rd.at k) = ⟨⟨26, 0, regO m.reg, o, false, 0⟩, false, { Rd.at k with bd := o.k == 1 }⟩ from rfl, hm.kind]
  by_cases h3 : m.mod = 3
  · rw [if_pos h3]
    exact Rel.e90 rfl (by simp [h3])
  · rw [if_neg h3, DR.bind_ok, show (m.mod == 3) = false from by simpa using h3]
    exact Rel.ok (isB_mk _ _ _ (by simp [operandsB, isReg_regO _ hm.reg, hm.mem h3])) rfl

theorem shifts_ok (n : Int) (h : shiftsI n ≠ 0) : 21 ≤ shiftsI n ∧ shiftsI n ≤ 25 := by
  unfold shiftsI at h ⊢
  split at h <;> (try split at h) <;> (try split at h) <;> (try split at h) <;> (try split at h) <;> simp_all

theorem rel_shift {L : List Int} (hL : BOk L) (c : Int) (hc : c = 193 ∨ c = 209 ∨ c = 211) : Rel (dcShift L c 1) (reModded L c (Rd.at 1)) := by
  refine rel_modded hL c (by rcases hc with rfl | rfl | rfl <;> rfl) (by omega) _ (fun m k => if shiftsI m.reg = 0 then .err 12 else (dcPlace L m k).bind fun o k =>
    if c = 193 then (dcSmall L k).bind fun i k => .ok ⟨shiftsI m.reg, 0, o, i, false, 0⟩ k
    else if c = 209 then .ok ⟨shiftsI m.reg, 0, o, immO 1, false, 0⟩ k
    else .ok ⟨shiftsI m.reg, 0, o, regO 1, false, 0⟩ k) rfl
    (fun m hr h3 hp => ?_) (fun m o k hm hp => ?_)
  · have ht : ∀ x y, toldE c x y = (shiftsI x == 0) := fun x y => by rw [toldE, if_pos hc]
    have hb : ∀ x, badE c x = false := fun x => by rw [badE, if_neg (by omega), if_neg (by omega)]
    rw [ht, hb]
    by_cases h0 : shiftsI m.reg = 0
    · exact .inl ⟨by simp [h0], rfl, by rw [if_pos h0]⟩
    · exact .inr (.inr ⟨by simp [h0], rfl, by rw [if_neg h0, hp]; rfl⟩)
  · rw [hp]
    by_cases h0 : shiftsI m.reg = 0
    · rw [if_pos h0]
      rcases hc with rfl | rfl | rfl
      · rw [show reModRest L 193 o m.reg (Rd.at k) = if shiftsI m.reg = 0 then ⟨Ins.zero, true, Rd.at k⟩ else ⟨⟨shiftsI m.reg, 0, o, immO (reB L (Rd.at k)), false, 0⟩, false, reB' L (Rd.at k)⟩ from rfl, if_pos h0]
        exact Rel.e12 rfl rfl (.inl rfl)
      · exact Rel.e12 rfl rfl (.inl (by simp [reModRest, h0]))
      · exact Rel.e12 rfl rfl (.inl (by simp [reModRest, h0]))
    · rw [if_neg h0, DR.bind_ok]
      have hf : (shiftsI m.reg == 0) = false := by simpa using h0
      rcases hc with rfl | rfl | rfl
      · rw [show reModRest L 193 o m.reg (Rd.at k) = if shiftsI m.reg = 0 then ⟨Ins.zero, true, Rd.at k⟩ else ⟨⟨shiftsI m.reg, 0, o, immO (reB L (Rd.at k)), false, 0⟩, false, reB' L (Rd.at k)⟩ from rfl, if_neg h0, if_pos rfl]
        exact rel_small hL k (fun i => ⟨shiftsI m.reg, 0, o, i, false, 0⟩) (fun v hv => ⟨isB_mk _ _ _ (of_shift _ (shifts_ok _ h0) v hv hm.rm).1, rfl⟩)
      · rw [show reModRest L 209 o m.reg (Rd.at k) = ⟨⟨shiftsI m.reg, 0, o, immO 1, false, 0⟩, shiftsI m.reg == 0, Rd.at k⟩ from rfl, hf]
        exact Rel.ok (isB_mk _ _ _ (of_shift _ (shifts_ok _ h0) 1 (by decide) hm.rm).1) rfl
      · rw [show reModRest L 211 o m.reg (Rd.at k) = ⟨⟨shiftsI m.reg, 0, o, regO 1, false, 0⟩, shiftsI m.reg == 0, Rd.at k⟩ from rfl, hf]
        exact Rel.ok (isB_mk _ _ _ (of_shift _ (shifts_ok _ h0) 1 (by decide) hm.rm).2) rfl

theorem rel_lays {L : List Int} (hL : BOk L) (c : Int) (hc : c = 198 ∨ c = 199) : Rel (dcLays L c 1) (reModded L c (Rd.at 1)) := by
  refine rel_modded hL c (by rcases hc with rfl | rfl <;> rfl) (by omega) _ (fun m k => if m.reg ≠ 0 then .err 90 else (dcPlace L m k).bind fun o k =>
    if c = 199 then (dcImm32 L k).bind fun i k => .ok ⟨1, 0, o, i, false, 0⟩ k
    else (dcSmall L k).bind fun i k => .ok ⟨2, 0, o, i, false, 0⟩ k) rfl
    (fun m hr h3 hp => ?_) (fun m o k hm hp => ?_)
  · have ht : ∀ x y, toldE c x y = false := fun x y => by rcases hc with rfl | rfl <;> rfl
    have hb : ∀ x, badE c x = (x != 0) := fun x => by rw [badE, if_pos hc]
    rw [ht, hb]
    by_cases h0 : m.reg = 0
    · exact .inr (.inr ⟨rfl, by simp [h0], by rw [if_neg (by simpa using h0), hp]; rfl⟩)
    · exact .inr (.inl ⟨by simp [h0], by rw [if_pos h0]⟩)
  · rw [hp]
    by_cases h0 : m.reg = 0
    · rw [if_neg (by simpa using h0), DR.bind_ok]
      rcases hc with rfl | rfl
      · rw [show reModRest L 198 o m.reg (Rd.at k) = if m.reg = 0 then ⟨⟨2, 0, o, immO (reB L (Rd.at k)), false, 0⟩, false, reB' L (Rd.at k)⟩ else ⟨Ins.zero, false, { Rd.at k with bd := true }⟩ from rfl, if_pos h0, if_neg (by decide)]
        exact rel_small hL k (fun i => ⟨2, 0, o, i, false, 0⟩) (fun v hv => ⟨isB_mk _ _ _ (by
          have h2 : v < 256 := hv.2
          have hi : (immO v).imm = v := rfl
          simp [operandsB, hm.rm, byteImmB, isImm_immO, hi, h2]), rfl⟩)
      · rw [show reModRest L 199 o m.reg (Rd.at k) = if m.reg = 0 then ⟨⟨1, 0, o, immO (reW L (Rd.at k)), false, 0⟩, false, reW' L (Rd.at k)⟩ else ⟨Ins.zero, false, { Rd.at k with bd := true }⟩ from rfl, if_pos h0, if_pos rfl]
        exact rel_imm32 L k (fun i => ⟨1, 0, o, i, false, 0⟩) (fun v => ⟨isB_mk _ _ _ (of_imm _ (.inl rfl) v hm.rm), rfl⟩)
    · rw [if_pos h0]
      rcases hc with rfl | rfl
      · exact Rel.e90 (by simp [reModRest, reRest, h0, Rd.at]) (by simp [reModRest, reRest, h0])
      · exact Rel.e90 (by simp [reModRest, reRest, h0, Rd.at]) (by simp [reModRest, reRest, h0])

theorem num_ok (n : Int) (h : numbersI n ≠ 0) : numbersI n = 45 ∨ numbersI n = 46 ∨ 47 ≤ numbersI n ∧ numbersI n ≤ 50 ∨ numbersI n = 53 := by
  unfold numbersI at h ⊢
  split at h <;> (try split at h) <;> (try split at h) <;> (try split at h) <;> (try split at h) <;> simp_all

theorem rel_220 {L : List Int} (hL : BOk L) : Rel (dcNumber L 220 1) (reModded L 220 (Rd.at 1)) := by
  refine rel_modded hL 220 rfl (by decide) _ (fun m k => if numOp 220 m = 0 ∨ m.mod = 3 then .err 12 else dcOne L (numOp 220 m) m k) rfl (fun m hr h3 hp => ?_) (fun m o k hm hp => ?_)
  · rw [show numOp 220 m = numbersI m.reg from rfl, show toldE 220 m.reg m.mod = (numbersI m.reg == 0 || m.mod == 3) from rfl, show badE 220 m.reg = false from rfl]
    by_cases h0 : numbersI m.reg = 0
    · exact .inl ⟨by simp [h0], rfl, by rw [if_pos (.inl h0)]⟩
    · exact .inr (.inr ⟨by simp [h0, h3], rfl, by rw [if_neg (by simp [h0, h3]), dcOne, hp]; rfl⟩)
  · rw [show numOp 220 m = numbersI m.reg from rfl, show reModRest L 220 o m.reg (Rd.at k) = ⟨⟨numbersI m.reg, 0, o, Opd.none, false, 0⟩, numbersI m.reg == 0 || o.k == 1, Rd.at k⟩ from rfl, hm.kind]
    by_cases h0 : numbersI m.reg = 0 ∨ m.mod = 3
    · rw [if_pos h0]
      exact Rel.e12 rfl rfl (.inl (by rcases h0 with h | h <;> simp [h]))
    · rw [if_neg h0, dcOne, hp, DR.bind_ok]
      have h1 : ¬ numbersI m.reg = 0 := fun h => h0 (.inl h)
      have h2 : ¬ m.mod = 3 := fun h => h0 (.inr h)
      rw [show (numbersI m.reg == 0 || m.mod == 3) = false from by simp [h1, h2]]
      exact Rel.ok (isB_mk _ _ _ (of_num _ (num_ok _ h1) (hm.mem h2))) rfl

theorem rel_221 {L : List Int} (hL : BOk L) : Rel (dcNumber L 221 1) (reModded L 221 (Rd.at 1)) := by
  have fz : ∀ n : Int, fldI n = 0 ↔ n ≠ 0 ∧ n ≠ 3 := fun n => by
    unfold fldI
    by_cases h0 : n = 0
    · simp [h0]
    · by_cases h3 : n = 3 <;> simp [h0, h3]
  refine rel_modded hL 221 rfl (by decide) _ (fun m k => if numOp 221 m = 0 ∨ m.mod = 3 then .err 12 else dcOne L (numOp 221 m) m k) rfl (fun m hr h3 hp => ?_) (fun m o k hm hp => ?_)
  · rw [show numOp 221 m = fldI m.reg from rfl, show toldE 221 m.reg m.mod = (m.reg != 0 && m.reg != 3) from rfl, show badE 221 m.reg = false from rfl]
    by_cases h0 : fldI m.reg = 0
    · have h1 := (fz _).1 h0
      exact .inl ⟨by simp [h1], rfl, by rw [if_pos (.inl h0)]⟩
    · have h1 : ¬(m.reg ≠ 0 ∧ m.reg ≠ 3) := fun h => h0 ((fz _).2 h)
      exact .inr (.inr ⟨by rw [← Bool.not_eq_true, Bool.and_eq_true, bne_iff_ne, bne_iff_ne]; exact h1, rfl, by rw [if_neg (by simp [h0, h3]), dcOne, hp]; rfl⟩)
  · rw [show numOp 221 m = fldI m.reg from rfl, show reModRest L 221 o m.reg (Rd.at k) = ⟨⟨if m.reg = 3 then 46 else 45, 0, o, Opd.none, false, 0⟩, (m.reg != 0 && m.reg != 3) || o.k == 1, Rd.at k⟩ from rfl, hm.kind]
    by_cases h0 : fldI m.reg = 0 ∨ m.mod = 3
    · rw [if_pos h0]
      refine Rel.e12 rfl rfl (.inl ?_)
      rcases h0 with h | h
      · have h1 := (fz _).1 h
        simp [h1]
      · simp [h]
    · rw [if_neg h0, dcOne, hp, DR.bind_ok]
      have h1 : ¬(m.reg ≠ 0 ∧ m.reg ≠ 3) := fun h => h0 (.inl ((fz _).2 h))
      have h2 : ¬ m.mod = 3 := fun h => h0 (.inr h)
      have e : fldI m.reg = if m.reg = 3 then 46 else 45 := by
        unfold fldI
        have : m.reg = 0 ∨ m.reg = 3 := by omega
        rcases this with h | h <;> simp [h]
      rw [show ((m.reg != 0 && m.reg != 3) || m.mod == 3) = false from by
        have : m.reg = 0 ∨ m.reg = 3 := by omega
        rcases this with h | h <;> simp [h, h2], ← e]
      refine Rel.ok (isB_mk _ _ _ (of_num _ ?_ (hm.mem h2))) rfl
      rw [e]
      split <;> simp

theorem oth_ok (n : Int) (h : othersI n ≠ 0) : 12 ≤ othersI n ∧ othersI n ≤ 17 ∨ othersI n = 19 ∨ othersI n = 20 ∨ othersI n = 34 := by
  unfold othersI at h ⊢
  split at h <;> (try split at h) <;> (try split at h) <;> (try split at h) <;> (try split at h) <;> (try split at h) <;> simp_all

theorem rel_247 {L : List Int} (hL : BOk L) : Rel (dcUnary L 1) (reModded L 247 (Rd.at 1)) := by
  have oz : ∀ n : Int, 0 ≤ n ∧ n < 8 → n ≠ 0 → (othersI n = 0 ↔ n = 1) := fun n hn h0 => by
    have : n = 1 ∨ n = 2 ∨ n = 3 ∨ n = 4 ∨ n = 5 ∨ n = 6 ∨ n = 7 := by omega
    rcases this with rfl | rfl | rfl | rfl | rfl | rfl | rfl <;> decide
  refine rel_modded hL 247 rfl (by decide) _ (fun m k =>
    if m.reg = 0 then (dcPlace L m k).bind fun o k => (dcImm32 L k).bind fun i k => .ok ⟨11, 0, o, i, false, 0⟩ k
    else if othersI m.reg ≠ 0 then dcOne L (othersI m.reg) m k
    else .err 12) rfl (fun m hr h3 hp => ?_) (fun m o k hm hp => ?_)
  · rw [show toldE 247 m.reg m.mod = (m.reg == 1) from rfl, show badE 247 m.reg = false from rfl]
    by_cases h0 : m.reg = 0
    · exact .inr (.inr ⟨by simp [h0], rfl, by rw [if_pos h0, hp]; rfl⟩)
    · by_cases h1 : m.reg = 1
      · exact .inl ⟨by simp [h1], rfl, by rw [if_neg h0, if_neg (by simpa using (oz _ hr h0).2 h1)]⟩
      · exact .inr (.inr ⟨by simp [h1], rfl, by rw [if_neg h0, if_pos (fun h => h1 ((oz _ hr h0).1 h)), dcOne, hp]; rfl⟩)
  · rw [show reModRest L 247 o m.reg (Rd.at k) = if m.reg = 0 then ⟨⟨11, 0, o, immO (reW L (Rd.at k)), false, 0⟩, false, reW' L (Rd.at k)⟩ else ⟨⟨othersI m.reg, 0, o, Opd.none, false, 0⟩, othersI m.reg == 0, Rd.at k⟩ from rfl, hp]
    by_cases h0 : m.reg = 0
    · rw [if_pos h0, if_pos h0, DR.bind_ok]
      exact rel_imm32 L k (fun i => ⟨11, 0, o, i, false, 0⟩) (fun v => ⟨isB_mk _ _ _ (by simp [operandsB, hm.rm, isImm_immO]), rfl⟩)
    · rw [if_neg h0, if_neg h0]
      by_cases h1 : othersI m.reg = 0
      · rw [if_neg (by simpa using h1)]
        exact Rel.e12 rfl rfl (.inl (by simp [h1]))
      · rw [if_pos h1, dcOne, hp, DR.bind_ok, show (othersI m.reg == 0) = false from by simpa using h1]
        exact Rel.ok (isB_mk _ _ _ (of_one _ (oth_ok _ h1) hm.rm)) rfl

theorem rel_255 {L : List Int} (hL : BOk L) : Rel (dcLast L 1) (reModded L 255 (Rd.at 1)) := by
  have lz : ∀ n : Int, 0 ≤ n ∧ n < 8 → (lastI n = 0 ↔ n = 3 ∨ n = 5 ∨ n = 7) := fun n hn => by
    have : n = 0 ∨ n = 1 ∨ n = 2 ∨ n = 3 ∨ n = 4 ∨ n = 5 ∨ n = 6 ∨ n = 7 := by omega
    rcases this with rfl | rfl | rfl | rfl | rfl | rfl | rfl | rfl <;> decide
  refine rel_modded hL 255 rfl (by decide) _ (fun m k => if lastI m.reg ≠ 0 then dcOne L (lastI m.reg) m k else if m.reg = 7 then .err 90 else .err 12) rfl (fun m hr h3 hp => ?_) (fun m o k hm hp => ?_)
  · rw [show toldE 255 m.reg m.mod = (m.reg == 3 || m.reg == 5) from rfl, show badE 255 m.reg = (m.reg == 7) from rfl]
    by_cases h0 : lastI m.reg = 0
    · rw [if_neg (by simpa using h0)]
      rcases (lz _ hr).1 h0 with h | h | h
      · exact .inl ⟨by simp [h], by simp [h], by rw [if_neg (by omega)]⟩
      · exact .inl ⟨by simp [h], by simp [h], by rw [if_neg (by omega)]⟩
      · exact .inr (.inl ⟨by simp [h], by rw [if_pos h]⟩)
    · have h1 : ¬(m.reg = 3 ∨ m.reg = 5 ∨ m.reg = 7) := fun h => h0 ((lz _ hr).2 h)
      refine .inr (.inr ⟨?_, ?_, by rw [if_pos h0, dcOne, hp]; rfl⟩)
      · rw [← Bool.not_eq_true, Bool.or_eq_true, beq_iff_eq, beq_iff_eq]; omega
      · rw [← Bool.not_eq_true, beq_iff_eq]; omega
  · rw [show reModRest L 255 o m.reg (Rd.at k) = ⟨⟨lastI m.reg, 0, o, Opd.none, false, 0⟩, lastI m.reg == 0, { Rd.at k with bd := m.reg == 7 }⟩ from rfl]
    by_cases h0 : lastI m.reg = 0
    · rw [if_neg (by simpa using h0)]
      by_cases h7 : m.reg = 7
      · rw [if_pos h7]
        exact Rel.e90 rfl (by simp [h7])
      · rw [if_neg h7]
        exact Rel.e12 rfl (by simp [h7]) (.inl (by simp [h0]))
    · have h1 : ¬(m.reg = 3 ∨ m.reg = 5 ∨ m.reg = 7) := fun h => h0 ((lz _ hm.reg).2 h)
      rw [if_pos h0, dcOne, hp, DR.bind_ok, show (lastI m.reg == 0) = false from by simpa using h0, show (m.reg == 7) = false from by rw [← Bool.not_eq_true, beq_iff_eq]; omega]
      refine Rel.ok (isB_mk _ _ _ ?_) rfl
      have : m.reg = 0 ∨ m.reg = 1 ∨ m.reg = 2 ∨ m.reg = 4 ∨ m.reg = 6 := by have := hm.reg; omega
      rcases this with h | h | h | h | h <;> rw [h]
      · exact of_one 12 (by decide) hm.rm
      · exact of_one 13 (by decide) hm.rm
      · exact of_jump 30 (by decide) (.inl hm.rm)
      · exact of_jump 32 (by decide) (.inl hm.rm)
      · exact of_jump 28 (by decide) (.inl hm.rm)

end Go.Proofs.Ytoplekfnghkkdaa
