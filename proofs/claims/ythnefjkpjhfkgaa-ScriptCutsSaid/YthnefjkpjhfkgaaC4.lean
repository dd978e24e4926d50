/- script.write at any act: its bytes, or its error; script.Write at any row of acts. -/
import Derived.Test.YthnefjkpjhfkgaaC3
namespace Go.Proofs.Ythnefjkpjhfkgaa.Core
open Go.RowKit Go.Proofs.YthnefjkpjhfkgaaW.PrintWords Go.Proofs.YthnefjkpjhfkgaaW.PrintMore Go.Proofs.Ythnefjkpjhfkgaa.PScriptWrites
set_option linter.unusedVariables false
set_option linter.unusedSimpArgs false

/-- Has an act no other fields than its kind has? -/
def bareB (x : S47) : Bool :=
  if x.f0 = 1 then decide (x.f3 = 0 ∧ x.f4 = [] ∧ x.f5 = [])
  else if x.f0 = 2 then decide (x.f1 = 0 ∧ x.f2 = 0 ∧ x.f3 = 0)
  else if x.f0 = 3 ∨ x.f0 = 4 ∨ x.f0 = 7 then decide (x.f1 = 0 ∧ x.f2 = 0 ∧ x.f4 = [] ∧ x.f5 = [])
  else decide (x.f1 = 0 ∧ x.f2 = 0 ∧ x.f3 = 0 ∧ x.f4 = [] ∧ x.f5 = [])
theorem len0 {α : Type} (l : List α) : ((l.length : Int) = 0) = (l = []) := by
  rw [← List.length_eq_zero_iff]
  exact propext (by omega)
theorem bare_f (x : S47) : script_Act_bare.f 2 x.f0 x.f1 x.f2 x.f3 x.f4 x.f5 = some (bareB x) := by
  obtain ⟨a, b, c, d, e, f⟩ := x
  simp only [script_Act_bare.f, script_Act_bare.j0, script_Act_bare.j1, bareB, len0]
  by_cases h1 : a = 1
  · subst h1; by_cases hb : b = 0 <;> by_cases hd : d = 0 <;> by_cases he : e = [] <;> by_cases hf : f = [] <;> simp [hb, hd, he, hf]
  by_cases h2 : a = 2
  · subst h2; by_cases hb : b = 0 <;> by_cases hc : c = 0 <;> by_cases hd : d = 0 <;> by_cases he : e = [] <;> simp [hb, hc, hd, he]
  by_cases h3 : a = 3
  · subst h3; by_cases hb : b = 0 <;> by_cases hc : c = 0 <;> by_cases he : e = [] <;> by_cases hf : f = [] <;> simp [hb, hc, he, hf]
  by_cases h4 : a = 4
  · subst h4; by_cases hb : b = 0 <;> by_cases hc : c = 0 <;> by_cases he : e = [] <;> by_cases hf : f = [] <;> simp [hb, hc, he, hf]
  by_cases h7 : a = 7
  · subst h7; by_cases hb : b = 0 <;> by_cases hc : c = 0 <;> by_cases he : e = [] <;> by_cases hf : f = [] <;> simp [hb, hc, he, hf]
  by_cases hb : b = 0 <;> by_cases hc : c = 0 <;> by_cases hd : d = 0 <;> by_cases he : e = [] <;> by_cases hf : f = [] <;> simp [h1, h2, h3, h4, h7, hb, hc, hd, he, hf]

def fits (x : S47) : Bool :=
  if x.f0 = 1 then decide ((0 ≤ x.f1 ∧ x.f1 < 256) ∧ 0 ≤ x.f2 ∧ x.f2 < 256)
  else if x.f0 = 2 then decide (x.f5.length < 256)
  else if x.f0 = 3 ∨ x.f0 = 4 then decide (0 ≤ x.f3 ∧ x.f3 < 256)
  else if x.f0 = 7 then decide (0 ≤ x.f3 ∧ x.f3 < 65536)
  else true
/-- Which error an act gives; 0: none. -/
def errOf (x : S47) : Int := if 1 ≤ x.f0 ∧ x.f0 ≤ 7 ∧ bareB x = true then (if fits x = true then 0 else 6) else 4
/-- The bytes of an act that may be written. -/
def byts (x : S47) : List Int :=
  x.f0 :: (if x.f0 = 1 then le 1 x.f1 ++ le 1 x.f2 else if x.f0 = 2 then le 2 x.f4.length ++ x.f4 ++ le 1 x.f5.length ++ x.f5.flatMap (le 8)
    else if x.f0 = 3 ∨ x.f0 = 4 then le 1 x.f3 else if x.f0 = 7 then le 2 x.f3 else [])

def Quit (P0 : Nat → Prop) (w0 w : World) (c : Int) (e : Ending) (w' : World) : Prop := e = .panicked (chain c) ∧ Below w0.heap.size w0 w' ∧ Kept w w' P0

set_option maxHeartbeats 1000000 in
set_option maxRecDepth 100000 in
theorem write_form {P0 : Nat → Prop} {w0 w : World} {u : Value} {l : List Int} {x : S47} {A4 A5 : Option Addr} {c4 c5 k : Nat} (G : Gv P0 w0 w u l x A4 A5 c4 c5) (hk : x.f0 < 1 ∨ 7 < x.f0) :
    Calls Try.prog 19 #[u, .agg (actV x A4 A5 c4 c5)] w (Quit P0 w0 w 4) := by
  have S0 := Lib.hid (St.start G.below G.row (actV x A4 A5 c4 c5))
  clear G
  obtain ⟨f0, f1, f2, f3, f4, f5⟩ := x
  dsimp only at hk
  unfold actV at *
  dsimp only at *
  rcases hk with hk | hk
  all_goals
    go_enter Try.func19, Try.ntmps19
    have d0 := S0.out.cell 0 rfl
    try (have hd : decide (f0 ≤ 7) = false := by simp; omega)
    go_wp2_with fail
    refine (need_no _ _).mono ?_
    rintro e W3 ⟨rfl, rfl⟩
    go_wp2_with fail
    exact ⟨rfl, rfl, S0.out.below, S0.out.kept⟩
set_option maxHeartbeats 1000000 in
set_option maxRecDepth 100000 in
theorem write_bare {P0 : Nat → Prop} {w0 w : World} {u : Value} {l : List Int} {x : S47} {A4 A5 : Option Addr} {c4 c5 k : Nat} (G : Gv P0 w0 w u l x A4 A5 c4 c5) (hk : 1 ≤ x.f0 ∧ x.f0 ≤ 7) (hb : script_Act_bare.f k x.f0 x.f1 x.f2 x.f3 x.f4 x.f5 = some false) :
    Calls Try.prog 19 #[u, .agg (actV x A4 A5 c4 c5)] w (Quit P0 w0 w 4) := by
  have S0 := Lib.hid (St.start G.below G.row (actV x A4 A5 c4 c5))
  have HG := Lib.hid G
  have HB := Lib.hid hb
  clear G hb
  obtain ⟨f0, f1, f2, f3, f4, f5⟩ := x
  obtain ⟨hk1, hk2⟩ := hk
  unfold actV at *
  dsimp only at *
  go_enter Try.func19, Try.ntmps19
  have d0 := S0.out.cell 0 rfl; have d1 := S0.out.cell 1 rfl; have d2 := S0.out.cell 2 rfl; have d3 := S0.out.cell 3 rfl; have d4 := S0.out.cell 4 rfl; have d5 := S0.out.cell 5 rfl
  go_wp2_with fail
  generalize w.alloc (.cells #[.int .i64 f0, .int .i64 f1, .int .i64 f2, .int .i64 f3, .slice A4 f4.length c4, .slice A5 f5.length c5] 47) = W1 at *
  clear d0 d1 d2 d3 d4 d5
  refine (script_Act_bare.calls _ f0 f1 f2 f3 A4 c4 f4 A5 c5 f5 false _ (Kd.C_below HG.out.r4 S0.out.below) HG.out.h4 (Kd.C_below HG.out.r5 S0.out.below) HG.out.h5 HB.out).mono ?_
  rintro e W2 ⟨rfl, hb⟩
  have S1 := Lib.hid (S0.out.below_ hb)
  clear hb S0 HB
  go_wp2_with fail
  refine (need_no _ _).mono ?_
  rintro e W3 ⟨rfl, rfl⟩
  go_wp2_with fail
  exact ⟨rfl, rfl, S1.out.below, S1.out.kept⟩

/-- What comes of an act. -/
def Acted (P0 : Nat → Prop) (w0 w : World) (l : List Int) (x : S47) (e : Ending) (w' : World) : Prop :=
  (errOf x = 0 ∧ Wrote P0 w0 w (l ++ byts x) e w') ∨ (errOf x ≠ 0 ∧ Quit P0 w0 w (errOf x) e w')

theorem write_any {P0 : Nat → Prop} {w0 w : World} {u : Value} {l : List Int} {x : S47} {A4 A5 : Option Addr} {c4 c5 : Nat} (G : Gv P0 w0 w u l x A4 A5 c4 c5) (hw1 : -9223372036854775808 ≤ x.f1) (hw2 : -9223372036854775808 ≤ x.f2) (hw3 : -9223372036854775808 ≤ x.f3) :
    Calls Try.prog 19 #[u, .agg (actV x A4 A5 c4 c5)] w (Acted P0 w0 w l x) := by
  have hbare := bare_f x
  have ok : ∀ {r}, errOf x = 0 → byts x = r → Calls Try.prog 19 #[u, .agg (actV x A4 A5 c4 c5)] w (Wrote P0 w0 w (l ++ r)) → Calls Try.prog 19 #[u, .agg (actV x A4 A5 c4 c5)] w (Acted P0 w0 w l x) :=
    fun he hr h => h.mono fun e w' q => .inl ⟨he, by rw [hr]; exact q⟩
  have no : ∀ c, errOf x = c → c ≠ 0 → Calls Try.prog 19 #[u, .agg (actV x A4 A5 c4 c5)] w (Quit P0 w0 w c) → Calls Try.prog 19 #[u, .agg (actV x A4 A5 c4 c5)] w (Acted P0 w0 w l x) :=
    fun c he hc h => h.mono fun e w' q => .inr ⟨by rw [he]; exact hc, by rw [he]; exact q⟩
  by_cases hk : 1 ≤ x.f0 ∧ x.f0 ≤ 7
  · cases hb : bareB x with
    | false => exact no 4 (by simp [errOf, hb]) (by decide) (write_bare G hk (by rw [hbare, hb]))
    | true =>
      rw [hb] at hbare
      have he : errOf x = if fits x = true then 0 else 6 := by simp [errOf, hk, hb]
      rcases (show x.f0 = 1 ∨ x.f0 = 2 ∨ x.f0 = 3 ∨ x.f0 = 4 ∨ x.f0 = 5 ∨ x.f0 = 6 ∨ x.f0 = 7 by omega) with h | h | h | h | h | h | h
      · by_cases g1 : 0 ≤ x.f1 ∧ x.f1 < 256
        · by_cases g2 : 0 ≤ x.f2 ∧ x.f2 < 256
          · exact ok (by simp [he, fits, h, g1, g2]) (by simp [byts, h]; rfl) (by simpa using write_1_ok G h hbare g1 g2)
          · exact no 6 (by simp [he, fits, h, g1, g2]) (by decide) (write_1_no2 G h hbare g1 (by omega) hw2)
        · exact no 6 (by simp [he, fits, h, g1]) (by decide) (write_1_no1 G h hbare (by omega) hw1)
      · by_cases g : x.f5.length < 256
        · exact ok (by simp [he, fits, h, g]) (by simp [byts, h]; rfl) (by simpa using write_2_ok G h hbare g)
        · exact no 6 (by simp [he, fits, h, g]) (by decide) (write_2_no G h hbare (by omega))
      · by_cases g : 0 ≤ x.f3 ∧ x.f3 < 256
        · exact ok (by simp [he, fits, h, g]) (by simp [byts, h]; rfl) (by simpa using write_3_ok G h hbare g)
        · exact no 6 (by simp [he, fits, h, g]) (by decide) (write_3_no G h hbare (by omega) hw3)
      · by_cases g : 0 ≤ x.f3 ∧ x.f3 < 256
        · exact ok (by simp [he, fits, h, g]) (by simp [byts, h]; rfl) (by simpa using write_4_ok G h hbare g)
        · exact no 6 (by simp [he, fits, h, g]) (by decide) (write_4_no G h hbare (by omega) hw3)
      · exact ok (by simp [he, fits, h]) (by simp [byts, h]; rfl) (by simpa using write_5 G h hbare)
      · exact ok (by simp [he, fits, h]) (by simp [byts, h]; rfl) (by simpa using write_6 G h hbare)
      · by_cases g : 0 ≤ x.f3 ∧ x.f3 < 65536
        · exact ok (by simp [he, fits, h, g]) (by simp [byts, h]; rfl) (by simpa using write_7_ok G h hbare g)
        · exact no 6 (by simp [he, fits, h, g]) (by decide) (write_7_no G h hbare (by omega) hw3)
  · exact no 4 (by simp only [errOf]; rw [if_neg (by omega)]) (by decide) (write_form (k := 0) G (by omega))
end Go.Proofs.Ythnefjkpjhfkgaa.Core
