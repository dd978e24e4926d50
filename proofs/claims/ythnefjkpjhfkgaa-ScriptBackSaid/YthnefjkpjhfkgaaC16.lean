/- told at equal rows of acts: true. -/
import Derived.Test.YthnefjkpjhfkgaaC14
namespace Go.Proofs.Ythnefjkpjhfkgaa.Core
open Go.RowKit Go.Proofs.YthnefjkpjhfkgaaW.PrintWords Go.Proofs.YthnefjkpjhfkgaaW.PrintMore Go.Proofs.Ythnefjkpjhfkgaa.PScriptWrites
set_option linter.unusedVariables false
set_option linter.unusedSimpArgs false
/-- The program's act as the document's. -/
def un (x : S47) : S33 := ⟨x.f0, x.f1, x.f2, x.f3, x.f4, x.f5⟩
theorem at_un {l : List S47} {j : Nat} (hj : j < l.length) : rd_T33 (l.map un) j = un (rd_T47 l j) := by
  simp [rd_T33, rd_T47, List.getD, List.getElem?_eq_getElem hj]
theorem Kd.C_cell {k : IntKind} {w : World} {A : Option Addr} {xs : List Int} {i : Nat} (h : (Kd.int k).C w A xs.length xs) (hi : i < xs.length) : ∃ ad, A = some ad ∧ w.cell? (ad.add i) = some (.int k xs[i]) := by
  have hr := Kd.reads_of_C (enc := Value.int k) (d := (0 : Int)) (h1 := fun _ => rfl) h
  obtain ⟨ad, e, hc⟩ := hr.2.2 (by omega)
  refine ⟨ad, e, ?_⟩
  have := hc i hi
  simpa [List.getD, List.getElem?_eq_getElem hi] using this
set_option maxHeartbeats 8000000 in
set_option maxRecDepth 100000 in
theorem told_true (l : List S47) (A0 A1 : Option Addr) (c0 c1 : Nat) (w : World) (h0 : Kd.C k47 w A0 l.length l) (h1 : Kd.C k33 w A1 l.length (l.map un)) (hn : l.length ≤ 1000000) (hf : ∀ x ∈ l, x.f4.length ≤ 1000000000 ∧ x.f5.length ≤ 1000000000) :
    Calls Try.prog 16 #[.slice A0 l.length c0, .slice A1 l.length c1] w fun e w' => e = .returned (.bool true) ∧ Drawn0 w w' := by
  have H0 := Lib.hid h0
  have H1 := Lib.hid h1
  have HF := Lib.hid hf
  clear h0 h1 hf
  obtain ⟨n, hnn⟩ : ∃ n, n = l.length := ⟨_, rfl⟩
  have HN := Lib.hid hnn
  rw [← hnn] at hn ⊢
  clear hnn
  go_enter Try.func16, Try.ntmps16
  go_wp2
  go_loopg [5] n (fun k v W => ∃ j d : Nat, j + k = n ∧ v = .int .i64 j ∧ W = w.drewN d)
  case atStart => exact ⟨0, 0, by omega, rfl, rfl⟩
  case round =>
    obtain ⟨j, d, hjk, rfl, rfl⟩ := hrel
    have HJ := Lib.hid hjk
    clear hjk
    by_cases hlt : j < n
    · have hlt2 : j < l.length := by have := HN.out; omega
      obtain ⟨ad, A4, c4, A5, c5, rfl, e0, e1, e2, e3, e4, e5, l4, r4, l5, r5⟩ := at_T47 H0.out (j : Int) (Int.natCast_nonneg j) (Int.ofNat_lt.2 hlt2)
      obtain ⟨bd, B4, d4, B5, d5, rfl, g0, g1, g2, g3, g4, g5, m4, q4, m5, q5⟩ := at_T33 H1.out (j : Int) (Int.natCast_nonneg j) (Int.ofNat_lt.2 hlt2)
      rw [at_un hlt2] at g0 g1 g2 g3 g4 g5 m4 q4 m5 q5
      have hx : rd_T47 l j ∈ l := by simp [rd_T47, List.getD, List.getElem?_eq_getElem hlt2]
      have hfx := HF.out _ hx
      obtain ⟨f4, f5⟩ := hfx
      clear hx
      generalize rd_T47 l j = x at *
      obtain ⟨x0, x1, x2, x3, x4, x5⟩ := x
      simp only [un] at g0 g1 g2 g3 g4 g5 m4 q4 m5 q5 e0 e1 e2 e3 e4 e5 l4 r4 l5 r5 f4 f5
      simp only [Int.toNat_natCast] at e0 e1 e2 e3 e4 e5 g0 g1 g2 g3 g4 g5
      have s1 := fun q => Kd.C_string (P := Try.prog) (src := 24) (dst := 9) (c := c4) Try.underlying24 Try.underlying5 Try.underlying9 (Kd.C_below r4 (Drawn0.below ⟨⟨q, rfl⟩⟩))
      have s2 := fun q => Kd.C_string (P := Try.prog) (src := 24) (dst := 9) (c := d4) Try.underlying24 Try.underlying5 Try.underlying9 (Kd.C_below q4 (Drawn0.below ⟨⟨q, rfl⟩⟩))
      have R5 := Lib.hid r5
      have Q5 := Lib.hid q5
      obtain ⟨n4, hn4⟩ : ∃ n4, n4 = x4.length := ⟨_, rfl⟩
      obtain ⟨n5, hn5⟩ : ∃ n5, n5 = x5.length := ⟨_, rfl⟩
      have N4 := Lib.hid hn4
      have N5 := Lib.hid hn5
      rw [← hn4] at s1 s2 e4 g4 f4
      rw [← hn5] at e5 g5 f5
      generalize strOfNums x4 = sb at *
      clear r4 q4 r5 q5 hn4 hn5
      go_wp2
      go_quiet (fail)
      have E0 := Lib.hid (And.intro e4 g4)
      clear e0 e1 e2 e3 e4 g0 g1 g2 g3 g4 s1 s2
      go_wp2
      go_loopg [6] n5 (fun k v W => ∃ i d : Nat, i + k = n5 ∧ v = .int .i64 i ∧ W = w.drewN d)
      case atStart => exact ⟨0, d + nq, by omega, rfl, World.drewN_drewN ..⟩
      case round =>
        obtain ⟨i, d2, hik, rfl, rfl⟩ := hrel
        have HI := Lib.hid hik
        clear hik
        by_cases hli : i < n5
        · have hl5 : i < x5.length := by have := N5.out; omega
          obtain ⟨ae, ha, hca⟩ := Kd.C_cell R5.out hl5
          obtain ⟨be, hb, hcb⟩ := Kd.C_cell Q5.out hl5
          subst ha
          subst hb
          generalize x5[i] = y at *
          go_wp2
          go_quiet (fail)
          go_wp2
          go_roundg (n5 - (i + 1))
          case measure => have := HI.out; omega
          case rel => exact ⟨i + 1, _, by omega, by go_num, rfl⟩
        · go_wp2
          go_roundg (n - (j + 1))
          case measure => have := HJ.out; omega
          case rel => exact ⟨j + 1, _, by omega, by go_num, rfl⟩
    · go_wp2
      go_ret
      exact ⟨rfl, ⟨⟨d, rfl⟩⟩⟩
end Go.Proofs.Ythnefjkpjhfkgaa.Core
