/- slices.Clone at a path: a path of one's own. -/
import Derived.Test.YtceankldidkohaaDoorC8
namespace Go.Proofs.YtceankldidkohaaDoor.Core
open Go.RowKit Go.Proofs.YtceankldidkohaaDoorW.PrintWords Go.Proofs.YtceankldidkohaaDoorW.PrintMore Go.Proofs.YtceankldidkohaaDoor.PAuditTwice Go.Proofs.YtceankldidkohaaDoor
set_option linter.unusedVariables false
set_option linter.unusedSimpArgs false
theorem own_F {W W' : World} {v : Value} {p : List Int} (h : W'.ownsRow W.heap.size 3 1 v p.length (p.map (Value.int .i64))) : ∃ A' c', v = .slice A' p.length c' ∧ p.length ≤ c' ∧ Kd.F (Kd.int .i64) W' (fun q => W.heap.size ≤ q ∧ q < W'.heap.size) A' p.length p := by
  have hR : (Kd.int .i64).R 3 W' W.heap.size (fun _ => True) v p := Kd.R_of_own (by rw [show encs (Value.int .i64) p = p.map (Value.int .i64) from by simp [encs]]; exact h) (fun _ _ => trivial)
  obtain ⟨A', c', rfl, hc, _⟩ := Kd.R_reads hR
  exact ⟨A', c', rfl, hc, Kd.F_mono (Kd.R_F (Kd.R_bound hR)) (fun q hq => ⟨hq.2.1, hq.2.2.1⟩)⟩
theorem clone_any {p : List Int} {A : Option Addr} {c : Nat} {W : World} (hp : p.length ≤ 1000000) (hC : (Kd.int .i64).C W A p.length p) :
    Calls Tryd.prog 23 #[.slice A p.length c] W fun e W' => ∃ A' c', e = .returned (.slice A' p.length c') ∧ p.length ≤ c' ∧ Kd.F (Kd.int .i64) W' (fun q => W.heap.size ≤ q ∧ q < W'.heap.size) A' p.length p ∧ Below W.heap.size W W' := by
  have hr := Kd.reads_of_C (enc := Value.int .i64) (d := (0 : Int)) (h1 := fun _ => rfl) hC
  rcases Nat.eq_zero_or_pos p.length with h0 | h0
  · obtain rfl : p = [] := List.eq_nil_of_length_eq_zero h0
    cases A with
    | none =>
      refine (Tryd.slices_Clone_int_nil 0 c W).mono ?_
      rintro e W' ⟨rfl, rfl⟩
      exact ⟨none, 0, rfl, Nat.le_refl _, Kd.F_nil _ _ _, Below.refl _ _⟩
    | some a =>
      refine (Tryd.slices_Clone_int_zero a c W).mono ?_
      rintro e W' ⟨v', rfl, ho, _, hb⟩
      obtain ⟨A', c', rfl, h1, h2⟩ := own_F (p := []) ho
      exact ⟨A', c', rfl, h1, h2, hb⟩
  · obtain ⟨ad, rfl, hc⟩ := hr.2.2 (by omega)
    obtain ⟨b, off, spot⟩ := ad
    have hs : spot = none := by
      have h := hc 0 h0
      have e : (⟨b, off, spot⟩ : Addr).add 0 = ⟨b, off, spot⟩ := by simp [Addr.add]
      rw [e] at h
      cases spot with
      | none => rfl
      | some s =>
        simp only [World.cell?] at h
        split at h
        · simp at h
        · cases h
    subst hs
    refine (Tryd.slices_Clone_int b off p.length c p W (Nat.le_refl _) (by omega) (fun j hj => by have := hc j hj; rw [add_at] at this; exact this)).mono ?_
    rintro e W' ⟨v', rfl, ho, _, hb⟩
    rw [List.take_length] at ho
    obtain ⟨A', c', rfl, h1, h2⟩ := own_F ho
    exact ⟨A', c', rfl, h1, h2, hb⟩
end Go.Proofs.YtceankldidkohaaDoor.Core
