/- light, of: what the laws' own helpers come to. Printed by gen_q1.py. -/
import Derived.Test.YtcchoeomeklgmaaGreatDoorA2
namespace Go.Proofs.YtcchoeomeklgmaaGreatDoor.Core
open Go.RowKit Go.Shelf Go.Proofs.YtcchoeomeklgmaaGreatDoorW.PrintWords Go.Proofs.YtcchoeomeklgmaaGreatDoorW.PrintMore Go.Proofs.YtcchoeomeklgmaaGreatDoor.P1 Go.Proofs.YtcchoeomeklgmaaGreatDoor
open Go.Proofs.YtcchoeomeklgmaaGreatDoor.PAsmPrints (S56 k56 z56 S49 k49 z49 at_T49 at_T56 rd_T49 rd_T56 S59 k59 z59 S39 k39 z39 at_T39 at_T59 rd_T39 rd_T59)
set_option linter.unusedVariables false
set_option linter.unusedSimpArgs false
/-- A document's program as a plain list. -/
def fnOf (x : S39) : Fn := (x.f0, x.f1.map fun i => (i.f0, [i.f1, i.f2, i.f3, i.f4]))
theorem toI_of (i : S59) : RT.toI (i.f0, [i.f1, i.f2, i.f3, i.f4]) = i := rfl
theorem toP_of (x : S39) : RT.toP (fnOf x) = x := by
  unfold fnOf RT.toP
  simp only [List.map_map]
  rw [show (RT.toI ∘ fun i : S59 => (i.f0, [i.f1, i.f2, i.f3, i.f4])) = id from funext fun i => rfl, List.map_id]
theorem map_of (l : List S39) : (l.map fnOf).map RT.toP = l := by
  rw [List.map_map, show (RT.toP ∘ fnOf) = id from funext toP_of, List.map_id]
theorem four_of (l : List S39) : Four (l.map fnOf) := by
  intro f hf i hi
  obtain ⟨x, _, rfl⟩ := List.mem_map.1 hf
  obtain ⟨y, _, rfl⟩ := List.mem_map.1 hi
  rfl
/-- Are a program's parts few? -/
def lightB (p : List Fn) : Bool := decide (p.length ≤ 20) && p.all fun f => decide (f.2.length ≤ 70)
theorem light_go (p : List Fn) (hn : p.length ≤ 20) : ∀ (n q : Nat), p.length - q = n → q ≤ p.length → Ev (fun k => haymowlaw04_light.l0 k (p.map RT.toP) q) ((p.drop q).all fun f => decide (f.2.length ≤ 70)) := by
  intro n
  induction n with
  | zero =>
    intro q h1 h2
    obtain rfl : q = p.length := by omega
    rw [List.drop_length]
    exact Ev.step (f := fun _ => some true) (fun k => by rw [haymowlaw04_light.l0, if_neg (by simp)]) (Ev.now _)
  | succ n ih =>
    intro q h1 h2
    have hq : q < p.length := by omega
    have e : rd_T39 (p.map RT.toP) q = RT.toP p[q] := by unfold rd_T39; simp [hq]
    have e2 : (RT.toP p[q]).f1.length = p[q].2.length := by simp [RT.toP]
    rw [List.drop_eq_getElem_cons hq, List.all_cons]
    by_cases h : p[q].2.length ≤ 70
    · rw [decide_eq_true h, Bool.true_and]
      exact Ev.step (f := fun k => haymowlaw04_light.l0 k (p.map RT.toP) ((q + 1 : Nat) : Int)) (fun k => by
        rw [haymowlaw04_light.l0, if_pos (by simp; omega), if_pos (by omega), e, e2, if_neg (by omega), wrN (by omega)]) (ih (q + 1) (by omega) (by omega))
    · rw [decide_eq_false h, Bool.false_and]
      exact Ev.step (f := fun _ => some false) (fun k => by
        rw [haymowlaw04_light.l0, if_pos (by simp; omega), if_pos (by omega), e, e2, if_pos (by omega)]) (Ev.now _)
theorem light_f (p : List Fn) : ∃ k, haymowlaw04_light.f k (p.map RT.toP) = some (lightB p) := by
  unfold lightB haymowlaw04_light.f
  by_cases h : p.length ≤ 20
  · obtain ⟨k, hk⟩ := light_go p h _ 0 rfl (Nat.zero_le _)
    refine ⟨k, ?_⟩
    rw [if_neg (by simp; omega), decide_eq_true h, Bool.true_and]
    exact hk k (Nat.le_refl _)
  · exact ⟨0, by rw [if_pos (by simp; omega), decide_eq_false h, Bool.false_and]⟩
theorem light_any (p : List Fn) (A : Option Addr) (c : Nat) (w : World) (hC : Kd.C k39 w A p.length (p.map RT.toP)) (hc : p.length ≤ c) :
    Calls Tryz.prog 6 #[.slice A p.length c] w fun e w' => e = .returned (.bool (lightB p)) ∧ Below w.heap.size w w' := by
  obtain ⟨k, hk⟩ := light_f p
  have h := haymowlaw04_light.calls k A c (p.map RT.toP) (lightB p) w (by rw [List.length_map]; exact hC) (by rw [List.length_map]; exact hc) hk
  rw [List.length_map] at h
  refine h.mono ?_
  rintro e w' ⟨he, hd⟩
  obtain ⟨nd, rfl⟩ := hd
  exact ⟨he, pw_below_drewN (Below.refl _ _) nd⟩
theorem light_parts {p : List Fn} (h : lightB p = true) : p.length ≤ 20 ∧ ∀ f ∈ p, f.2.length ≤ 70 := by
  unfold lightB at h
  simp only [Bool.and_eq_true, decide_eq_true_eq, List.all_eq_true] at h
  exact h
theorem of_f2 (p : List Fn) (h1 : p.length ≤ 900) (h2 : ∀ f ∈ p, f.2.length ≤ 1000) : ∃ k, haymowlaw04_of.f k (p.map RT.toP) = some (p.map toP) := by
  have h := of_go (p.map RT.toP) (by rw [List.length_map]; exact h1) (fun x hx => by
    obtain ⟨f, hf, rfl⟩ := List.mem_map.1 hx
    have := h2 f hf
    simp [RT.toP]
    omega) _ 0 rfl (Nat.zero_le _)
  obtain ⟨k, hk⟩ := h
  refine ⟨k, ?_⟩
  have e : ((p.map RT.toP).map fun x => (⟨x.f0, x.f1.map fun i => ⟨i.f0, i.f1, i.f2, i.f3, i.f4⟩⟩ : S49)) = p.map toP := by
    rw [List.map_map]
    refine List.map_congr_left fun f _ => ?_
    simp [RT.toP, toP, RT.toI, toI, Function.comp_def]
  rw [e] at hk
  exact hk k (Nat.le_refl _)
theorem of_any (p : List Fn) (h : lightB p = true) (A : Option Addr) (c : Nat) (w : World) (hC : Kd.C k39 w A p.length (p.map RT.toP)) (hc : p.length ≤ c) :
    Calls Tryz.prog 8 #[.slice A p.length c] w fun e w' => ∃ A2 c2, e = .returned (.slice A2 p.length c2) ∧ p.length ≤ c2 ∧ Kd.C k49 w' A2 p.length (p.map toP) ∧ Below w.heap.size w w' := by
  obtain ⟨l1, l2⟩ := light_parts h
  obtain ⟨k, hk⟩ := of_f2 p (by omega) (fun f hf => by have := l2 f hf; omega)
  have h := haymowlaw04_of.calls k A c (p.map RT.toP) (p.map toP) w (by rw [List.length_map]; exact hC) (by rw [List.length_map]; exact hc) hk
  rw [List.length_map] at h
  refine h.mono ?_
  rintro _ w1 ⟨v1, rfl, hS1, hb1⟩
  obtain ⟨A2, c2, rfl, hc2, hC2⟩ := S_C hS1
  rw [List.length_map] at hc2 hC2 ⊢
  exact ⟨A2, c2, rfl, hc2, hC2, hb1⟩
end Go.Proofs.YtcchoeomeklgmaaGreatDoor.Core
