/- A program that may run can be told: plain facts. Printed by gen_a2.py. -/
import Derived.Test.YtcchoeomeklgmaaGreatDoorR4
namespace Go.Proofs.YtcchoeomeklgmaaGreatDoor.Core
open Go.RowKit Go.Shelf Go.Proofs.YtcchoeomeklgmaaGreatDoorW.PrintWords Go.Proofs.YtcchoeomeklgmaaGreatDoorW.PrintMore Go.Proofs.YtcchoeomeklgmaaGreatDoor.P1 Go.Proofs.YtcchoeomeklgmaaGreatDoor
open Go.Proofs.YtcchoeomeklgmaaGreatDoor.PAsmPrints (S56 k56 z56 S49 k49 z49 at_T49 at_T56 rd_T49 rd_T56 S59 k59 z59 S39 k39 z39 at_T39 at_T59 rd_T39 rd_T59)
set_option linter.unusedVariables false
set_option linter.unusedSimpArgs false
def mkP (p : Int) : UInt8 := if p = 0 then 45 else if p = 1 then 114 else if p = 2 then 104 else if p = 3 then 102 else 61
theorem marks_shape (o : Int) (h1 : 1 ≤ o) (h2 : o ≤ 17) : marksL o = [mkP (shapeV o).1, mkP (shapeV o).2.1, mkP (shapeV o).2.2.1, mkP (shapeV o).2.2.2.1] := by
  have h3 : ∀ j : Fin 18, 1 ≤ j.val → marksL (j.val : Int) = [mkP (shapeV j.val).1, mkP (shapeV j.val).2.1, mkP (shapeV j.val).2.2.1, mkP (shapeV j.val).2.2.2.1] := by decide +kernel
  have := h3 ⟨o.toNat, by omega⟩ (by show 1 ≤ o.toNat; omega)
  rwa [show ((o.toNat : Nat) : Int) = o by omega] at this
theorem shape_in (o : Int) (h : (shapeV o).2.2.2.2 = true) : 1 ≤ o ∧ o ≤ 17 := by
  by_cases h1 : 1 ≤ o ∧ o ≤ 17
  · exact h1
  · rw [shape_no o (by omega)] at h
    cases h
theorem field_ok {np cl : Nat} (hn : np ≤ 16) (hc : cl ≤ 64) {v p : Int} (hp : p = 0 ∨ p = 1 ∨ p = 2 ∨ p = 3 ∨ p = 6 ∨ p = 4 ∨ p = 5) (h1 : zeroB p v = true) (h2 : fieldB np cl v p = true) : fieldOk (mkP p) v := by
  rcases hp with rfl | rfl | rfl | rfl | rfl | rfl | rfl
  · have h : v = 0 := by simpa [zeroB] using h1
    show (if (45 : UInt8) = 45 then v = 0 else _)
    rw [if_pos rfl]
    exact h
  · have h : 0 ≤ v ∧ v < 8 := by simpa [fieldB] using h2
    show (if (114 : UInt8) = 45 then _ else if (114 : UInt8) = 61 then _ else (0 ≤ v ∧ v ≤ 255))
    rw [if_neg (by decide), if_neg (by decide)]
    omega
  · have h : 0 ≤ v ∧ v < 4 := by simpa [fieldB] using h2
    show (if (104 : UInt8) = 45 then _ else if (104 : UInt8) = 61 then _ else (0 ≤ v ∧ v ≤ 255))
    rw [if_neg (by decide), if_neg (by decide)]
    omega
  · have h : 0 ≤ v ∧ v < (np : Int) := by simpa [fieldB] using h2
    show (if (102 : UInt8) = 45 then _ else if (102 : UInt8) = 61 then _ else (0 ≤ v ∧ v ≤ 255))
    rw [if_neg (by decide), if_neg (by decide)]
    omega
  · have h : 16 ≤ v ∧ v < 2147483648 := by simpa [fieldB] using h2
    show (if (61 : UInt8) = 45 then _ else if (61 : UInt8) = 61 then (-2147483648 ≤ v ∧ v ≤ 2147483647) else _)
    rw [if_neg (by decide), if_pos rfl]
    omega
  · have h : -2147483648 ≤ v ∧ v < 2147483648 := by simpa [fieldB] using h2
    show (if (61 : UInt8) = 45 then _ else if (61 : UInt8) = 61 then (-2147483648 ≤ v ∧ v ≤ 2147483647) else _)
    rw [if_neg (by decide), if_pos rfl]
    omega
  · have h : 0 ≤ v ∧ v < (cl : Int) := by simpa [fieldB] using h2
    show (if (61 : UInt8) = 45 then _ else if (61 : UInt8) = 61 then (-2147483648 ≤ v ∧ v ≤ 2147483647) else _)
    rw [if_neg (by decide), if_pos rfl]
    omega
theorem instr_good (np cl : Nat) (hn : np ≤ 16) (hc : cl ≤ 64) (ar : Int → Int) (o a1 a2 a3 a4 : Int) (h : instrB np cl ar o a1 a2 a3 a4 = true) : GoodI (o, [a1, a2, a3, a4]) := by
  unfold instrB at h
  simp only [Bool.and_eq_true] at h
  obtain ⟨⟨⟨h0, z1, z2, z3, z4⟩, f1, f2, f3, f4⟩, _⟩ := h
  obtain ⟨h1, h2⟩ := shape_in o h0
  have hp := shape_is o
  refine ⟨h1, h2, ?_⟩
  show fieldsOk (marksL o) [a1, a2, a3, a4]
  rw [marks_shape o h1 h2]
  exact ⟨field_ok hn hc (hp _ (by simp)) z1 f1, field_ok hn hc (hp _ (by simp)) z2 f2, field_ok hn hc (hp _ (by simp)) z3 f3, field_ok hn hc (hp _ (by simp)) z4 f4, trivial⟩
/-- Each instruction has four fields. -/
def Four (p : List Fn) : Prop := ∀ f ∈ p, ∀ i ∈ f.2, i.2.length = 4
theorem four_is (i : Int × List Int) (h : i.2.length = 4) : (i.1, [i.2.getD 0 0, i.2.getD 1 0, i.2.getD 2 0, i.2.getD 3 0]) = i := by
  obtain ⟨o, vs⟩ := i
  match vs, h with
  | [a, b, c, d], _ => rfl
theorem valid_parts {p : List Fn} (h : validB p = true) : (1 ≤ p.length ∧ p.length ≤ 16) ∧ ∀ f ∈ p, (0 ≤ f.1 ∧ f.1 ≤ 4) ∧ (1 ≤ f.2.length ∧ f.2.length ≤ 64) ∧ ∀ i ∈ f.2, instrOk p f i = true := by
  unfold validB at h
  simp only [Bool.and_eq_true, decide_eq_true_eq, List.all_eq_true] at h
  refine ⟨h.1, fun f hf => ?_⟩
  have h2 := h.2 f hf
  unfold funcOk at h2
  simp only [Bool.and_eq_true, decide_eq_true_eq, List.all_eq_true] at h2
  exact ⟨h2.1.1.1, h2.1.1.2, h2.1.2⟩
theorem valid_told {p : List Fn} (h : validB p = true) (h4 : Four p) : Told p := by
  obtain ⟨h1, h2⟩ := valid_parts h
  refine ⟨by omega, fun q hq => ?_⟩
  have e : p.getD q (0, []) = p[q] := by rw [List.getD, List.getElem?_eq_getElem hq]; rfl
  rw [e]
  obtain ⟨a, b, c⟩ := h2 p[q] (List.getElem_mem hq)
  refine ⟨by omega, by omega, fun r hr => ?_⟩
  have e2 : p[q].2.getD r (0, []) = p[q].2[r] := by rw [List.getD, List.getElem?_eq_getElem hr]; rfl
  rw [e2]
  have hi := c _ (List.getElem_mem hr)
  have hg := instr_good p.length p[q].2.length h1.2 b.2 (arOf p) _ _ _ _ _ hi
  rwa [four_is _ (h4 _ (List.getElem_mem hq) _ (List.getElem_mem hr))] at hg
theorem told_good {p : List Fn} (h : Told p) : GoodP p := by
  refine ⟨by have := h.1; omega, fun f hf => ?_⟩
  obtain ⟨q, hq, rfl⟩ := List.mem_iff_getElem.1 hf
  have e : p.getD q (0, []) = p[q] := by rw [List.getD, List.getElem?_eq_getElem hq]; rfl
  have h2 := h.2 q hq
  rw [e] at h2
  refine ⟨h2.1, by omega, fun i hi => ?_⟩
  obtain ⟨r, hr, rfl⟩ := List.mem_iff_getElem.1 hi
  have e2 : p[q].2.getD r (0, []) = p[q].2[r] := by rw [List.getD, List.getElem?_eq_getElem hr]; rfl
  have := h2.2.2 r hr
  rwa [e2] at this
theorem told_few {p : List Fn} (h : Told p) : Few p := by
  have hg := told_good h
  exact ⟨hg.1, fun f hf => ⟨(hg.2 f hf).2.1, (hg.2 f hf).1⟩⟩
end Go.Proofs.YtcchoeomeklgmaaGreatDoor.Core
