/- The document's reading of an instruction: plain facts. -/
import Derived.Test.YtcchoeomeklgmaaDoorB2
import Derived.Test.YtcchoeomeklgmaaDoorAB
namespace Go.Proofs.YtcchoeomeklgmaaDoor.Core
open Go.RowKit Go.Shelf Go.Proofs.YtcchoeomeklgmaaDoorW.PrintWords Go.Proofs.YtcchoeomeklgmaaDoorW.PrintMore Go.Proofs.YtcchoeomeklgmaaDoor.P2 Go.Proofs.YtcchoeomeklgmaaDoor
open Go.Proofs.YtcchoeomeklgmaaDoor.PAsmParses (S69 k69 z69 S67 k67 z67)
set_option linter.unusedVariables false
set_option linter.unusedSimpArgs false
/-- The document's names: the one of no operation first. -/
def namesR : List (List UInt8) := [] :: namesL
theorem names_f : haymowref02_Names.f = some (wB namesR) := rfl
/-- The last of the names 1 .. n that x is. -/
def opTo (x : List UInt8) : Nat → Nat
  | 0 => 0
  | n + 1 => if namesR.getD (n + 1) [] = x then n + 1 else opTo x n
theorem idx_none (x : ByteArray) : ∀ (zs : List ByteArray) (i : Nat), (∀ z ∈ zs, z ≠ x) → Lib.idxFromS zs x i = -1
  | [], i, _ => rfl
  | z :: zs, i, h => by
    have hz := h z List.mem_cons_self
    unfold Lib.idxFromS
    rw [if_neg (by simpa using hz)]
    exact idx_none x zs (i + 1) (fun y hy => h y (List.mem_cons_of_mem _ hy))
theorem opTo_none (x : List UInt8) (h : ∀ z ∈ namesL, z ≠ x) : ∀ n, n ≤ 17 → opTo x n = 0
  | 0, _ => rfl
  | n + 1, hn => by
    unfold opTo
    rw [if_neg, opTo_none x h n (by omega)]
    have hl : n < namesL.length := by show n < 17; omega
    have e : namesR.getD (n + 1) [] = namesL[n] := by
      unfold namesR
      simp [List.getD, List.getElem?_eq_getElem hl]
    rw [e]
    exact h _ (List.getElem_mem hl)
theorem opTo_named (x : List UInt8) : (opTo x 17 : Int) = namedL x := by
  by_cases hm : x ∈ namesL
  · have h2 : ∀ j : Fin 17, (opTo (namesL[j.val]'(by exact j.isLt)) 17 : Int) = namedL (namesL[j.val]'(by exact j.isLt)) := by decide +kernel
    obtain ⟨j, hj, rfl⟩ := List.mem_iff_getElem.1 hm
    exact h2 ⟨j, hj⟩
  · have h1 : ∀ z ∈ namesL, z ≠ x := fun z hz e => hm (e ▸ hz)
    rw [opTo_none x h1 17 (Nat.le_refl _)]
    unfold namedL Lib.idxOfS
    rw [idx_none]
    · rfl
    · intro z hz e
      obtain ⟨l, hl, rfl⟩ := List.mem_map.1 hz
      exact h1 l hl (by
        have := congrArg (fun b : ByteArray => b.data.toList) e
        simpa using this)
theorem opTo_le (x : List UInt8) : ∀ n, opTo x n ≤ n
  | 0 => Nat.le_refl _
  | n + 1 => by
    unfold opTo
    have := opTo_le x n
    split <;> omega
/-- What an operation's fields are, by the document. -/
def usesL (op : Nat) : List UInt8 := [[], [114, 48, 48, 110], [114, 114, 48, 48], [114, 114, 114, 48], [114, 114, 114, 48], [114, 114, 114, 48], [114, 114, 114, 48], [114, 114, 114, 48], [114, 114, 114, 48], [48, 48, 48, 116], [114, 48, 48, 116], [114, 114, 102, 48], [48, 48, 48, 48], [104, 114, 102, 48], [114, 104, 48, 48], [114, 48, 48, 48], [48, 48, 48, 99], [114, 48, 48, 48]].getD op []
theorem uses_f (op : Nat) (h : op < 18) : haymowref03_Uses.f (op : Int) = some (bx (usesL op)) := by
  have h2 : ∀ j : Fin 18, haymowref03_Uses.f ((j.val : Nat) : Int) = some (bx (usesL j.val)) := by
    intro ⟨j, hj⟩
    rcases j with _ | _ | _ | _ | _ | _ | _ | _ | _ | _ | _ | _ | _ | _ | _ | _ | _ | _ | j
    all_goals first | rfl | omega
  exact h2 ⟨op, h⟩
/-- A field's sign, by the document and by the program. -/
def signOk (u m : UInt8) : Bool := (u == 48 && m == 45) || ((u == 114 || u == 104 || u == 102) && m == u) || (u != 48 && u != 114 && u != 104 && u != 102 && m == 61)
theorem uses_marks (op : Nat) (h1 : 1 ≤ op) (h2 : op < 18) : (usesL op).length = 4 ∧ ∀ j, j < 4 → signOk ((usesL op).getD j 0) ((marksL (op : Int)).getD j 0) = true := by
  have h3 : ∀ o : Fin 18, 1 ≤ o.val → (usesL o.val).length = 4 ∧ ∀ j : Fin 4, signOk ((usesL o.val).getD j.val 0) ((marksL ((o.val : Nat) : Int)).getD j.val 0) = true := by decide +kernel
  obtain ⟨a, b⟩ := h3 ⟨op, h2⟩ h1
  exact ⟨a, fun j hj => b ⟨j, hj⟩⟩
theorem rnames_any (w : World) : Calls Tryd.prog 40 #[] w fun e w' => ∃ v : Value, e = .returned v ∧ Kd.R Kd.string 9 w' w.heap.size (fun _ => True) v (wB namesR) ∧ Below w.heap.size w w' := haymowref02_Names.calls _ w names_f
theorem ruses_any (op : Nat) (h : op < 18) (w : World) : Calls Tryd.prog 41 #[.int .i64 (op : Int)] w fun e w' => e = .returned (.string (bx (usesL op))) ∧ Below w.heap.size w w' := haymowref03_Uses.calls _ _ w (uses_f op h)
end Go.Proofs.YtcchoeomeklgmaaDoor.Core
