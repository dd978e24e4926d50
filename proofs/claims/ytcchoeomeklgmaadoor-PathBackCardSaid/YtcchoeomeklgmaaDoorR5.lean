/- The document's Read comes to the same. -/
import Derived.Test.YtcchoeomeklgmaaDoorR4
import Derived.Test.YtcchoeomeklgmaaDoorP1
namespace Go.Proofs.YtcchoeomeklgmaaDoor.Core
open Go.RowKit Go.Shelf Go.Proofs.YtcchoeomeklgmaaDoorW.PrintWords Go.Proofs.YtcchoeomeklgmaaDoorW.PrintMore Go.Proofs.YtcchoeomeklgmaaDoor.P1 Go.Proofs.YtcchoeomeklgmaaDoor
set_option linter.unusedVariables false
set_option linter.unusedSimpArgs false
abbrev bx (l : List UInt8) : ByteArray := ⟨l.toArray⟩
theorem bx_size (l : List UInt8) : (bx l).size = l.length := by simp [bx, ByteArray.size]
theorem bt_bx (l : List UInt8) (p : Nat) (h : p < l.length) : bt (bx l) (p : Int) = ((l[p]'h).toNat : Int) := by
  unfold bt
  have h2 : (p : Int).toNat < (bx l).size := by rw [bx_size]; simpa using h
  rw [dif_pos h2]
  simp [bx, ByteArray.getElem_eq_getElem_data]
theorem ext_bx (l : List UInt8) (i j : Nat) (hj : j ≤ l.length) : (bx l).extract i j = bx ((l.drop i).take (j - i)) := by
  apply ByteArray.ext
  apply Array.ext'
  simp [ByteArray.extract, ByteArray.copySlice, bx]
theorem wr {n : Int} (h0 : -1000000000 ≤ n) (h1 : n ≤ 1000000000) : wrap64 n = n := by unfold wrap64; omega
theorem drop_at {α : Type} {l r : List α} {p : Nat} {b : α} (h : l.drop p = b :: r) : ∃ hl : p < l.length, l[p] = b ∧ l.drop (p + 1) = r := by
  have hl : p < l.length := by
    have := congrArg List.length h
    simp only [List.length_drop, List.length_cons] at this
    omega
  refine ⟨hl, ?_, ?_⟩
  · rw [List.drop_eq_getElem_cons hl] at h
    injection h
  · rw [List.drop_eq_getElem_cons hl] at h
    injection h
theorem drop_end {α : Type} {l : List α} {p : Nat} (h : l.drop p = []) : l.length ≤ p := by
  have := congrArg List.length h
  simp only [List.length_drop, List.length_nil] at this
  omega
theorem val_le : ∀ (l : List UInt8) (acc : Nat), l.all isDig = true → val acc l < (acc + 1) * 10 ^ l.length
  | [], acc, _ => by simp [val]
  | b :: r, acc, h => by
    rw [List.all_cons, Bool.and_eq_true] at h
    have h1 := h.1
    unfold isDig at h1
    rw [Bool.and_eq_true, decide_eq_true_eq, decide_eq_true_eq] at h1
    have ih := val_le r (acc * 10 + (b.toNat - 48)) h.2
    show val (acc * 10 + (b.toNat - 48)) r < _
    rw [List.length_cons, Nat.pow_succ]
    refine Nat.lt_of_lt_of_le ih ?_
    have : acc * 10 + (b.toNat - 48) + 1 ≤ (acc + 1) * 10 := by omega
    calc _ ≤ ((acc + 1) * 10) * 10 ^ r.length := Nat.mul_le_mul_right _ this
      _ = _ := by rw [Nat.mul_assoc, Nat.mul_comm 10]
end Go.Proofs.YtcchoeomeklgmaaDoor.Core
