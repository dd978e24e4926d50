/- path.plain, strings.SplitSeq; the number that plain digits tell. -/
import Derived.Test.YtcchoeomeklgmaaDoorR1
import Derived.Shelf.Strings.SlTrimAscii
namespace Go.Proofs.YtcchoeomeklgmaaDoor.Core
open Go.RowKit Go.Shelf Go.Proofs.YtcchoeomeklgmaaDoorW.PrintWords Go.Proofs.YtcchoeomeklgmaaDoor.Rf Go.Proofs.YtcchoeomeklgmaaDoor
set_option linter.unusedVariables false
set_option linter.unusedSimpArgs false
def isDig (b : UInt8) : Bool := decide (48 ≤ b.toNat) && decide (b.toNat ≤ 57)
def digs : List UInt8 := [48, 49, 50, 51, 52, 53, 54, 55, 56, 57]
theorem digs_contains (b : UInt8) : digs.contains b = isDig b := by
  have h : ∀ n : Fin 256, digs.contains (UInt8.ofNat n.val) = isDig (UInt8.ofNat n.val) := by decide +kernel
  have := h ⟨b.toNat, b.toNat_lt⟩
  simpa using this
theorem dropWhile_nil {p : UInt8 → Bool} {l : List UInt8} : l.dropWhile p = [] ↔ ∀ x ∈ l, p x = true := by
  induction l with
  | nil => simp
  | cons a l ih =>
    rw [List.dropWhile_cons]
    split
    · rename_i h; rw [ih]; simp [h]
    · rename_i h; simp [h]
theorem trim_nil (l : List UInt8) : Lib.trimS l digs = [] ↔ l.all isDig = true := by
  unfold Lib.trimS Lib.trimLeftS Lib.trimRightS
  rw [dropWhile_nil, List.all_eq_true]
  simp only [digs_contains]
  constructor
  · intro h x hx
    by_cases hall : ∀ y ∈ l, isDig y = true
    · exact hall x hx
    · exfalso
      have hne : l.reverse.dropWhile isDig ≠ [] := fun he => hall fun y hy => dropWhile_nil.1 he y (by simpa using hy)
      have hh := List.head_dropWhile_not (p := isDig) (l := l.reverse) hne
      have hm : (l.reverse.dropWhile isDig).head hne ∈ (l.reverse.dropWhile isDig).reverse := by simp
      rw [h _ hm] at hh
      cases hh
  · intro h x hx
    rw [List.mem_reverse] at hx
    exact h x (by have := (List.dropWhile_sublist isDig).mem hx; simpa using this)
/-- Plain digits, at most m of them, no 0 ahead. -/
def plainB (m : Nat) (l : List UInt8) : Bool := !l.isEmpty && decide (l.length ≤ m) && l.all isDig && (decide (l = [48]) || decide (l.head? ≠ some 48))
theorem trim_any (t : List UInt8) (ht : t.length ≤ 10000000) (w : World) : Calls Tryd.prog 32 #[.string ⟨t.toArray⟩, .string ⟨#[48, 49, 50, 51, 52, 53, 54, 55, 56, 57]⟩] w fun e w' => e = .returned (.string ⟨(Lib.trimS t digs).toArray⟩) ∧ Below w.heap.size w w' := by
  have h := Any.strings_Trim_laid Tryd.lays160 (by kernel_rfl) ⟨t.toArray⟩ ⟨#[48, 49, 50, 51, 52, 53, 54, 55, 56, 57]⟩ w (by simp [ByteArray.size]; omega) (by decide) (ascii_of_all (by decide))
  exact h
theorem str_eq_nil (l : List UInt8) : ((⟨l.toArray⟩ : ByteArray) = ⟨#[]⟩) ↔ l = [] := by
  constructor
  · intro h
    injection h with h
    simpa using congrArg Array.toList h
  · rintro rfl; rfl
theorem plainB_ok (a : UInt8) (r : List UInt8) (h : Lib.trimS (a :: r) digs = []) (h6 : r.length ≤ 5) : plainB 6 (a :: r) = (decide ((a :: r) = [48]) || decide (a ≠ 48)) := by
  have h1 := (trim_nil (a :: r)).1 h
  unfold plainB
  rw [h1]
  have h2 : decide ((a :: r).length ≤ 6) = true := decide_eq_true (by rw [List.length_cons]; omega)
  rw [h2]
  simp
theorem plainB_no (a : UInt8) (r : List UInt8) (h : ¬ Lib.trimS (a :: r) digs = []) : plainB 6 (a :: r) = false := by
  have h1 : (a :: r).all isDig = false := by
    cases e : (a :: r).all isDig
    · rfl
    · exact absurd ((trim_nil (a :: r)).2 e) h
  unfold plainB
  rw [h1]
  simp
theorem plainB_long (a : UInt8) (r : List UInt8) (h : ¬ r.length ≤ 5) : plainB 6 (a :: r) = false := by
  have h2 : decide ((a :: r).length ≤ 6) = false := decide_eq_false (by rw [List.length_cons]; omega)
  unfold plainB
  rw [h2]
  simp
theorem u8_ne (a : UInt8) : (((a.toNat : Int)) != 48) = decide (a ≠ 48) := by
  have h : ∀ n : Fin 256, ((((UInt8.ofNat n.val).toNat : Int)) != 48) = decide ((UInt8.ofNat n.val) ≠ 48) := by decide +kernel
  have := h ⟨a.toNat, a.toNat_lt⟩
  simpa using this
set_option maxHeartbeats 2000000 in
theorem plain_any (t : List UInt8) (w : World) : Calls Tryd.prog 20 #[.string ⟨t.toArray⟩] w fun e w' => e = .returned (.bool (plainB 6 t)) ∧ Below w.heap.size w w' := by
  cases t with
  | nil =>
    go_enter Tryd.func20, Tryd.ntmps20
    go_wp2_with fail
    go_ret
    exact ⟨rfl, Below.refl _ _⟩
  | cons a r =>
    by_cases h6 : r.length ≤ 5
    · have HT := Lib.hid (trim_any (a :: r) (by rw [List.length_cons]; omega) w)
      have h6i : (r.length : Int) + 1 ≤ 6 := by omega
      have h6i2 : decide ((r.length : Int) + 1 ≤ 6) = true := decide_eq_true h6i
      go_enter Tryd.func20, Tryd.ntmps20
      go_wp2_with first
        | (refine HT.out.mono ?_
           rintro _ w5 ⟨rfl, hb⟩)
      · rename_i e1 e2
        go_ret
        refine ⟨?_, hb⟩
        rw [plainB_ok a r e1 h6]
        show Ending.returned (Value.bool (a == 48 && r.isEmpty || ((a.toNat : Int) != 48))) = _
        rw [u8_ne]
        congr 2
        by_cases ha : a = 48 <;> cases r <;> simp [ha]
      · go_ret
        exact ⟨rfl, hb⟩
      · exfalso
        simp_all
      · rename_i e1
        go_ret
        rw [plainB_no a r e1]
        refine ⟨?_, hb⟩
        have he : (Lib.trimS (a :: r) digs).isEmpty = false := by
          cases e : Lib.trimS (a :: r) digs
          · exact absurd e e1
          · rfl
        rfl
    · have h6i : ¬ (r.length : Int) + 1 ≤ 6 := by omega
      have h6i2 : decide ((r.length : Int) + 1 ≤ 6) = false := decide_eq_false h6i
      go_enter Tryd.func20, Tryd.ntmps20
      go_wp2_with fail
      go_ret
      rw [plainB_long a r h6]
      exact ⟨rfl, Below.refl _ _⟩
end Go.Proofs.YtcchoeomeklgmaaDoor.Core
