/- audit.name: a task's name. -/
import Derived.Test.YtceankldidkohaaDoorPAuditTwicex0
import Derived.Test.YtceankldidkohaaDoorShelf
import Derived.Lib.AppendIntMem
import Derived.Lib.ItoaLen
import Derived.Lib.SmallJoins
import Derived.Lib.Hide
namespace Go.Proofs.YtceankldidkohaaDoor.Core
open Go.RowKit Go.Proofs.YtceankldidkohaaDoorW.PrintWords Go.Proofs.YtceankldidkohaaDoorW.PrintMore Go.Proofs.YtceankldidkohaaDoor.PAuditTwice
set_option linter.unusedVariables false
set_option linter.unusedSimpArgs false
/-- Go's table of powers of ten is as it is laid, in whatever world comes later. -/
def Tab (w : World) : Prop := Lib.TabBelow Tryd.prog w.heap.size w "internal/strconv.uint64pow10" .u64 Lib.pow10Tab
def In64 (n : Int) : Prop := -9223372036854775808 ≤ n ∧ n ≤ 9223372036854775807
theorem Itoa_any {w0 W : World} (T : Tab w0) (hW : Below w0.heap.size w0 W) (n : Int) (hn : In64 n) :
    Calls Tryd.prog 33 #[.int .i64 n] W fun e W' => e = .returned (.string ⟨(Lib.itoa n).toArray⟩) ∧ Below W.heap.size W W' := by
  refine (Tryd.strconv_Itoa n hn.1 hn.2 W (T W hW)).mono ?_
  rintro e W' ⟨rfl, k, os, rfl⟩
  exact ⟨rfl, Lib.below_grow _ _ (Nat.le_refl _) _ _⟩
/-- A task's name. -/
def nm (job : Int) (p : List Int) : List UInt8 := Lib.itoa job ++ p.flatMap fun x => 46 :: Lib.itoa x
theorem nm_len {job : Int} (hj : In64 job) : ∀ {p : List Int}, (∀ x ∈ p, In64 x) → (nm job p).length ≤ 21 + 22 * p.length := by
  intro p
  have hjl := Lib.itoa_length_le job hj.1 hj.2
  have H : ∀ p : List Int, (∀ x ∈ p, In64 x) → (p.flatMap fun x => 46 :: Lib.itoa x).length ≤ 22 * p.length := by
    intro p
    induction p with
    | nil => intro _; simp
    | cons x p ih =>
      intro h
      have := ih (fun y hy => h y (by simp [hy]))
      have hx := Lib.itoa_length_le x (h x (by simp)).1 (h x (by simp)).2
      simp only [List.flatMap_cons, List.length_append, List.length_cons]
      omega
  intro h
  have := H p h
  unfold nm
  rw [List.length_append]
  omega
set_option maxHeartbeats 2000000 in
set_option maxRecDepth 100000 in
theorem name_any {w0 W : World} (T : Tab w0) (hW : Below w0.heap.size w0 W) (job : Int) (hj : In64 job) (p : List Int) (hp : ∀ x ∈ p, In64 x) (hn : p.length ≤ 1000) (A : Option Addr) (c : Nat) (hC : (Kd.int .i64).C W A p.length p) :
    Calls Tryd.prog 22 #[.int .i64 job, .slice A p.length c] W fun e W' => e = .returned (.string ⟨(nm job p).toArray⟩) ∧ Below W.heap.size W W' := by
  have HC := Lib.hid hC
  have HP := Lib.hid hp
  have HW := Lib.hid hW
  have HT := Lib.hid T
  obtain ⟨n, hnn⟩ : ∃ n, n = p.length := ⟨_, rfl⟩
  have HN := Lib.hid hnn
  rw [← hnn] at hn ⊢
  have HI := Lib.hid (Itoa_any T hW job hj)
  have HJ := Lib.hid hj
  have hz := hW.size
  clear hC hp hW T hnn hj
  go_enter Tryd.func22, Tryd.ntmps22
  go_wp2_with fail
  refine HI.out.mono ?_
  rintro e w1 ⟨rfl, hb1⟩
  have HB1 := Lib.hid hb1
  have HC1 := Lib.hid (Kd.C_below HC.out hb1)
  have HW1 : Hid (Below w0.heap.size w0 w1) := HW.out.trans (hb1.mono hz)
  have hz1 := hb1.size
  clear hb1 HI
  go_wp2_with fail
  go_loopg [5, 12] n (fun k v5 v12 X => ∃ j : Nat, j + k = n ∧ v12 = .int .i64 j ∧ v5 = .string ⟨(nm job (p.take j)).toArray⟩ ∧ Hid (Below w1.heap.size w1 X))
  case atStart => exact ⟨0, by omega, rfl, by simp [nm], Below.refl _ _⟩
  case round =>
    obtain ⟨j, hjk, rfl, rfl, hB⟩ := hrel
    have HK := Lib.hid hjk
    clear hjk
    by_cases hlt : j < n
    · have hl : j < p.length := by have := HN.out; omega
      obtain ⟨ad, hA, hcell⟩ := (Kd.reads_of_C (enc := Value.int .i64) (d := (0 : Int)) (h1 := fun _ => rfl) (Kd.C_below HC1.out hB.out)).2.2 (by omega)
      have hc := hcell j hl
      subst hA
      have hx : p.getD j 0 ∈ p := by simp [List.getD, List.getElem?_eq_getElem hl]
      have htk : nm job (p.take (j + 1)) = nm job (p.take j) ++ 46 :: Lib.itoa (p.getD j 0) := by
        unfold nm
        rw [List.take_succ_eq_append_getElem hl, List.flatMap_append]
        simp [List.getD, List.getElem?_eq_getElem hl]
      generalize p.getD j 0 = x at *
      have HI := Lib.hid (Itoa_any HT.out (HW1.out.trans (hB.out.mono HW1.out.size)) x (HP.out x hx))
      have HTK := Lib.hid htk
      have bx := Lib.itoa_length_le x (HP.out x hx).1 (HP.out x hx).2
      have bs : (nm job (p.take j)).length ≤ 100000 := by
        have := nm_len HJ.out (p := p.take j) (fun y hy => HP.out y (List.mem_of_mem_take hy))
        rw [List.length_take] at this
        omega
      have hz2 := hB.out.size
      clear hcell hx htk
      obtain ⟨sj, hsj⟩ : ∃ s, s = nm job (p.take j) := ⟨_, rfl⟩
      have HSJ := Lib.hid hsj
      rw [← hsj] at bs ⊢
      clear hsj
      go_wp2_with fail
      refine HI.out.mono ?_
      rintro e w2 ⟨rfl, hb2⟩
      have HB2 : Hid (Below w1.heap.size w1 w2) := hB.out.trans (hb2.mono hz2)
      clear hb2 HI hB hc
      go_wp2_with fail
      go_roundg (n - (j + 1))
      case measure => have := HK.out; omega
      case rel =>
        refine ⟨j + 1, by omega, by go_num, ?_, HB2⟩
        rw [HTK.out, ← HSJ.out]
        congr 1
    · obtain rfl : j = n := by have := HK.out; omega
      have hpt : p.take j = p := by rw [HN.out, List.take_length]
      have HPT := Lib.hid hpt
      have HBZ : Hid (Below W.heap.size W wr) := HB1.out.trans (hB.out.mono hz1)
      clear hpt
      go_wp2_with fail
      go_ret
      refine ⟨?_, HBZ.out⟩
      show Ending.returned (.string ⟨(nm job (p.take j)).toArray⟩) = _
      rw [HPT.out]
end Go.Proofs.YtceankldidkohaaDoor.Core
