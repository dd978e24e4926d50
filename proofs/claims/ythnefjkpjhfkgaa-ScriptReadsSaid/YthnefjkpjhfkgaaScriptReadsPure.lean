/- The plain law of haymowlaw18.ScriptReads: the document's Read reads off what the reader reads off. -/
import Derived.Test.YthnefjkpjhfkgaaC15
import Derived.Test.YthnefjkpjhfkgaaC16
import Derived.Test.YthnefjkpjhfkgaaPScriptReadsx2
namespace Go.Proofs.Ythnefjkpjhfkgaa.RScriptReads
open Go.RowKit Go.Proofs.YthnefjkpjhfkgaaW.PrintWords Go.Proofs.YthnefjkpjhfkgaaW.PrintMore Go.Proofs.Ythnefjkpjhfkgaa.PScriptReads Go.Proofs.Ythnefjkpjhfkgaa.Core
set_option linter.unusedVariables false
set_option linter.unusedSimpArgs false
def cv33 (x : PScriptWrites.S47) : S33 := ⟨x.f0, x.f1, x.f2, x.f3, x.f4, x.f5⟩
theorem rd_drop {b t : List Int} {p : Nat} {y : Int} (h : b.drop p = y :: t) : rd b (p : Int) = y ∧ p < b.length ∧ b.drop (p + 1) = t := by
  have hl : p < b.length := by
    have := congrArg List.length h
    simp only [List.length_drop, List.length_cons] at this
    omega
  refine ⟨?_, hl, ?_⟩
  · have := congrArg (fun l => l[0]?) h
    simp only [List.getElem?_drop, Nat.add_zero, List.getElem?_cons_zero] at this
    simp [rd, List.getD, this]
  · have := congrArg (List.drop 1) h
    rw [List.drop_drop] at this
    simpa using this
theorem wr {n : Int} (h0 : -1000000000 ≤ n) (h1 : n ≤ 1000000000) : wrap64 n = n := by unfold wrap64; omega
theorem t1 {b : List Int} (hb : b.length ≤ 3000) {p : Nat} {acc : List S33} (hacc : acc.length ≤ 3000) {x y : Int} (r0 : rd b p = 1) (r1 : rd b (p + 1) = x) (r2 : rd b (p + 1 + 1) = y) (hl : p + 3 ≤ b.length) (hx : 0 ≤ x ∧ x < 256) (hy : 0 ≤ y ∧ y < 256) (k : Nat) :
    haymowref18_Read.l0 (k + 1) b acc p = haymowref18_Read.l0 k b (acc ++ [⟨1, x, y, 0, [], []⟩]) (p + 1 + 2) := by
  rw [haymowref18_Read.l0.eq_2]
  simp (disch := ((try simp (disch := omega) only [wr, r0, r1, r2]); omega)) only [↓if_pos, ↓if_neg]
  try simp (disch := omega) only [wr, r0, r1, r2, if_true, if_false]
theorem t1e {b : List Int} (hb : b.length ≤ 3000) {p : Nat} {acc : List S33} (hacc : acc.length ≤ 3000) (r0 : rd b p = 1) (hp : p < b.length) (hl : b.length < p + 3) (k : Nat) :
    haymowref18_Read.l0 (k + 1) b acc p = some ([], 2) := by
  rw [haymowref18_Read.l0.eq_2]
  simp (disch := ((try simp (disch := omega) only [wr, r0]); omega)) only [↓if_pos, ↓if_neg]
  try simp (disch := omega) only [wr, r0, if_true, if_false]
theorem t3 {b : List Int} (hb : b.length ≤ 3000) {p : Nat} {acc : List S33} (hacc : acc.length ≤ 3000) {x : Int} (r0 : rd b p = 3) (r1 : rd b (p + 1) = x) (hl : p + 2 ≤ b.length) (hx : 0 ≤ x ∧ x < 256) (k : Nat) :
    haymowref18_Read.l0 (k + 2) b acc p = haymowref18_Read.l0 k b (acc ++ [⟨3, 0, 0, x, [], []⟩]) (p + 1 + 1) := by
  rw [haymowref18_Read.l0.eq_2]
  simp (disch := ((try simp (disch := omega) only [wr, r0, r1]); omega)) only [↓if_pos, ↓if_neg]
  try simp (disch := omega) only [wr, r0, r1, if_true, if_false]
  rw [haymowref18_Read.j3.eq_2]
  simp (disch := ((try simp (disch := omega) only [wr, r0, r1, beq_iff_eq, beq_self_eq_true]); omega)) only [↓if_pos, ↓if_neg]
  try simp (disch := omega) only [wr, r0, r1, beq_iff_eq, beq_self_eq_true, if_true, if_false]
theorem t3e {b : List Int} (hb : b.length ≤ 3000) {p : Nat} {acc : List S33} (hacc : acc.length ≤ 3000) (r0 : rd b p = 3) (hp : p < b.length) (hl : b.length < p + 2) (k : Nat) :
    haymowref18_Read.l0 (k + 2) b acc p = some ([], 2) := by
  rw [haymowref18_Read.l0.eq_2]
  simp (disch := ((try simp (disch := omega) only [wr, r0]); omega)) only [↓if_pos, ↓if_neg]
  try simp (disch := omega) only [wr, r0, if_true, if_false]
  rw [haymowref18_Read.j3.eq_2]
  simp (disch := ((try simp (disch := omega) only [wr, r0, beq_iff_eq, beq_self_eq_true]); omega)) only [↓if_pos, ↓if_neg]
  try simp (disch := omega) only [wr, r0, beq_iff_eq, beq_self_eq_true, if_true, if_false]
theorem t4 {b : List Int} (hb : b.length ≤ 3000) {p : Nat} {acc : List S33} (hacc : acc.length ≤ 3000) {x : Int} (r0 : rd b p = 4) (r1 : rd b (p + 1) = x) (hl : p + 2 ≤ b.length) (hx : 0 ≤ x ∧ x < 256) (k : Nat) :
    haymowref18_Read.l0 (k + 2) b acc p = haymowref18_Read.l0 k b (acc ++ [⟨4, 0, 0, x, [], []⟩]) (p + 1 + 1) := by
  rw [haymowref18_Read.l0.eq_2]
  simp (disch := ((try simp (disch := omega) only [wr, r0, r1]); omega)) only [↓if_pos, ↓if_neg]
  try simp (disch := omega) only [wr, r0, r1, if_true, if_false]
  rw [haymowref18_Read.j3.eq_2]
  simp (disch := ((try simp (disch := omega) only [wr, r0, r1, beq_iff_eq, beq_self_eq_true]); omega)) only [↓if_pos, ↓if_neg]
  try simp (disch := omega) only [wr, r0, r1, beq_iff_eq, beq_self_eq_true, if_true, if_false]
theorem t4e {b : List Int} (hb : b.length ≤ 3000) {p : Nat} {acc : List S33} (hacc : acc.length ≤ 3000) (r0 : rd b p = 4) (hp : p < b.length) (hl : b.length < p + 2) (k : Nat) :
    haymowref18_Read.l0 (k + 2) b acc p = some ([], 2) := by
  rw [haymowref18_Read.l0.eq_2]
  simp (disch := ((try simp (disch := omega) only [wr, r0]); omega)) only [↓if_pos, ↓if_neg]
  try simp (disch := omega) only [wr, r0, if_true, if_false]
  rw [haymowref18_Read.j3.eq_2]
  simp (disch := ((try simp (disch := omega) only [wr, r0, beq_iff_eq, beq_self_eq_true]); omega)) only [↓if_pos, ↓if_neg]
  try simp (disch := omega) only [wr, r0, beq_iff_eq, beq_self_eq_true, if_true, if_false]
theorem t5 {b : List Int} (hb : b.length ≤ 3000) {p : Nat} {acc : List S33} (hacc : acc.length ≤ 3000) (r0 : rd b p = 5) (hl : p + 1 ≤ b.length) (k : Nat) :
    haymowref18_Read.l0 (k + 3) b acc p = haymowref18_Read.l0 k b (acc ++ [⟨5, 0, 0, 0, [], []⟩]) (p + 1) := by
  rw [haymowref18_Read.l0.eq_2]
  simp (disch := ((try simp (disch := omega) only [wr, r0]); omega)) only [↓if_pos, ↓if_neg]
  try simp (disch := omega) only [wr, r0, if_true, if_false]
  rw [haymowref18_Read.j3.eq_2]
  simp (disch := ((try simp (disch := omega) only [wr, r0, beq_iff_eq, beq_self_eq_true]); omega)) only [↓if_pos, ↓if_neg]
  try simp (disch := omega) only [wr, r0, beq_iff_eq, beq_self_eq_true, if_true, if_false]
  rw [haymowref18_Read.j4.eq_2]
  simp (disch := ((try simp (disch := omega) only [wr, r0, beq_iff_eq, beq_self_eq_true]); omega)) only [↓if_pos, ↓if_neg]
  try simp (disch := omega) only [wr, r0, beq_iff_eq, beq_self_eq_true, if_true, if_false]
theorem t6 {b : List Int} (hb : b.length ≤ 3000) {p : Nat} {acc : List S33} (hacc : acc.length ≤ 3000) (r0 : rd b p = 6) (hl : p + 1 ≤ b.length) (k : Nat) :
    haymowref18_Read.l0 (k + 3) b acc p = haymowref18_Read.l0 k b (acc ++ [⟨6, 0, 0, 0, [], []⟩]) (p + 1) := by
  rw [haymowref18_Read.l0.eq_2]
  simp (disch := ((try simp (disch := omega) only [wr, r0]); omega)) only [↓if_pos, ↓if_neg]
  try simp (disch := omega) only [wr, r0, if_true, if_false]
  rw [haymowref18_Read.j3.eq_2]
  simp (disch := ((try simp (disch := omega) only [wr, r0, beq_iff_eq, beq_self_eq_true]); omega)) only [↓if_pos, ↓if_neg]
  try simp (disch := omega) only [wr, r0, beq_iff_eq, beq_self_eq_true, if_true, if_false]
  rw [haymowref18_Read.j4.eq_2]
  simp (disch := ((try simp (disch := omega) only [wr, r0, beq_iff_eq, beq_self_eq_true]); omega)) only [↓if_pos, ↓if_neg]
  try simp (disch := omega) only [wr, r0, beq_iff_eq, beq_self_eq_true, if_true, if_false]
theorem t7 {b : List Int} (hb : b.length ≤ 3000) {p : Nat} {acc : List S33} (hacc : acc.length ≤ 3000) {x y : Int} (r0 : rd b p = 7) (r1 : rd b (p + 1) = x) (r2 : rd b (p + 1 + 1) = y) (hl : p + 3 ≤ b.length) (hx : 0 ≤ x ∧ x < 256) (hy : 0 ≤ y ∧ y < 256) (k : Nat) :
    haymowref18_Read.l0 (k + 3) b acc p = haymowref18_Read.l0 k b (acc ++ [⟨7, 0, 0, x + 256 * y, [], []⟩]) (p + 1 + 2) := by
  rw [haymowref18_Read.l0.eq_2]
  simp (disch := ((try simp (disch := omega) only [wr, r0, r1, r2]); omega)) only [↓if_pos, ↓if_neg]
  try simp (disch := omega) only [wr, r0, r1, r2, if_true, if_false]
  rw [haymowref18_Read.j3.eq_2]
  simp (disch := ((try simp (disch := omega) only [wr, r0, r1, r2, beq_iff_eq, beq_self_eq_true]); omega)) only [↓if_pos, ↓if_neg]
  try simp (disch := omega) only [wr, r0, r1, r2, beq_iff_eq, beq_self_eq_true, if_true, if_false]
  rw [haymowref18_Read.j4.eq_2]
  simp (disch := ((try simp (disch := omega) only [wr, r0, r1, r2, beq_iff_eq, beq_self_eq_true]); omega)) only [↓if_pos, ↓if_neg]
  try simp (disch := omega) only [wr, r0, r1, r2, beq_iff_eq, beq_self_eq_true, if_true, if_false]
theorem t7e {b : List Int} (hb : b.length ≤ 3000) {p : Nat} {acc : List S33} (hacc : acc.length ≤ 3000) (r0 : rd b p = 7) (hp : p < b.length) (hl : b.length < p + 3) (k : Nat) :
    haymowref18_Read.l0 (k + 3) b acc p = some ([], 2) := by
  rw [haymowref18_Read.l0.eq_2]
  simp (disch := ((try simp (disch := omega) only [wr, r0]); omega)) only [↓if_pos, ↓if_neg]
  try simp (disch := omega) only [wr, r0, if_true, if_false]
  rw [haymowref18_Read.j3.eq_2]
  simp (disch := ((try simp (disch := omega) only [wr, r0, beq_iff_eq, beq_self_eq_true]); omega)) only [↓if_pos, ↓if_neg]
  try simp (disch := omega) only [wr, r0, beq_iff_eq, beq_self_eq_true, if_true, if_false]
  rw [haymowref18_Read.j4.eq_2]
  simp (disch := ((try simp (disch := omega) only [wr, r0, beq_iff_eq, beq_self_eq_true]); omega)) only [↓if_pos, ↓if_neg]
  try simp (disch := omega) only [wr, r0, beq_iff_eq, beq_self_eq_true, if_true, if_false]
theorem t8 {b : List Int} (hb : b.length ≤ 3000) {p : Nat} {acc : List S33} (hacc : acc.length ≤ 3000) {x : Int} (r0 : rd b p = x) (hp : p < b.length) (hx : 0 ≤ x ∧ x < 256) (h1 : x ≠ 1) (h2 : x ≠ 2) (h3 : x ≠ 3) (h4 : x ≠ 4) (h5 : x ≠ 5) (h6 : x ≠ 6) (h7 : x ≠ 7) (k : Nat) :
    haymowref18_Read.l0 (k + 3) b acc p = some ([], 4) := by
  rw [haymowref18_Read.l0.eq_2]
  simp (disch := ((try simp (disch := omega) only [wr, r0]); omega)) only [↓if_pos, ↓if_neg]
  try simp (disch := omega) only [wr, r0, if_true, if_false]
  rw [haymowref18_Read.j3.eq_2]
  simp (disch := ((try simp (disch := omega) only [wr, r0, beq_iff_eq, beq_self_eq_true]); omega)) only [↓if_pos, ↓if_neg]
  try simp (disch := omega) only [wr, r0, beq_iff_eq, beq_self_eq_true, if_true, if_false]
  rw [haymowref18_Read.j4.eq_2]
  simp (disch := ((try simp (disch := omega) only [wr, r0, beq_iff_eq, beq_self_eq_true]); omega)) only [↓if_pos, ↓if_neg]
  try simp (disch := omega) only [wr, r0, beq_iff_eq, beq_self_eq_true, if_true, if_false]
theorem t2a {b : List Int} (hb : b.length ≤ 3000) {p : Nat} {acc : List S33} (hacc : acc.length ≤ 3000) (r0 : rd b p = 2) (hp : p < b.length) (hl : b.length < p + 3) (k : Nat) :
    haymowref18_Read.l0 (k + 1) b acc p = some ([], 2) := by
  rw [haymowref18_Read.l0.eq_2]
  simp (disch := ((try simp (disch := omega) only [wr, r0]); omega)) only [↓if_pos, ↓if_neg]
  try simp (disch := omega) only [wr, r0, if_true, if_false]
theorem t2b {b : List Int} (hb : b.length ≤ 3000) {p : Nat} {acc : List S33} (hacc : acc.length ≤ 3000) {x y : Int} (r0 : rd b p = 2) (r1 : rd b (p + 1) = x) (r2 : rd b (p + 1 + 1) = y) (hl : p + 3 ≤ b.length) (hx : 0 ≤ x ∧ x < 256) (hy : 0 ≤ y ∧ y < 256) (hl2 : (b.length : Int) < p + 4 + (x + 256 * y)) (k : Nat) :
    haymowref18_Read.l0 (k + 1) b acc p = some ([], 2) := by
  rw [haymowref18_Read.l0.eq_2]
  simp (disch := ((try simp (disch := omega) only [wr, r0, r1, r2]); omega)) only [↓if_pos, ↓if_neg]
  try simp (disch := omega) only [wr, r0, r1, r2, if_true, if_false]
theorem t2c {b : List Int} (hb : b.length ≤ 3000) {p : Nat} {acc : List S33} (hacc : acc.length ≤ 3000) {x y : Int} (r0 : rd b p = 2) (r1 : rd b (p + 1) = x) (r2 : rd b (p + 1 + 1) = y) (hl : p + 3 ≤ b.length) (hx : 0 ≤ x ∧ x < 256) (hy : 0 ≤ y ∧ y < 256) (hl2 : p + 4 + (x + 256 * y) ≤ (b.length : Int)) {m : Int} (r3 : rd b (p + 1 + (2 + (x + 256 * y))) = m) (hm : 0 ≤ m ∧ m < 256) (hl3 : (b.length : Int) < p + 4 + (x + 256 * y) + 8 * m) (k : Nat) :
    haymowref18_Read.l0 (k + 1) b acc p = some ([], 2) := by
  rw [haymowref18_Read.l0.eq_2]
  simp (disch := ((try simp (disch := omega) only [wr, r0, r1, r2, r3]); omega)) only [↓if_pos, ↓if_neg]
  try simp (disch := omega) only [wr, r0, r1, r2, r3, if_true, if_false]
  rw [if_pos (by simp only [List.length_nil, List.length_drop, List.length_take]; omega)]
theorem t2d {b : List Int} (hb : b.length ≤ 3000) {p : Nat} {acc : List S33} (hacc : acc.length ≤ 3000) {x y : Int} (r0 : rd b p = 2) (r1 : rd b (p + 1) = x) (r2 : rd b (p + 1 + 1) = y) (hl : p + 3 ≤ b.length) (hx : 0 ≤ x ∧ x < 256) (hy : 0 ≤ y ∧ y < 256) (hl2 : p + 4 + (x + 256 * y) ≤ (b.length : Int)) {m : Int} (r3 : rd b (p + 1 + (2 + (x + 256 * y))) = m) (hm : 0 ≤ m ∧ m < 256) (hl3 : p + 4 + (x + 256 * y) + 8 * m ≤ (b.length : Int)) (k : Nat) :
    haymowref18_Read.l0 (k + 1) b acc p = haymowref18_Read.l1 k b acc (p + 1 + (2 + (x + 256 * y)) + 1) m 0 2 0 0 0 ([] ++ ((b.take (p + 1 + 2 + (x + 256 * y)).toNat).drop ((p : Int) + 1 + 2).toNat)) [] := by
  rw [haymowref18_Read.l0.eq_2]
  simp (disch := ((try simp (disch := omega) only [wr, r0, r1, r2, r3]); omega)) only [↓if_pos, ↓if_neg]
  try simp (disch := omega) only [wr, r0, r1, r2, r3, if_true, if_false]
  rw [if_pos (by simp only [List.length_nil, List.length_drop, List.length_take]; omega)]

theorem leN_drop {t : List Int} {j : Nat} (hj : j < t.length) : leN (t.drop j) = rd t j + 256 * leN (t.drop (j + 1)) := by
  rw [List.drop_eq_getElem_cons hj]
  simp [leN, rd, List.getD, List.getElem?_eq_getElem hj]
theorem l2_f {b : List Int} (hb : b.length ≤ 3000) (hby : Byts b) (acc : List S33) (at_ : Nat) (hat : at_ + 8 ≤ b.length) (m i a0 a1 a2 a3 : Int) (hi : 0 ≤ i ∧ i < 300) (f4 f5 : List Int) (h5 : f5.length ≤ 300) (k : Nat) (j : Nat) : j ≤ 8 →
    haymowref18_Read.l2 (k + j + 1) b acc at_ m i (leN (((b.drop at_).take 8).drop j)) ((j : Int) - 1) a0 a1 a2 a3 f4 f5 = haymowref18_Read.l1 k b acc ((at_ : Int) + 8) m (i + 1) a0 a1 a2 a3 f4 (f5 ++ [wrap64 (leN ((b.drop at_).take 8))]) := by
  induction j with
  | zero =>
    intro _
    rw [haymowref18_Read.l2.eq_2]
    simp (disch := ((try simp (disch := omega) only [wr]); omega)) only [↓if_pos, ↓if_neg]
    rw [wr (by omega) (by omega), wr (by omega) (by omega)]
    rfl
  | succ j ih =>
    intro hj
    have htl : ((b.drop at_).take 8).length = 8 := by rw [List.length_take, List.length_drop]; omega
    have hr : rd ((b.drop at_).take 8) j = rd b ((at_ : Int) + j) := by
      simp only [rd, Int.toNat_natCast, show ((at_ : Int) + j).toNat = at_ + j by omega, List.getD]
      rw [List.getElem?_take_of_lt (by omega), List.getElem?_drop]
    have hd := leN_drop (t := (b.drop at_).take 8) (j := j) (by omega)
    rw [hr] at hd
    have hB : ∀ x ∈ ((b.drop at_).take 8), 0 ≤ x ∧ x < 256 := fun x hx => hby x (List.mem_of_mem_drop (List.mem_of_mem_take hx))
    have n0 := leN_nonneg (l := ((b.drop at_).take 8).drop (j + 1)) (fun x hx => hB x (List.mem_of_mem_drop hx))
    have n1 := leN_lt (l := ((b.drop at_).take 8).drop (j + 1)) (fun x hx => hB x (List.mem_of_mem_drop hx))
    have hle : (2 : Int) ^ (8 * (((b.drop at_).take 8).drop (j + 1)).length) ≤ 2 ^ 56 := by
      have e : 8 * (((b.drop at_).take 8).drop (j + 1)).length ≤ 56 := by rw [List.length_drop, htl]; omega
      have := Nat.pow_le_pow_right (n := 2) (by decide) e
      have c : ((2 ^ (8 * (((b.drop at_).take 8).drop (j + 1)).length) : Nat) : Int) = 2 ^ (8 * (((b.drop at_).take 8).drop (j + 1)).length) := by push_cast; rfl
      omega
    have q0 : 0 ≤ rd b ((at_ : Int) + j) ∧ rd b ((at_ : Int) + j) < 256 := by
      apply hby
      simp only [rd, show ((at_ : Int) + j).toNat = at_ + j by omega, List.getD]
      rw [List.getElem?_eq_getElem (by omega)]
      exact List.getElem_mem _
    rw [show k + (j + 1) + 1 = (k + j + 1) + 1 by omega, haymowref18_Read.l2.eq_2]
    have e1 : ((j + 1 : Nat) : Int) - 1 = j := by omega
    rw [e1]
    simp (disch := ((try simp (disch := omega) only [wr]); omega)) only [↓if_pos, ↓if_neg]
    rw [wr (n := (at_ : Int) + j) (by omega) (by omega), wr (n := (j : Int) - 1) (by omega) (by omega)]
    generalize hL : leN (((b.drop at_).take 8).drop (j + 1)) = L at *
    have w1 : IntKind.u64.wrap (256 * L) = 256 * L := by simp only [IntKind.wrap, IntKind.signed, IntKind.bits]; simp; omega
    have w2 : IntKind.u64.wrap (rd b ((at_ : Int) + j)) = rd b ((at_ : Int) + j) := by simp only [IntKind.wrap, IntKind.signed, IntKind.bits]; simp; omega
    have w3 : IntKind.u64.wrap (256 * L + rd b ((at_ : Int) + j)) = leN (((b.drop at_).take 8).drop j) := by rw [hd]; simp only [IntKind.wrap, IntKind.signed, IntKind.bits]; simp; omega
    rw [w1, w2, w3]
    exact ih (by omega)
theorem l1_f {b : List Int} (hb : b.length ≤ 3000) (hby : Byts b) (acc : List S33) (hacc : acc.length ≤ 3000) (m : Int) (hm : 0 ≤ m ∧ m < 256) (a0 a1 a2 a3 : Int) (f4 : List Int) (k n : Nat) : ∀ (at_ : Nat) (i : Int) (f5 : List Int), 0 ≤ i → i + n = m → f5.length + n ≤ 300 → at_ + 8 * n ≤ b.length →
    haymowref18_Read.l1 (k + 10 * n + 1) b acc at_ m i a0 a1 a2 a3 f4 f5 = haymowref18_Read.l0 k b (acc ++ [⟨a0, a1, a2, a3, f4, f5 ++ argsN n (b.drop at_)⟩]) ((at_ + 8 * n : Nat) : Int) := by
  induction n with
  | zero =>
    intro at_ i f5 h0 h1 h2 h3
    rw [haymowref18_Read.l1.eq_2]
    simp (disch := omega) only [↓if_pos, ↓if_neg]
    simp [argsN]
  | succ n ih =>
    intro at_ i f5 h0 h1 h2 h3
    rw [show k + 10 * (n + 1) + 1 = (k + 10 * n + 1 + 8 + 1) + 1 by omega, haymowref18_Read.l1.eq_2]
    simp (disch := omega) only [↓if_pos, ↓if_neg]
    have h := l2_f hb hby acc at_ (by omega) m i a0 a1 a2 a3 (by omega) f4 f5 (by omega) (k + 10 * n + 1) 8 (by omega)
    have htl : ((b.drop at_).take 8).length = 8 := by rw [List.length_take, List.length_drop]; omega
    rw [List.drop_of_length_le (by omega)] at h
    refine Eq.trans ?_ (h.trans ?_)
    · rfl
    · have e : ((at_ : Int) + 8) = ((at_ + 8 : Nat) : Int) := by omega
      rw [e, ih (at_ + 8) (i + 1) _ (by omega) (by omega) (by simp; omega) (by omega)]
      rw [show argsN (n + 1) (b.drop at_) = wrap64 (leN ((b.drop at_).take 8)) :: argsN n ((b.drop at_).drop 8) from rfl, List.drop_drop, show at_ + 8 + 8 * n = at_ + 8 * (n + 1) by omega]
      simp
theorem at_drop {b t : List Int} {p : Nat} {y : Int} (hby : Byts b) (h : b.drop p = y :: t) : 0 ≤ y ∧ y < 256 := hby y (List.mem_of_mem_drop (by rw [h]; simp : y ∈ b.drop p))
theorem len_drop {b t : List Int} {p : Nat} (h : b.drop p = t) : t.length = b.length - p := by rw [← h, List.length_drop]
theorem step {b : List Int} (hb : b.length ≤ 3000) (hby : Byts b) {p : Nat} {acc : List S33} (hacc : acc.length ≤ 3000) {x : PScriptWrites.S47} {r : List Int} (hd : dec (b.drop p) = .ok (x, r)) :
    ∃ p' c, p < p' ∧ p' ≤ b.length ∧ b.drop p' = r ∧ ∀ k, haymowref18_Read.l0 (k + c) b acc p = haymowref18_Read.l0 k b (acc ++ [cv33 x]) (p' : Nat) := by
  cases h0 : b.drop p with
  | nil => rw [h0] at hd; simp [dec] at hd
  | cons q t =>
    obtain ⟨r0, l0, h1⟩ := rd_drop h0
    have hq := at_drop hby h0
    rw [h0] at hd
    by_cases q1 : q = 1
    · subst q1
      match t, h1, hd with
      | [], _, hd => simp [dec] at hd
      | [_], _, hd => simp [dec] at hd
      | x1 :: y1 :: t, h1, hd =>
        obtain ⟨r1, l1, h2⟩ := rd_drop h1
        obtain ⟨r2, l2, h3⟩ := rd_drop h2
        simp only [dec, if_true, Except.ok.injEq, Prod.mk.injEq] at hd
        obtain ⟨rfl, rfl⟩ := hd
        refine ⟨p + 3, 1, by omega, by omega, h3, fun k => ?_⟩
        rw [t1 hb hacc r0 (by exact_mod_cast r1) (by exact_mod_cast r2) (by omega) (at_drop hby h1) (at_drop hby h2) k]
        rw [show ((p + 3 : Nat) : Int) = (p : Int) + 1 + 2 by omega]
        rfl
    by_cases q2 : q = 2
    · subst q2
      match t, h1, hd with
      | [], _, hd => simp [dec] at hd
      | [_], _, hd => simp [dec] at hd
      | x1 :: y1 :: t, h1, hd =>
        obtain ⟨r1, l1, h2⟩ := rd_drop h1
        obtain ⟨r2, l2, h3⟩ := rd_drop h2
        have bx := at_drop hby h1
        have by_ := at_drop hby h2
        simp only [dec] at hd
        rw [if_neg (by decide), if_pos trivial] at hd
        by_cases hl : x1 + 256 * y1 ≤ t.length
        · rw [if_pos hl] at hd
          obtain ⟨n, hn⟩ : ∃ n : Nat, x1 + 256 * y1 = n := ⟨(x1 + 256 * y1).toNat, by omega⟩
          have hn2 : (x1 + 256 * y1).toNat = n := by omega
          have ht : b.drop (p + 3 + n) = t.drop n := by rw [← h3, List.drop_drop]
          rw [hn2] at hd
          cases h4 : t.drop n with
          | nil => rw [h4] at hd; simp at hd
          | cons m t2 =>
            rw [h4] at hd ht
            obtain ⟨r3, l3, h5⟩ := rd_drop ht
            have bm := at_drop hby ht
            dsimp only at hd
            by_cases hl2 : 8 * m.toNat ≤ t2.length
            · rw [if_pos hl2] at hd
              simp only [Except.ok.injEq, Prod.mk.injEq] at hd
              obtain ⟨rfl, rfl⟩ := hd
              have ln := len_drop h5
              have lt := len_drop h3
              refine ⟨p + 3 + n + 1 + 8 * m.toNat, 10 * m.toNat + 2, by omega, by omega, by rw [← h5, List.drop_drop], fun k => ?_⟩
              rw [show k + (10 * m.toNat + 2) = (k + 10 * m.toNat + 1) + 1 by omega]
              rw [t2d hb hacc r0 (by exact_mod_cast r1) (by exact_mod_cast r2) (by omega) bx by_ (by omega) (m := m) (by rw [hn, show (p : Int) + 1 + (2 + (n : Int)) = ((p + 3 + n : Nat) : Int) by omega]; exact r3) bm (by omega)]
              have h := l1_f hb hby acc hacc m bm 2 0 0 0 ([] ++ ((b.take (p + 1 + 2 + (x1 + 256 * y1)).toNat).drop ((p : Int) + 1 + 2).toNat)) k m.toNat (p + 3 + n + 1) 0 [] (by omega) (by omega) (by simp; omega) (by omega)
              rw [show (p : Int) + 1 + (2 + (x1 + 256 * y1)) + 1 = ((p + 3 + n + 1 : Nat) : Int) by omega, h]
              have e : (b.take (p + 1 + 2 + (x1 + 256 * y1)).toNat).drop ((p : Int) + 1 + 2).toNat = t.take n := by
                rw [show ((p : Int) + 1 + 2).toNat = p + 3 by omega, show ((p : Int) + 1 + 2 + (x1 + 256 * y1)).toNat = p + 3 + n by omega, ← h3, List.drop_take]
                congr 1
                omega
              rw [e, h5]
              rfl
            · rw [if_neg hl2] at hd; cases hd
        · rw [if_neg hl] at hd; cases hd
    by_cases q3 : q = 3
    · subst q3
      match t, h1, hd with
      | [], _, hd => simp [dec] at hd
      | x1 :: t, h1, hd =>
        obtain ⟨r1, l1, h2⟩ := rd_drop h1
        simp only [dec] at hd
        rw [if_neg (by decide), if_neg (by decide), if_pos (by decide)] at hd
        simp only [Except.ok.injEq, Prod.mk.injEq] at hd
        obtain ⟨rfl, rfl⟩ := hd
        refine ⟨p + 2, 2, by omega, by omega, h2, fun k => ?_⟩
        rw [t3 hb hacc r0 (by exact_mod_cast r1) (by omega) (at_drop hby h1) k]
        rw [show ((p + 2 : Nat) : Int) = (p : Int) + 1 + 1 by omega]
        rfl
    by_cases q4 : q = 4
    · subst q4
      match t, h1, hd with
      | [], _, hd => simp [dec] at hd
      | x1 :: t, h1, hd =>
        obtain ⟨r1, l1, h2⟩ := rd_drop h1
        simp only [dec] at hd
        rw [if_neg (by decide), if_neg (by decide), if_pos (by decide)] at hd
        simp only [Except.ok.injEq, Prod.mk.injEq] at hd
        obtain ⟨rfl, rfl⟩ := hd
        refine ⟨p + 2, 2, by omega, by omega, h2, fun k => ?_⟩
        rw [t4 hb hacc r0 (by exact_mod_cast r1) (by omega) (at_drop hby h1) k]
        rw [show ((p + 2 : Nat) : Int) = (p : Int) + 1 + 1 by omega]
        rfl
    by_cases q5 : q = 5
    · subst q5
      simp only [dec] at hd
      rw [if_neg (by decide), if_neg (by decide), if_neg (by decide), if_pos (by decide)] at hd
      simp only [Except.ok.injEq, Prod.mk.injEq] at hd
      obtain ⟨rfl, rfl⟩ := hd
      refine ⟨p + 1, 3, by omega, by omega, h1, fun k => ?_⟩
      rw [t5 hb hacc r0 (by omega) k]
      rfl
    by_cases q6 : q = 6
    · subst q6
      simp only [dec] at hd
      rw [if_neg (by decide), if_neg (by decide), if_neg (by decide), if_pos (by decide)] at hd
      simp only [Except.ok.injEq, Prod.mk.injEq] at hd
      obtain ⟨rfl, rfl⟩ := hd
      refine ⟨p + 1, 3, by omega, by omega, h1, fun k => ?_⟩
      rw [t6 hb hacc r0 (by omega) k]
      rfl
    by_cases q7 : q = 7
    · subst q7
      match t, h1, hd with
      | [], _, hd => simp [dec] at hd
      | [_], _, hd => simp [dec] at hd
      | x1 :: y1 :: t, h1, hd =>
        obtain ⟨r1, l1, h2⟩ := rd_drop h1
        obtain ⟨r2, l2, h3⟩ := rd_drop h2
        simp only [dec] at hd
        rw [if_neg (by decide), if_neg (by decide), if_neg (by decide), if_neg (by decide), if_pos (by decide)] at hd
        simp only [Except.ok.injEq, Prod.mk.injEq] at hd
        obtain ⟨rfl, rfl⟩ := hd
        refine ⟨p + 3, 3, by omega, by omega, h3, fun k => ?_⟩
        rw [t7 hb hacc r0 (by exact_mod_cast r1) (by exact_mod_cast r2) (by omega) (at_drop hby h1) (at_drop hby h2) k]
        rw [show ((p + 3 : Nat) : Int) = (p : Int) + 1 + 2 by omega]
        rfl
    · simp only [dec] at hd
      rw [if_neg q1, if_neg q2, if_neg (by omega), if_neg (by omega), if_neg q7] at hd
      cases hd
theorem stop {b : List Int} (hb : b.length ≤ 3000) (hby : Byts b) {p : Nat} {acc : List S33} (hacc : acc.length ≤ 3000) {n : Int} (hd : dec (b.drop p) = .error n) (hp : p < b.length) :
    ∃ c, haymowref18_Read.l0 c b acc p = some ([], n) := by
  cases h0 : b.drop p with
  | nil => have := len_drop h0; simp at this; omega
  | cons q t =>
    obtain ⟨r0, l0, h1⟩ := rd_drop h0
    have hq := at_drop hby h0
    have lt := len_drop h1
    rw [h0] at hd
    by_cases q1 : q = 1
    · subst q1
      simp only [dec, if_true] at hd
      match t, hd, lt with
      | [], hd, lt => obtain rfl : 2 = n := (Except.error.injEq _ _).mp hd; exact ⟨_, t1e hb hacc r0 (by omega) (by simp at lt; omega) 0⟩
      | [_], hd, lt => obtain rfl : 2 = n := (Except.error.injEq _ _).mp hd; exact ⟨_, t1e hb hacc r0 (by omega) (by simp at lt; omega) 0⟩
      | x1 :: y1 :: t, hd, _ => cases hd
    by_cases q2 : q = 2
    · subst q2
      match t, h1, hd, lt with
      | [], _, hd, lt => simp only [dec] at hd; rw [if_neg (by decide), if_pos trivial] at hd; obtain rfl : 2 = n := (Except.error.injEq _ _).mp hd; exact ⟨_, t2a hb hacc r0 (by omega) (by simp at lt; omega) 0⟩
      | [_], _, hd, lt => simp only [dec] at hd; rw [if_neg (by decide), if_pos trivial] at hd; obtain rfl : 2 = n := (Except.error.injEq _ _).mp hd; exact ⟨_, t2a hb hacc r0 (by omega) (by simp at lt; omega) 0⟩
      | x1 :: y1 :: t, h1, hd, _ =>
        obtain ⟨r1, l1, h2⟩ := rd_drop h1
        obtain ⟨r2, l2, h3⟩ := rd_drop h2
        have bx := at_drop hby h1
        have by_ := at_drop hby h2
        have lt := len_drop h3
        simp only [dec] at hd
        rw [if_neg (by decide), if_pos trivial] at hd
        by_cases hl : x1 + 256 * y1 ≤ t.length
        · rw [if_pos hl] at hd
          obtain ⟨j, hn⟩ : ∃ n : Nat, x1 + 256 * y1 = n := ⟨(x1 + 256 * y1).toNat, by omega⟩
          have hn2 : (x1 + 256 * y1).toNat = j := by omega
          have ht : b.drop (p + 3 + j) = t.drop j := by rw [← h3, List.drop_drop]
          rw [hn2] at hd
          cases h4 : t.drop j with
          | nil =>
            rw [h4] at hd
            obtain rfl : 2 = n := (Except.error.injEq _ _).mp hd
            have := len_drop h4
            exact ⟨_, t2b hb hacc r0 (by exact_mod_cast r1) (by exact_mod_cast r2) (by omega) bx by_ (by simp at this; omega) 0⟩
          | cons m t2 =>
            rw [h4] at hd ht
            obtain ⟨r3, l3, h5⟩ := rd_drop ht
            have bm := at_drop hby ht
            dsimp only at hd
            have ln := len_drop h5
            by_cases hl2 : 8 * m.toNat ≤ t2.length
            · rw [if_pos hl2] at hd; cases hd
            · rw [if_neg hl2] at hd
              obtain rfl : 2 = n := (Except.error.injEq _ _).mp hd
              exact ⟨_, t2c hb hacc r0 (by exact_mod_cast r1) (by exact_mod_cast r2) (by omega) bx by_ (by omega) (m := m) (by rw [hn, show (p : Int) + 1 + (2 + (j : Int)) = ((p + 3 + j : Nat) : Int) by omega]; exact r3) bm (by omega) 0⟩
        · rw [if_neg hl] at hd
          obtain rfl : 2 = n := (Except.error.injEq _ _).mp hd
          exact ⟨_, t2b hb hacc r0 (by exact_mod_cast r1) (by exact_mod_cast r2) (by omega) bx by_ (by omega) 0⟩
    by_cases q3 : q = 3
    · subst q3
      simp only [dec] at hd
      rw [if_neg (by decide), if_neg (by decide), if_pos (by decide)] at hd
      match t, hd, lt with
      | [], hd, lt => obtain rfl : 2 = n := (Except.error.injEq _ _).mp hd; exact ⟨_, t3e hb hacc r0 (by omega) (by simp at lt; omega) 0⟩
      | x1 :: t, hd, _ => cases hd
    by_cases q4 : q = 4
    · subst q4
      simp only [dec] at hd
      rw [if_neg (by decide), if_neg (by decide), if_pos (by decide)] at hd
      match t, hd, lt with
      | [], hd, lt => obtain rfl : 2 = n := (Except.error.injEq _ _).mp hd; exact ⟨_, t4e hb hacc r0 (by omega) (by simp at lt; omega) 0⟩
      | x1 :: t, hd, _ => cases hd
    by_cases q5 : q = 5 ∨ q = 6
    · simp only [dec] at hd
      rw [if_neg q1, if_neg q2, if_neg (by omega), if_pos q5] at hd
      cases hd
    by_cases q7 : q = 7
    · subst q7
      simp only [dec] at hd
      rw [if_neg (by decide), if_neg (by decide), if_neg (by decide), if_neg (by decide), if_pos (by decide)] at hd
      match t, hd, lt with
      | [], hd, lt => obtain rfl : 2 = n := (Except.error.injEq _ _).mp hd; exact ⟨_, t7e hb hacc r0 (by omega) (by simp at lt; omega) 0⟩
      | [_], hd, lt => obtain rfl : 2 = n := (Except.error.injEq _ _).mp hd; exact ⟨_, t7e hb hacc r0 (by omega) (by simp at lt; omega) 0⟩
      | x1 :: y1 :: t, hd, _ => cases hd
    · simp only [dec] at hd
      rw [if_neg q1, if_neg q2, if_neg (by omega), if_neg (by omega), if_neg q7] at hd
      obtain rfl : 4 = n := (Except.error.injEq _ _).mp hd
      exact ⟨_, t8 hb hacc r0 (by omega) hq q1 q2 q3 q4 (by omega) (by omega) q7 0⟩
theorem steps_l0 {b rs : List Int} {l : List PScriptWrites.S47} (hb : b.length ≤ 3000) (hby : Byts b) (h : Core.Steps b l rs) :
    ∃ p c, p ≤ b.length ∧ l.length ≤ p ∧ b.drop p = rs ∧ ∀ k, haymowref18_Read.l0 (k + c) b [] 0 = haymowref18_Read.l0 k b (l.map cv33) (p : Nat) := by
  induction h with
  | nil => exact ⟨0, 0, by omega, by simp, rfl, fun k => rfl⟩
  | snoc _ hd ih =>
    obtain ⟨p, c, h1, h2, rfl, h3⟩ := ih
    obtain ⟨p', c', g1, g2, g3, g4⟩ := step (acc := (List.map cv33 (by assumption))) hb hby (by rw [List.length_map]; omega) hd
    refine ⟨p', c' + c, g2, by rw [List.length_append, List.length_singleton]; omega, g3, fun k => ?_⟩
    rw [show k + (c' + c) = (k + c') + c by omega, h3, g4, List.map_append]
    rfl
theorem read_ok {b : List Int} {l : List PScriptWrites.S47} (hb : b.length ≤ 3000) (hby : Byts b) (h : Core.Steps b l []) : ∃ k, haymowref18_Read.f k b = some (l.map cv33, 0) := by
  obtain ⟨p, c, h1, h2, h3, h4⟩ := steps_l0 hb hby h
  have := len_drop h3
  refine ⟨1 + c, ?_⟩
  unfold haymowref18_Read.f
  rw [h4, haymowref18_Read.l0.eq_2, if_neg (by simp at this; omega)]
theorem read_no {b rs : List Int} {l : List PScriptWrites.S47} {n : Int} (hb : b.length ≤ 3000) (hby : Byts b) (h : Core.Steps b l rs) (hr : rs ≠ []) (hd : dec rs = .error n) : ∃ k, haymowref18_Read.f k b = some ([], n) := by
  obtain ⟨p, c, h1, h2, rfl, h4⟩ := steps_l0 hb hby h
  have hp : p < b.length := by
    rcases Nat.lt_or_ge p b.length with h | h
    · exact h
    · exact absurd (List.drop_of_length_le h) hr
  obtain ⟨k, hk⟩ := stop (acc := l.map cv33) hb hby (by rw [List.length_map]; omega) hd hp
  exact ⟨k + c, by unfold haymowref18_Read.f; rw [h4, hk]⟩

theorem dec_f5 {rs r : List Int} {x : PScriptWrites.S47} (h : dec rs = .ok (x, r)) : x.f5.length ≤ rs.length := by
  cases rs with
  | nil => simp [dec] at h
  | cons k rs =>
    simp only [dec] at h
    repeat' (split at h)
    all_goals (try (cases h; done))
    all_goals (simp only [Except.ok.injEq, Prod.mk.injEq] at h; obtain ⟨rfl, _⟩ := h)
    all_goals (first | (simp; done) | skip)
    all_goals
      have hq := congrArg List.length (by assumption : List.drop _ _ = _ :: _)
      simp only [List.length_drop, List.length_cons, argsN_len] at hq ⊢
      omega
theorem steps_f5 {b rs : List Int} {l : List PScriptWrites.S47} (h : Core.Steps b l rs) : ∀ x ∈ l, x.f5.length ≤ b.length := by
  induction h with
  | nil => simp
  | snoc hs hd ih =>
    intro x hx
    rcases List.mem_append.1 hx with hx | hx
    · exact ih x hx
    · obtain rfl := List.mem_singleton.1 hx
      have := dec_f5 hd
      have := hs.len
      omega
/-! The kinds of the two prints are one. -/
theorem C_conv33 {w : World} {A : Option Addr} {n : Nat} {l : List PScriptWrites.S47} (h : Kd.C k33 w A n (l.map cv33)) : Kd.C PScriptWrites.k33 w A n (l.map un) := by
  obtain ⟨h1, h2, h3⟩ := h
  refine ⟨by simpa using h1, h2, fun hn => ?_⟩
  obtain ⟨ad, e, hc⟩ := h3 hn
  refine ⟨ad, e, fun j p hp => ?_⟩
  rw [List.getElem?_map, Option.map_eq_some_iff] at hp
  obtain ⟨x, hx, rfl⟩ := hp
  exact hc j (cv33 x) (by rw [List.getElem?_map, hx]; rfl)
theorem dec_f4 {rs r : List Int} {x : PScriptWrites.S47} (h : dec rs = .ok (x, r)) : x.f4.length ≤ rs.length := by
  cases rs with
  | nil => simp [dec] at h
  | cons k rs =>
    simp only [dec] at h
    repeat' (split at h)
    all_goals (try (cases h; done))
    all_goals (simp only [Except.ok.injEq, Prod.mk.injEq] at h; obtain ⟨rfl, _⟩ := h)
    all_goals (first | (simp; done) | (simp only [List.length_take, List.length_cons]; omega))
theorem steps_f4 {b rs : List Int} {l : List PScriptWrites.S47} (h : Core.Steps b l rs) : ∀ x ∈ l, x.f4.length ≤ b.length := by
  induction h with
  | nil => simp
  | snoc hs hd ih =>
    intro x hx
    rcases List.mem_append.1 hx with hx | hx
    · exact ih x hx
    · obtain rfl := List.mem_singleton.1 hx
      have := dec_f4 hd
      have := hs.len
      omega
end Go.Proofs.Ythnefjkpjhfkgaa.RScriptReads
