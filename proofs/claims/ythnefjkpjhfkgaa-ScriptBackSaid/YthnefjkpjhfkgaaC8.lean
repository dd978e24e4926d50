/- The reader: numbers. -/
import Derived.Test.YthnefjkpjhfkgaaC7
import Derived.Laws.BitsAllLaws
namespace Go.Proofs.Ythnefjkpjhfkgaa.Core
open Go.RowKit Go.Proofs.YthnefjkpjhfkgaaW.PrintWords Go.Proofs.YthnefjkpjhfkgaaW.PrintMore Go.Proofs.Ythnefjkpjhfkgaa.PScriptWrites
set_option linter.unusedVariables false
set_option linter.unusedSimpArgs false
/-- A number of bytes, the lowest first. -/
def leN : List Int → Int
  | [] => 0
  | c :: r => c + 256 * leN r
theorem leN_snoc (l : List Int) (x : Int) : leN (l ++ [x]) = leN l + x * 2 ^ (8 * l.length) := by
  induction l with
  | nil => simp [leN]
  | cons c r ih =>
    have e : leN (c :: r ++ [x]) = c + 256 * leN (r ++ [x]) := rfl
    have e2 : leN (c :: r) = c + 256 * leN r := rfl
    have e3 : (2 : Int) ^ (8 * (c :: r).length) = 256 * 2 ^ (8 * r.length) := by
      rw [List.length_cons, show 8 * (r.length + 1) = 8 * r.length + 8 from by omega, Int.pow_add]
      omega
    rw [e, e2, ih, e3, Int.mul_add, Int.mul_left_comm, Int.add_assoc]
theorem leN_nonneg {l : List Int} (h : ∀ x ∈ l, 0 ≤ x ∧ x < 256) : 0 ≤ leN l := by
  induction l with
  | nil => exact Int.le_refl _
  | cons c r ih =>
    have := ih (fun x hx => h x (List.mem_cons_of_mem _ hx))
    have := h c (List.mem_cons_self)
    show 0 ≤ c + 256 * leN r
    omega
theorem leN_lt {l : List Int} (h : ∀ x ∈ l, 0 ≤ x ∧ x < 256) : leN l < 2 ^ (8 * l.length) := by
  induction l with
  | nil => decide
  | cons c r ih =>
    have := ih (fun x hx => h x (List.mem_cons_of_mem _ hx))
    have := h c (List.mem_cons_self)
    have e3 : (2 : Int) ^ (8 * (c :: r).length) = 256 * 2 ^ (8 * r.length) := by
      rw [List.length_cons, show 8 * (r.length + 1) = 8 * r.length + 8 from by omega, Int.pow_add]
      omega
    rw [e3]
    show c + 256 * leN r < _
    omega
theorem or_byte (y x : Int) (j : Nat) (hj : j < 8) (h0 : 0 ≤ y) (h1 : y < 2 ^ (8 * j)) (hx : 0 ≤ x ∧ x < 256) : bits .or .u64 y (x * 2 ^ (8 * j)) = y + x * 2 ^ (8 * j) := by
  obtain ⟨y, rfl⟩ := Int.eq_ofNat_of_zero_le h0
  obtain ⟨x, rfl⟩ := Int.eq_ofNat_of_zero_le hx.1
  have e : ((x : Int) * 2 ^ (8 * j)) = ((x * 2 ^ (8 * j) : Nat) : Int) := by push_cast; rfl
  have h2 : y < 2 ^ (8 * j) := by have : ((2 ^ (8 * j) : Nat) : Int) = 2 ^ (8 * j) := by push_cast; rfl
                                  omega
  have h3 : 2 ^ (8 * j) ≤ 2 ^ 56 := Nat.pow_le_pow_right (by decide) (by omega)
  have h4 : x * 2 ^ (8 * j) ≤ 255 * 2 ^ 56 := Nat.mul_le_mul (by omega) h3
  rw [e, u64_or_nat _ _ (by omega) (by omega)]
  have := Nat.shiftLeft_add_eq_or_of_lt h2 x
  rw [Nat.shiftLeft_eq] at this
  rw [Nat.or_comm, ← this]
  omega
set_option maxHeartbeats 1000000 in
theorem number_ok (w0 W : World) (g : Nat) (rs : List Int) (n : Int) (h0 : 0 ≤ n) (h8 : n ≤ 8) (hn : n ≤ rs.length) (hby : ∀ x ∈ rs, 0 ≤ x ∧ x < 256) (h : Rd w0 W g rs) :
    Calls Try.prog 28 #[.pointer (some ⟨g, 0, none⟩), .int .i64 n] W fun e w' => e = .returned (.int .u64 (leN (rs.take n.toNat))) ∧ Rd w0 w' g (rs.drop n.toNat) ∧ W.grownBy w' (some g) := by
  have HBY := Lib.hid hby
  have H := Lib.hid (bytes_ok w0 W g rs n h0 hn h)
  have HN := Lib.hid hn
  have H0 := Lib.hid h0
  have H8 := Lib.hid h8
  clear hby hn h h0 h8
  go_enter Try.func28, Try.ntmps28
  go_wp2_with fail
  refine H.out.mono ?_
  rintro e w1 ⟨A, c, rfl, hc, hf, hrd, hg⟩
  have HR := Lib.hid hrd
  have HG := Lib.hid hg
  obtain ⟨l, hl⟩ : ∃ l, l = rs.take n.toNat := ⟨_, rfl⟩
  rw [← hl] at hc
  have HF := Lib.hid (hl ▸ Kd.C_below hf hrd.below : (Kd.int .u8).C w1 A l.length l)
  simp only [← hl]
  have HL := Lib.hid hl
  clear hl hf hrd hg H
  go_wp2
  go_loopg [5, 12] l.length (fun k a i W => ∃ j : Nat, j + k = l.length ∧ i = .int .i64 j ∧ W = w1 ∧ a = .int .u64 (leN (l.take j)))
  case atStart => exact ⟨0, by omega, rfl, rfl, rfl⟩
  case round =>
    obtain ⟨j, hjk, rfl, rfl, rfl⟩ := hrel
    have HJ := Lib.hid hjk
    clear hjk
    have hd : decide ((j : Int) < (l.length : Int)) = decide (j < l.length) := by simp
    by_cases hlt : j < l.length
    · obtain ⟨ad, c2, rfl, hcl, hcK, hcell⟩ := Kd.C_get HF.out (0 : Int) (j : Int) (Int.natCast_nonneg j) (Int.ofNat_lt.2 hlt)
      have hcell' : wr.cell? (ad.add j) = some (.int .u8 (l.getD j 0)) := by
        have := hcell 0 (.int .u8 (l.getD j 0)) (by rw [hcK]; simp)
        simpa [Kd.int, Kd.scalar] using this
      clear hcell hcK hcl
      generalize hx : l.getD j 0 = x at *
      generalize hn : leN (l.take j) = y at *
      have HX := Lib.hid hx
      have HY := Lib.hid hn
      have hx1 : 0 ≤ x ∧ x < 256 := by
        have hm : x ∈ l := by rw [← hx]; simp [hlt]
        rw [HL.out] at hm
        exact HBY.out x (List.mem_of_mem_take hm)
      have hj8 : j < 8 := by have := H8.out; have := H0.out; have h3 := HL.out; rw [h3, List.length_take] at hlt; omega
      have hsh : ∀ W, (Op.shift .shl .u64 (IntKind.u64.wrap x) .i64 (wrap64 (8 * (j : Int)))).run Try.prog W = .ok (.int .u64 (x * 2 ^ (8 * j))) W := by
        intro W
        have e1 : IntKind.u64.wrap x = x := by rw [IntKind.wrap_u64]; omega
        have e2 : wrap64 (8 * (j : Int)) = ((8 * j : Nat) : Int) := by unfold wrap64; omega
        have e3 : min (8 * j) 64 = 8 * j := by omega
        have h3 : 2 ^ (8 * j) ≤ 2 ^ 56 := Nat.pow_le_pow_right (by decide) (by omega)
        have h4 : x.toNat * 2 ^ (8 * j) ≤ 255 * 2 ^ 56 := Nat.mul_le_mul (by omega) h3
        have h5 : x * 2 ^ (8 * j) = ((x.toNat * 2 ^ (8 * j) : Nat) : Int) := by push_cast; rw [Int.toNat_of_nonneg hx1.1]
        have e4 : IntKind.u64.wrap (x * 2 ^ (8 * j)) = x * 2 ^ (8 * j) := by rw [IntKind.wrap_u64, h5]; omega
        rw [e1, e2, shift_shl_any _ _ _ _ (by omega)]
        show Result.ok (Value.int .u64 (IntKind.u64.wrap (x * 2 ^ (min ((8 * j : Nat) : Int).toNat 64)))) W = _
        rw [Int.toNat_natCast, e3, e4]
      have hor : bits .or .u64 y (x * 2 ^ (8 * j)) = leN (l.take (j + 1)) := by
        have hjl : (l.take j).length = j := by rw [List.length_take]; omega
        have hbl : ∀ z ∈ l.take j, 0 ≤ z ∧ z < 256 := fun z hz => by
          have hm := List.mem_of_mem_take hz
          rw [HL.out] at hm
          exact HBY.out z (List.mem_of_mem_take hm)
        have h6 := leN_lt hbl
        rw [hjl] at h6
        rw [← hn] at *
        rw [or_byte _ _ _ hj8 (leN_nonneg hbl) h6 hx1, List.take_succ_eq_append_getElem hlt, leN_snoc, hjl]
        rw [← hx]; simp [hlt]
      have HJ8 := Lib.hid hj8
      clear hx hn hx1 hj8
      go_wp2_with fail
      go_roundg (l.length - (j + 1))
      case measure => have := HJ.out; omega
      case rel => have := HJ8.out; have := HJ.out; exact ⟨j + 1, by omega, by congr 1; unfold wrap64; omega, rfl, rfl⟩
    · obtain rfl : j = l.length := by have := HJ.out; omega
      rw [List.take_length]
      have HL2 := HL.out
      go_wp2
      go_ret
      rw [← HL2]
      exact ⟨rfl, HR.out, HG.out⟩
set_option maxHeartbeats 1000000 in
theorem number_no (w0 W : World) (g : Nat) (rs : List Int) (n : Int) (hn : rs.length < n) (h : Rd w0 W g rs) :
    Calls Try.prog 28 #[.pointer (some ⟨g, 0, none⟩), .int .i64 n] W fun e w' => e = .panicked (chain 2) ∧ w' = W := by
  have H := Lib.hid (bytes_no w0 W g rs n hn h)
  clear hn h
  go_enter Try.func28, Try.ntmps28
  go_wp2_with fail
  refine H.out.mono ?_
  rintro e w1 ⟨rfl, rfl⟩
  go_wp2
  exact ⟨rfl, rfl, rfl⟩
end Go.Proofs.Ythnefjkpjhfkgaa.Core
