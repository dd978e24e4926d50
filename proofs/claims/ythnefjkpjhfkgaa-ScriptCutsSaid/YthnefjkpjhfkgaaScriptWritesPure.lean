/- The printed functions of ScriptWrites as numbers and lists: how they end, and that they tell what script.write is said to. -/
import Derived.Test.YthnefjkpjhfkgaaC5
import Derived.Test.YthnefjkpjhfkgaaPScriptWritesx3
import Derived.Test.YthnefjkpjhfkgaaPScriptWritesx4
namespace Go.Proofs.Ythnefjkpjhfkgaa.Core
open Go.RowKit Go.Proofs.YthnefjkpjhfkgaaW.PrintWords Go.Proofs.YthnefjkpjhfkgaaW.PrintMore Go.Proofs.Ythnefjkpjhfkgaa.PScriptWrites
set_option linter.unusedVariables false
set_option linter.unusedSimpArgs false

theorem wrap_next {i : Int} {n : Nat} (h0 : 0 ≤ i) (h : i < (n : Int)) (hn : n ≤ 1000000) : wrap64 (i + 1) = i + 1 := by
  unfold wrap64
  omega
/-- The document's act as the program's. -/
def cv (x : S33) : S47 := ⟨x.f0, x.f1, x.f2, x.f3, x.f4, x.f5⟩

theorem light_l (l : List S33) (hn : l.length ≤ 60) (d : Nat) : ∀ (k : Nat) (i : Int), 0 ≤ i → i ≤ l.length → (l.length : Int) - i = d → d < k →
    ∃ b, haymowlaw18_light.l0 k l i = some b ∧ (b = true → ∀ j : Nat, i ≤ j → j < l.length → (rd_T33 l j).f4.length ≤ 300 ∧ (rd_T33 l j).f5.length ≤ 300) := by
  induction d with
  | zero =>
    intro k i h0 h1 hd hk
    obtain ⟨k, rfl⟩ : ∃ m, k = m + 1 := ⟨k - 1, by omega⟩
    exact ⟨true, by simp only [haymowlaw18_light.l0]; rw [if_neg (by omega)], fun _ j hj hl => by omega⟩
  | succ d ih =>
    intro k i h0 h1 hd hk
    obtain ⟨k, rfl⟩ : ∃ m, k = m + 1 := ⟨k - 1, by omega⟩
    obtain ⟨b, hb, h⟩ := ih k (i + 1) (by omega) (by omega) (by omega) (by omega)
    simp only [haymowlaw18_light.l0]
    rw [if_pos (by omega), if_pos h0, wrap_next (n := l.length) h0 (by omega) (by omega), hb]
    by_cases g4 : ((rd_T33 l i).f4.length : Int) > 300
    · exact ⟨false, by rw [if_pos g4], fun h => by cases h⟩
    · by_cases g5 : ((rd_T33 l i).f5.length : Int) > 300
      · exact ⟨false, by rw [if_neg g4, if_pos g5], fun h => by cases h⟩
      · refine ⟨b, by rw [if_neg g4, if_neg g5], fun hb' j hj hl => ?_⟩
        by_cases e : i = j
        · subst e; exact ⟨by omega, by omega⟩
        · exact h hb' j (by omega) hl
theorem light_f (l : List S33) : ∃ k b, haymowlaw18_light.f k l = some b ∧ (b = true → l.length ≤ 60 ∧ ∀ x ∈ l, x.f4.length ≤ 300 ∧ x.f5.length ≤ 300) := by
  by_cases hn : l.length ≤ 60
  · obtain ⟨b, hb, h⟩ := light_l l hn l.length (l.length + 1) 0 (by omega) (by omega) (by omega) (by omega)
    refine ⟨l.length + 1, b, by unfold haymowlaw18_light.f; rw [if_neg (by omega), hb], fun hb' => ⟨hn, fun x hx => ?_⟩⟩
    obtain ⟨j, hj⟩ := List.mem_iff_getElem?.1 hx
    obtain ⟨hl, _⟩ := List.getElem?_eq_some_iff.1 hj
    have := h hb' j (by omega) hl
    simpa [rd_T33, List.getD, hj] using this
  · exact ⟨0, false, by unfold haymowlaw18_light.f; rw [if_pos (by omega)], fun h => by cases h⟩

theorem of_l (l : List S33) (hn : l.length ≤ 60) (d : Nat) : ∀ (k i : Nat), l.length - i = d → i ≤ l.length → d < k → haymowlaw18_of.l0 k l ((l.take i).map cv) i = some (l.map cv) := by
  induction d with
  | zero =>
    intro k i hd hi hk
    obtain ⟨k, rfl⟩ : ∃ m, k = m + 1 := ⟨k - 1, by omega⟩
    obtain rfl : i = l.length := by omega
    simp only [haymowlaw18_of.l0]
    rw [if_neg (by omega), List.take_length]
  | succ d ih =>
    intro k i hd hi hk
    obtain ⟨k, rfl⟩ : ∃ m, k = m + 1 := ⟨k - 1, by omega⟩
    simp only [haymowlaw18_of.l0]
    rw [if_pos (by omega), if_pos (by omega), if_pos (by simp; omega), wrap_next (n := l.length) (by omega) (by omega) (by omega)]
    have h := ih k (i + 1) (by omega) (by omega) (by omega)
    have e : (l.take (i + 1)).map cv = (l.take i).map cv ++ [(⟨(rd_T33 l i).f0, (rd_T33 l i).f1, (rd_T33 l i).f2, (rd_T33 l i).f3, (rd_T33 l i).f4, (rd_T33 l i).f5⟩ : S47)] := by
      rw [List.take_succ_eq_append_getElem (by omega), List.map_append]
      simp [cv, rd_T33, List.getD, List.getElem?_eq_getElem (show i < l.length by omega)]
    rw [e] at h
    exact h
theorem of_f (l : List S33) (hn : l.length ≤ 60) : haymowlaw18_of.f (l.length + 1) l = some (l.map cv) := of_l l hn l.length (l.length + 1) 0 (by omega) (by omega) (by omega)

theorem lenpos {α : Type} (l : List α) : ((l.length : Int) > 0) = (l ≠ []) := by
  rw [ne_eq, ← List.length_eq_zero_iff]
  exact propext (by omega)

theorem wrong_f (x : S33) (h4 : x.f4.length ≤ 300) (h5 : x.f5.length ≤ 300) : haymowref18_Wrong.f 2 x.f0 x.f1 x.f2 x.f3 x.f4 x.f5 = some (errOf (cv x)) := by
  obtain ⟨a, b, c, d, e, f⟩ := x
  simp only [haymowref18_Wrong.f, haymowref18_Wrong.j0, haymowref18_Wrong.j1, errOf, bareB, fits, cv, lenpos] at *
  have h4' : ¬ ((e.length : Int) > 65535) := by omega
  by_cases hlo : a < 1
  · simp [hlo, show ¬ 1 ≤ a by omega]
  by_cases hhi : a > 7
  · simp [hlo, hhi, show ¬ a ≤ 7 by omega]
  have h1 : 1 ≤ a := by omega
  have h7 : a ≤ 7 := by omega
  have h5' : ¬ ((f.length : Int) > 255) ↔ f.length < 256 := by omega
  rw [if_neg hlo, show decide (a > 7) = false by simpa using hhi]
  rcases (show a = 1 ∨ a = 2 ∨ a = 3 ∨ a = 4 ∨ a = 5 ∨ a = 6 ∨ a = 7 by omega) with rfl | rfl | rfl | rfl | rfl | rfl | rfl
  · by_cases he : e = [] <;> by_cases hf : f = [] <;> by_cases hd : d = 0 <;> simp [he, hf, hd]
    by_cases b1 : b < 0 <;> by_cases b2 : 255 < b <;> by_cases c1 : c < 0 <;> by_cases c2 : 255 < c <;> simp [b1, b2, c1, c2] <;> first | omega | (exact decide_eq_false (by omega)) | (exact decide_eq_true (by omega)) | (split <;> omega)
  · by_cases hb : b = 0 <;> by_cases hc : c = 0 <;> by_cases hd : d = 0 <;> simp [hb, hc, hd]
    by_cases g : (255 : Int) < f.length
    · simp [h4', g] <;> first | omega | (exact decide_eq_false (by omega)) | (exact decide_eq_true (by omega)) | (split <;> omega)
    · simp [h4', g] <;> first | omega | (exact decide_eq_false (by omega)) | (exact decide_eq_true (by omega)) | (split <;> omega)
  · by_cases hb : b = 0 <;> by_cases hc : c = 0 <;> by_cases he : e = [] <;> by_cases hf : f = [] <;> simp [hb, hc, he, hf]
    by_cases b1 : d < 0 <;> by_cases b2 : 255 < d <;> by_cases b3 : 65535 < d <;> simp [b1, b2, b3] <;> first | omega | (exact decide_eq_false (by omega)) | (exact decide_eq_true (by omega)) | (split <;> omega)
  · by_cases hb : b = 0 <;> by_cases hc : c = 0 <;> by_cases he : e = [] <;> by_cases hf : f = [] <;> simp [hb, hc, he, hf]
    by_cases b1 : d < 0 <;> by_cases b2 : 255 < d <;> by_cases b3 : 65535 < d <;> simp [b1, b2, b3] <;> first | omega | (exact decide_eq_false (by omega)) | (exact decide_eq_true (by omega)) | (split <;> omega)
  · by_cases hb : b = 0 <;> by_cases hc : c = 0 <;> by_cases he : e = [] <;> by_cases hf : f = [] <;> by_cases hd : d = 0 <;> simp [hb, hc, he, hf, hd]
  · by_cases hb : b = 0 <;> by_cases hc : c = 0 <;> by_cases he : e = [] <;> by_cases hf : f = [] <;> by_cases hd : d = 0 <;> simp [hb, hc, he, hf, hd]
  · by_cases hb : b = 0 <;> by_cases hc : c = 0 <;> by_cases he : e = [] <;> by_cases hf : f = [] <;> simp [hb, hc, he, hf]
    by_cases b1 : d < 0 <;> by_cases b3 : 65535 < d <;> simp [b1, b3] <;> first | omega | (exact decide_eq_false (by omega)) | (exact decide_eq_true (by omega)) | (split <;> omega)

theorem l1_f (m : Nat) : ∀ (k : Nat) (x3 : List Int) (x4 v i a b c d : Int) (e f : List Int), 0 ≤ v → v < 18446744073709551616 → 0 ≤ i → i + m = 8 → m < k → x3.length + m < 140737488355328 →
    ∃ k', haymowref18_Write.l1 k x3 x4 v i a b c d e f = haymowref18_Write.l0 k' (x3 ++ le m v) (wrap64 (x4 + 1)) a b c d e f ∧ k ≤ k' + m + 1 := by
  induction m with
  | zero =>
    intro k x3 x4 v i a b c d e f h0 h1 hi hm hk hl
    obtain ⟨k, rfl⟩ : ∃ m, k = m + 1 := ⟨k - 1, by omega⟩
    exact ⟨k, by simp only [haymowref18_Write.l1]; rw [if_neg (by omega), le, List.append_nil], by omega⟩
  | succ m ih =>
    intro k x3 x4 v i a b c d e f h0 h1 hi hm hk hl
    obtain ⟨k, rfl⟩ : ∃ m, k = m + 1 := ⟨k - 1, by omega⟩
    have e1 : Int.tmod v 256 % 256 = v % 256 := by rw [Int.tmod_eq_emod_of_nonneg h0]; omega
    have e2 : IntKind.u64.wrap (Int.tdiv v 256) = v / 256 := by rw [Int.tdiv_eq_ediv_of_nonneg h0]; simp [IntKind.wrap, IntKind.signed, IntKind.bits]; omega
    have e3 : wrap64 (i + 1) = i + 1 := by unfold wrap64; omega
    obtain ⟨k', hk', hkk⟩ := ih k (x3 ++ [v % 256]) x4 (v / 256) (i + 1) a b c d e f (by omega) (by omega) (by omega) (by omega) (by omega) (by simp; omega)
    refine ⟨k', ?_, by omega⟩
    simp only [haymowref18_Write.l1]
    rw [if_pos (by omega), if_pos (by omega), e1, e2, e3, hk']
    simp [le]

theorem l0_f (f : List Int) (hf : f.length ≤ 300) (m : Nat) : ∀ (k : Nat) (x3 : List Int) (j : Nat) (a b c d : Int) (e : List Int), f.length - j = m → j ≤ f.length → 10 * m < k → x3.length + 8 * m < 1000000 →
    haymowref18_Write.l0 k x3 j a b c d e f = some (x3 ++ (f.drop j).flatMap (le 8)) := by
  induction m with
  | zero =>
    intro k x3 j a b c d e hj hl hk hx
    obtain ⟨k, rfl⟩ : ∃ m, k = m + 1 := ⟨k - 1, by omega⟩
    obtain rfl : j = f.length := by omega
    simp only [haymowref18_Write.l0]
    rw [if_neg (by omega)]
    simp
  | succ m ih =>
    intro k x3 j a b c d e hj hl hk hx
    obtain ⟨k, rfl⟩ : ∃ m, k = m + 1 := ⟨k - 1, by omega⟩
    have hw : IntKind.u64.wrap (rd f j) = rd f j % 18446744073709551616 := by simp [IntKind.wrap, IntKind.signed, IntKind.bits]
    obtain ⟨k', hk', hkk⟩ := l1_f 8 k x3 j (IntKind.u64.wrap (rd f j)) 0 a b c d e f (by rw [hw]; omega) (by rw [hw]; omega) (by omega) (by omega) (by omega) (by omega)
    have h := ih k' (x3 ++ le 8 (rd f j)) (j + 1) a b c d e (by omega) (by omega) (by omega) (by simp [le_len]; omega)
    simp only [haymowref18_Write.l0]
    rw [if_pos (by omega), if_pos (by omega), hk', wrap_next (n := f.length) (by omega) (by omega) (by omega), le_wrap]
    rw [show ((j : Int) + 1) = ((j + 1 : Nat) : Int) by omega, h]
    have hd : f.drop j = rd f j :: f.drop (j + 1) := by
      rw [List.drop_eq_getElem_cons (by omega)]
      simp [rd, List.getD, List.getElem?_eq_getElem (show j < f.length by omega)]
    rw [hd, List.flatMap_cons, List.append_assoc]

theorem refw_f (x : S33) (h4 : x.f4.length ≤ 300) (h5 : x.f5.length ≤ 300) (he : errOf (cv x) = 0) : ∃ k, haymowref18_Write.f k x.f0 x.f1 x.f2 x.f3 x.f4 x.f5 = some (byts (cv x)) := by
  obtain ⟨a, b, c, d, e, f⟩ := x
  refine ⟨10 * f.length + 2, ?_⟩
  dsimp only at h4 h5
  unfold errOf at he
  split at he
  · split at he
    · rename_i hk hfit
      obtain ⟨h1, h7, _⟩ := hk
      simp only [cv, fits] at h1 h7 hfit
      simp only [haymowref18_Write.f, Option.bind_some, byts, cv]
      rcases (show a = 1 ∨ a = 2 ∨ a = 3 ∨ a = 4 ∨ a = 5 ∨ a = 6 ∨ a = 7 by omega) with rfl | rfl | rfl | rfl | rfl | rfl | rfl
      · simp [le]
      · have h := l0_f f h5 f.length (10 * f.length + 2) ([2 % 256] ++ [(e.length : Int) % 256, (wrap64 ((e.length : Int) / 256)) % 256] ++ e ++ [(f.length : Int) % 256]) 0 2 b c d e (by omega) (by omega) (by omega) (by simp; omega)
        have hw : wrap64 ((e.length : Int) / 256) = (e.length : Int) / 256 := by unfold wrap64; omega
        rw [if_neg (by decide), if_pos rfl, if_pos (by simp), if_pos (by simp; omega), if_pos (by simp; omega)]
        rw [show ((0 : Nat) : Int) = 0 from rfl] at h
        rw [h, hw]
        simp [le]
      · simp [haymowref18_Write.j2, le]
      · simp [haymowref18_Write.j2, le]
      · simp [haymowref18_Write.j2]
      · simp [haymowref18_Write.j2]
      · have hfit' : 0 ≤ d ∧ d < 65536 := by
          have h0 : decide (0 ≤ d ∧ d < 65536) = true := hfit
          exact of_decide_eq_true h0
        have e1 : Int.tmod d 256 % 256 = d % 256 := by rw [Int.tmod_eq_emod_of_nonneg (by omega)]; omega
        have e2 : wrap64 (Int.tdiv d 256) % 256 = d / 256 % 256 := by rw [Int.tdiv_eq_ediv_of_nonneg (by omega)]; unfold wrap64; omega
        simp [haymowref18_Write.j2, le, e1, e2]
    · cases he
  · cases he
end Go.Proofs.Ythnefjkpjhfkgaa.Core
