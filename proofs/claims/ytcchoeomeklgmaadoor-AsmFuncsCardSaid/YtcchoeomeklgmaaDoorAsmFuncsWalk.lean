/- AsmFuncs returns true whatever its arguments are: the walk. -/
import Derived.Test.YtcchoeomeklgmaaDoorAB
import Derived.Test.YtcchoeomeklgmaaDoorAsmFuncsK
namespace Go.Proofs.YtcchoeomeklgmaaDoor.RAsmFuncs
open Go.RowKit Go.Shelf Go.Proofs.YtcchoeomeklgmaaDoorW.PrintWords Go.Proofs.YtcchoeomeklgmaaDoorW.PrintMore Go.Proofs.YtcchoeomeklgmaaDoor.P1 Go.Proofs.YtcchoeomeklgmaaDoor Core
open Go.Proofs.YtcchoeomeklgmaaDoor.PAsmParses (S74 k74 z74 S48 k48 z48 at_T48 at_T74 rd_T48 rd_T74)
set_option linter.unusedVariables false
set_option linter.unusedSimpArgs false
def tail1 : List UInt8 := [115, 121, 110, 99, 10, 102, 117, 110, 99, 32, 48]
theorem sync_no : takeL [] (wordsL [115, 121, 110, 99]) = .error 4 := by kernel_rfl
theorem parse1 (k : Nat) : parseL [] 0 (splitB 10 (rep k [35, 32, 120, 10] ++ tail1)) = .error (k + 1, 4) := by
  have h := splitB_rep [35, 32, 120] tail1 (by decide) k
  rw [show ([35, 32, 120] : List UInt8) ++ [10] = [35, 32, 120, 10] from rfl] at h
  rw [h, parse_notes [] _ [35, 32, 120] (by decide) k 0, Nat.zero_add, show splitB 10 tail1 = [[115, 121, 110, 99], [102, 117, 110, 99, 32, 48]] by decide, parseL, sync_no]
theorem parse2 (k : Nat) (x : Int) (h0 : 0 ≤ x) (h1 : x < 300) : parseL [] 0 (splitB 10 (rep k [35, 32, 120, 10] ++ [102, 117, 110, 99, 32] ++ Lib.itoa x)) = if x ≤ 255 then .ok [(x, [])] else .error (k + 1, 4) := by
  obtain ⟨d1, d2, d3, d4, d5⟩ := itoa_words x h0 (by omega)
  have h := splitB_rep [35, 32, 120] ([102, 117, 110, 99, 32] ++ Lib.itoa x) (by decide) k
  rw [show ([35, 32, 120] : List UInt8) ++ [10] = [35, 32, 120, 10] from rfl] at h
  have hl : splitB 10 ([102, 117, 110, 99, 32] ++ Lib.itoa x) = [[102, 117, 110, 99, 32] ++ Lib.itoa x] := splitB_last _ (by
    intro hm
    rcases List.mem_append.1 hm with hm | hm
    · exact absurd hm (by decide)
    · exact d4 hm)
  have hw : wordsL ([102, 117, 110, 99, 32] ++ Lib.itoa x) = [funcW, Lib.itoa x] := by
    have := words_cons funcW (Lib.itoa x) (by unfold clean funcW; decide) (by decide)
    rw [words_one _ d2 d3] at this
    exact this
  have ht : takeL [] [funcW, Lib.itoa x] = if x ≤ 255 then .ok [(x, [])] else .error 4 := by
    have : takeL [] [funcW, Lib.itoa x] = (match plainL (Lib.itoa x) with
          | some n => if n ≤ 255 then (if ([] : List Core.Fn).length < 255 then (.ok ([] ++ [(n, [])]) : Except Int (List Core.Fn)) else (.error 3 : Except Int (List Core.Fn))) else (.error 4 : Except Int (List Core.Fn))
          | none => (.error 4 : Except Int (List Core.Fn))) := rfl
    rw [this, d1]
    simp
  rw [List.append_assoc, h, hl, parse_notes [] _ [35, 32, 120] (by decide) k 0, Nat.zero_add, parseL, hw, ht]
  by_cases h255 : x ≤ 255
  · rw [if_pos h255, if_pos h255]; rfl
  · rw [if_neg h255, if_neg h255]
set_option maxRecDepth 100000 in
set_option maxHeartbeats 4000000 in
theorem walk (w : World) (hT : TabA w) (a0 : Int) (w0 : (Lit.int .u16 a0).wf = true) (a1 : Int) (w1 : (Lit.int .u8 a1).wf = true) :
    Calls Tryd.prog 7 #[.int .u16 a0, .int .u8 a1] w fun e w' => e = .returned (.bool true) ∧ Below w.heap.size w w' := by
  have hu16 : IntKind.u16.min = 0 ∧ IntKind.u16.max = 65535 := ⟨rfl, rfl⟩
  have hu8 : IntKind.u8.min = 0 ∧ IntKind.u8.max = 255 := ⟨rfl, rfl⟩
  have b0 : 0 ≤ a0 ∧ a0 ≤ 65535 := by
    simp only [Lit.wf, Bool.and_eq_true, decide_eq_true_eq] at w0; omega
  have b1 : 0 ≤ a1 ∧ a1 ≤ 255 := by
    simp only [Lit.wf, Bool.and_eq_true, decide_eq_true_eq] at w1; omega
  clear w0 w1 hu16 hu8
  obtain ⟨n, hn⟩ : ∃ n : Nat, a0 % 300 = (n : Int) := ⟨(a0 % 300).toNat, by omega⟩
  obtain ⟨k, hk⟩ : ∃ k : Nat, a1 % 20 = (k : Int) := ⟨(a1 % 20).toNat, by omega⟩
  have hn3 : n < 300 := by omega
  have hk3 : k < 20 := by omega
  obtain ⟨b00, b01⟩ := b0
  obtain ⟨b10, b11⟩ := b1
  have HT := Lib.hid hT
  clear hT
  go_enter Tryd.func7, Tryd.ntmps7
  go_wp2_with fail
  go_loop [7, 8] (fun t i => ∃ j : Nat, j ≤ k ∧ i = .int .i64 j ∧ t = .string (bx (rep j [35, 32, 120, 10]))) (fun _ i => k - (intOf i).toNat)
  case atStart => exact ⟨0, Nat.zero_le _, rfl, rfl⟩
  case round =>
    obtain ⟨j, hjk, rfl, ht⟩ := hrel
    obtain ⟨T, hTT⟩ : ∃ T, T = bx (rep j [35, 32, 120, 10]) := ⟨_, rfl⟩
    rw [← hTT] at ht
    subst ht
    have HTT := Lib.hid hTT
    have hts : T.size ≤ 80 := by rw [hTT, bx_size, rep_len]; simp; omega
    have hs4 : T.size + 4 ≤ 9223372036854775807 := by omega
    have hs11 : T.size + 11 ≤ 9223372036854775807 := by omega
    have hs5 : T.size + 5 ≤ 9223372036854775807 := by omega
    clear hTT
    by_cases hlt : j < k
    · go_wp2
      go_round
      case rel => exact ⟨j + 1, by omega, by go_num, by rw [HTT.out, rep_succ, ← bx_app]⟩
      case measure => simp [intOf]; omega
    · have hje : j = k := by omega
      subst hje
      have HP1 : Hid (Calls Tryd.prog 15 #[.string (T ++ ⟨#[115, 121, 110, 99, 10, 102, 117, 110, 99, 32, 48]⟩)] w (GivesT w (.error (j + 1, 4)))) := by
        have h := parse_any (rep j [35, 32, 120, 10] ++ tail1) (by rw [List.length_append, rep_len]; simp [tail1]; omega) w HT.out
        rw [parse1] at h
        rw [HTT.out]
        rw [show (⟨#[115, 121, 110, 99, 10, 102, 117, 110, 99, 32, 48]⟩ : ByteArray) = bx tail1 from rfl, bx_app]
        exact h
      have HD : Hid (∀ W, Calls Tryd.prog 18 #[.int .i64 (n : Int)] W fun e w' => e = .returned (.string (bx (Lib.itoa n))) ∧ Below W.heap.size W w') := fun W =>
        haymowref04_Digits.calls 19 _ _ W (digits_i 19 n (by omega) (by omega) (by omega) (by omega)).1
      have hn3i : ((n : Int) < 300) := by omega
      go_wp2_with fail
      refine HP1.out.mono ?_
      rintro _ wa ⟨rfl, hba⟩
      have HBA := Lib.hid hba
      clear hba
      go_wp2_with fail
      refine (HD.out _).mono ?_
      rintro _ wb ⟨rfl, hbb⟩
      have HBB : Hid (Below w.heap.size w wb) := HBA.out.trans (hbb.mono HBA.out.size)
      obtain ⟨d1, d2, d3, d4, d5⟩ := itoa_words n (by omega) (by omega)
      have HP2 : Hid (Calls Tryd.prog 15 #[.string (T ++ ⟨#[102, 117, 110, 99, 32]⟩ ++ bx (Lib.itoa n))] wb (GivesT wb (if (n : Int) ≤ 255 then .ok [((n : Int), [])] else .error (j + 1, 4)))) := by
        have h := parse_any (rep j [35, 32, 120, 10] ++ [102, 117, 110, 99, 32] ++ Lib.itoa n) (by rw [List.length_append, List.length_append, rep_len]; simp; omega) wb (HT.out.below HBB.out)
        rw [parse2 j n (by omega) (by omega)] at h
        rw [HTT.out]
        rw [show (⟨#[102, 117, 110, 99, 32]⟩ : ByteArray) = bx [102, 117, 110, 99, 32] from rfl, bx_app, bx_app]
        exact h
      have HAW : Hid (∀ W, Below w.heap.size w W → Calls Tryd.prog 16 #[] W fun e w' => e = .returned (.bool true) ∧ Below W.heap.size W w') := fun W hb => awake4_any W (HT.out.below hb)
      obtain ⟨Dg, hDg⟩ : ∃ D : ByteArray, D = bx (Lib.itoa n) := ⟨_, rfl⟩
      have hDs : Dg.size ≤ 9 := by rw [hDg, bx_size]; exact d5
      rw [← hDg] at HP2 ⊢
      have hs6 : T.size + 5 + Dg.size ≤ 9223372036854775807 := by omega
      clear hbb d1 d2 d3 d4 d5 hDg HP1 HD
      go_wp2_with fail
      refine HP2.out.mono ?_
      intro e wc hg
      by_cases h255 : (n : Int) ≤ 255
      · rw [if_pos h255] at hg
        obtain ⟨u, rfl, hp, hb⟩ := hg
        obtain ⟨A0, c0, rfl, hc0, hC⟩ := Kd.S_reads hp
        obtain ⟨ad, A1, c1, rfl, h0, h1, h2, hC1⟩ := at_T48 hC 0 (Int.le_refl _) (by simp)
        change wc.cell? ad = some (.int .i64 n) at h0
        change wc.cell? ⟨ad.block, ad.off + 1, none⟩ = some (.slice A1 0 c1) at h1
        have HBC : Hid (Below w.heap.size w wc) := HBB.out.trans (hb.mono HBB.out.size)
        have hd255 : decide ((n : Int) > 255) = false := decide_eq_false (by omega)
        have hnd : ¬ (255 : Int) < n := by omega
        clear hp hC hC1 hb h2 hc0 HP2
        go_wp2_with fail
        refine (HAW.out _ HBC.out).mono ?_
        rintro _ wd ⟨rfl, hbd⟩
        have HBD : Hid (Below w.heap.size w wd) := HBC.out.trans (hbd.mono HBC.out.size)
        clear hbd
        go_wp2_with fail
        go_ret
        exact ⟨rfl, HBD.out⟩
      · rw [if_neg h255] at hg
        obtain ⟨rfl, hb⟩ := hg
        have HBC : Hid (Below w.heap.size w wc) := HBB.out.trans (hb.mono HBB.out.size)
        have hd255 : decide ((n : Int) > 255) = true := decide_eq_true (by omega)
        have hnd : (255 : Int) < n := by omega
        clear hb HP2
        go_wp2_with fail
        refine (HAW.out _ HBC.out).mono ?_
        rintro _ wd ⟨rfl, hbd⟩
        have HBD : Hid (Below w.heap.size w wd) := HBC.out.trans (hbd.mono HBC.out.size)
        clear hbd
        go_wp2_with fail
        go_ret
        exact ⟨rfl, HBD.out⟩
end Go.Proofs.YtcchoeomeklgmaaDoor.RAsmFuncs
