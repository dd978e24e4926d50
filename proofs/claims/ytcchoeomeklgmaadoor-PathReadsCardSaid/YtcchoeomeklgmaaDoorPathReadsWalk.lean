/- The walk of haymowlaw05.PathReads: it returns true and turns nothing that was there, for every argument that can be read. -/
import Derived.Test.YtcchoeomeklgmaaDoorC5
import Derived.DataShut
import Derived.Test.YtcchoeomeklgmaaDoorPathReadsK
namespace Go.Proofs.YtcchoeomeklgmaaDoor.RPathReads
open Go.RowKit Go.Shelf Go.Proofs.YtcchoeomeklgmaaDoorW.PrintWords Go.Proofs.YtcchoeomeklgmaaDoorW.PrintMore Go.Proofs.YtcchoeomeklgmaaDoor.P1 Go.Proofs.YtcchoeomeklgmaaDoor.Core Go.Proofs.YtcchoeomeklgmaaDoor
set_option linter.unusedVariables false
set_option linter.unusedSimpArgs false
set_option maxHeartbeats 1000000 in
theorem walk_long (w : World) (a0 : ByteArray) (A1 : Option Addr) (c1 n1 : Nat) (h : 300 < a0.size ∨ 30 < n1) :
    Calls Tryd.prog 3 #[.string a0, .slice A1 n1 c1] w fun e w' => e = .returned (.bool true) ∧ Below w.heap.size w w' := by
  obtain ⟨n0, hn⟩ : ∃ n0, a0.size = n0 := ⟨_, rfl⟩
  rw [hn] at h
  by_cases h0 : 300 < n0
  · have d0 : (decide ((n0 : Int) > 300)) = true := by simp; omega
    have d1 : 300 < (n0 : Int) := by omega
    clear h
    go_enter Tryd.func3, Tryd.ntmps3
    go_wp2
    go_ret
    exact ⟨rfl, Below.refl _ _⟩
  · have d0 : (decide ((n0 : Int) > 300)) = false := by simp; omega
    have d1 : ¬ 300 < (n0 : Int) := by omega
    have d2 : (decide ((n1 : Int) > 30)) = true := by simp; omega
    have d3 : 30 < (n1 : Int) := by omega
    clear h h0
    go_enter Tryd.func3, Tryd.ntmps3
    go_wp2
    go_ret
    exact ⟨rfl, Below.refl _ _⟩
set_option maxHeartbeats 4000000 in
theorem walk_short (w : World) (hT : Tab w) (t : List UInt8) (A1 : Option Addr) (c1 : Nat) (p : List Int) (h1 : (Kd.int .i64).C w A1 p.length p) (g1 : p.length ≤ c1) (wf : ∀ e ∈ p, (Lit.int .i64 e).wf = true) (ht : t.length ≤ 300) (hp : p.length ≤ 30) :
    Calls Tryd.prog 3 #[.string ⟨t.toArray⟩, .slice A1 p.length c1] w fun e w' => e = .returned (.bool true) ∧ Below w.heap.size w w' := by
  obtain ⟨T, hTe⟩ : ∃ T : ByteArray, T = ⟨t.toArray⟩ := ⟨_, rfl⟩
  obtain ⟨n, hn⟩ : ∃ n, n = p.length := ⟨_, rfl⟩
  obtain ⟨m, hm⟩ : ∃ m, m = t.length := ⟨_, rfl⟩
  have hsz : T.size = m := by rw [hTe, hm]; simp [ByteArray.size]
  have HTE := Lib.hid hTe
  have HN := Lib.hid hn
  have HM := Lib.hid hm
  have HC1 := Lib.hid h1
  have HT := Lib.hid hT
  have HWF := Lib.hid wf
  rw [← hTe, ← hn]
  rw [← hn] at hp g1
  rw [← hm] at ht
  have d0 : (decide ((m : Int) > 300)) = false := by simp; omega
  have d1 : ¬ 300 < (m : Int) := by omega
  have d2 : (decide ((n : Int) > 30)) = false := by simp; omega
  have d3 : ¬ 30 < (n : Int) := by omega
  clear hTe hn hm h1 hT wf
  go_enter Tryd.func3, Tryd.ntmps3
  go_wp2_with fail
  go_loopg [5] n (fun k v5 W => ∃ j : Nat, v5 = .int .i64 j ∧ W = w ∧ Hid (j + k = n) ∧ Hid (∀ x ∈ p.take j, 0 ≤ x))
  case atStart => exact ⟨0, rfl, rfl, by show _ = _; omega, by intro x hx; simp at hx⟩
  case round =>
    obtain ⟨j, rfl, hW, hjk, hpos⟩ := hrel
    subst hW
    by_cases hlt : j < n
    · have hl : j < p.length := by have := HN.out; omega
      have hjn : (j : Int) < n := by omega
      have hjd : decide ((j : Int) < n) = true := decide_eq_true hjn
      have hw1 : wrap64 ((j : Int) + 1) = ((j + 1 : Nat) : Int) := by rw [Core.wr (by omega) (by omega)]; rfl
      obtain ⟨ad, hA, hcell⟩ := (Kd.reads_of_C (enc := Value.int .i64) (d := (0 : Int)) (h1 := fun _ => rfl) HC1.out).2.2 (by omega)
      have hc := hcell j hl
      subst hA
      obtain ⟨x, hx⟩ : ∃ x, p.getD j 0 = x := ⟨_, rfl⟩
      have hxe : p[j] = x := by rw [← hx]; simp [List.getD, List.getElem?_eq_getElem hl]
      rw [hx] at hc
      have HTK : Hid (0 ≤ x → ∀ y ∈ p.take (j + 1), 0 ≤ y) := fun h y hy => by
        rw [List.take_succ_eq_append_getElem hl, List.mem_append] at hy
        rcases hy with hy | hy
        · exact hpos.out y hy
        · rw [List.mem_singleton.1 hy, hxe]; exact h
      clear hcell hx hxe hl
      by_cases h0 : x < 0
      · have h0d : decide (x < 0) = true := decide_eq_true h0
        go_wp2_with fail
        go_ret
        exact ⟨rfl, Below.refl _ _⟩
      · have h0d : decide (x < 0) = false := decide_eq_false h0
        go_wp2_with fail
        go_roundg (n - (j + 1))
        case measure => have := hjk.out; omega
        case rel => exact ⟨j + 1, by go_num, rfl, by show _ = _; omega, HTK.out (by omega)⟩
    · have hjn : ¬ (j : Int) < n := by omega
      have hjd : decide ((j : Int) < n) = false := decide_eq_false hjn
      have hall : ∀ x ∈ p, 0 ≤ x ∧ x < 9223372036854775808 := fun x hx => by
        have h1 := hpos.out x (by rw [List.take_of_length_le (by have := HN.out; omega)]; exact hx)
        have h2 := HWF.out x hx
        refine ⟨h1, ?_⟩
        have h3 := ((Lit.wf_int_iff .i64 x).1 h2).2
        have h4 : IntKind.max .i64 = 9223372036854775807 := by rfl
        omega
      have HALL := Lib.hid hall
      clear hall hpos hjk hlt
      have R1 : Hid (∀ W, Calls Tryd.prog 8 #[.string T] W fun e w' => Reads W e w' (readL t)) := fun W => by rw [HTE.out]; exact Read_any t (by have := HM.out; omega) W
      have R2 : Hid (∀ W, Calls Tryd.prog 9 #[.string T] W fun e w' => Reads W e w' (readL t)) := fun W => by rw [HTE.out]; exact rRead_any t (by have := HM.out; omega) W
      have hrl := readL_len t
      generalize readL t = r at R1 R2 hrl
      obtain ⟨xs, ev⟩ := r
      obtain ⟨q, hq⟩ : ∃ q, q = xs.length := ⟨_, rfl⟩
      have hq30 : q ≤ 1000000 := by rw [hq]; exact Nat.le_trans hrl (by omega)
      have Q1 : Hid (∀ W, Calls Tryd.prog 8 #[.string T] W fun e w' => ∃ A c, e = .returned (.tuple #[.slice A q c, .int .i64 ev]) ∧ (Kd.int .i64).C w' A q xs ∧ q ≤ c ∧ Below W.heap.size W w') := fun W => by have := R1.out W; rw [hq]; exact this
      have Q2 : Hid (∀ W, Calls Tryd.prog 9 #[.string T] W fun e w' => ∃ A c, e = .returned (.tuple #[.slice A q c, .int .i64 ev]) ∧ (Kd.int .i64).C w' A q xs ∧ q ≤ c ∧ Below W.heap.size W w') := fun W => by have := R2.out W; rw [hq]; exact this
      have S1 : Hid (∀ W A0 A1 c0 c1, (Kd.int .i64).C W A0 q xs → q ≤ c0 → (Kd.int .i64).C W A1 q xs → q ≤ c1 → Calls Tryd.prog 10 #[.slice A0 q c0, .slice A1 q c1] W fun e w' => e = .returned (.bool true) ∧ Drawn0 W w') := fun W A0 A1 c0 c1 h0 g0 h1 g1 => by
        rw [hq] at *
        exact same_any xs A0 A1 c0 c1 W h0 g0 h1 g1 hq30
      have T1 : Hid (∀ W, Below wr.heap.size wr W → Calls Tryd.prog 11 #[.slice A1 n c1] W fun e w' => e = .returned (.string (bx (textL p))) ∧ Below W.heap.size W w') := fun W hb => by
        rw [HN.out]
        exact Text_whole p A1 c1 W (HT.out.below hb) (Kd.C_below HC1.out hb) HALL.out (by have := HN.out; omega)
      have T2 : Hid (∀ W, Below wr.heap.size wr W → Calls Tryd.prog 12 #[.slice A1 n c1] W fun e w' => e = .returned (.string (bx (textL p))) ∧ Below W.heap.size W w') := fun W hb => by
        rw [HN.out]
        exact rText_any p A1 c1 W (Kd.C_below HC1.out hb) (by rw [← HN.out]; exact g1) HALL.out (by have := HN.out; omega)
      obtain ⟨X, hX⟩ : ∃ X, bx (textL p) = X := ⟨_, rfl⟩
      rw [hX] at T1 T2
      clear R1 R2 hrl hq hX
      go_wp2_with fail
      refine (Q1.out _).mono ?_
      rintro e w1 ⟨A, c, rfl, hC, hc, hb⟩
      have X1 := Lib.hid hC
      have B1 := Lib.hid hb
      clear hC hb
      go_wp2_with fail
      refine (Q2.out _).mono ?_
      rintro e w2 ⟨A2, c2, rfl, hC, hc2, hb⟩
      have X2 := Lib.hid hC
      have X12 : Hid ((Kd.int .i64).C w2 A q xs) := Kd.C_below X1.out hb
      have B2 : Hid (Below wr.heap.size wr w2) := B1.out.trans (hb.mono B1.out.size)
      clear hC hb
      go_wp2_with fail
      refine (S1.out w2 A A2 c c2 X12.out hc X2.out hc2).mono ?_
      rintro e w3 ⟨rfl, hd⟩
      have B3 : Hid (Below wr.heap.size wr w3) := B2.out.trans (hd.below.mono B2.out.size)
      clear hd
      go_wp2_with fail
      refine (T1.out w3 B3.out).mono ?_
      rintro e w4 ⟨rfl, hb⟩
      have B4 : Hid (Below wr.heap.size wr w4) := B3.out.trans (hb.mono B3.out.size)
      clear hb
      go_wp2_with fail
      refine (T2.out w4 B4.out).mono ?_
      rintro e w5 ⟨rfl, hb⟩
      have B5 : Hid (Below wr.heap.size wr w5) := B4.out.trans (hb.mono B4.out.size)
      clear hb
      go_wp2_with fail
      refine (awake_any w5).mono ?_
      rintro e w6 ⟨rfl, hb⟩
      have B6 : Hid (Below wr.heap.size wr w6) := B5.out.trans (hb.mono B5.out.size)
      clear hb
      go_wp2_with fail
      go_ret
      exact ⟨rfl, B6.out⟩
theorem walk (w : World) (hT : Tab w) (a0 : ByteArray) (w0 : a0.size ≤ maxLen) (A1 : Option Addr) (c1 : Nat) (l1 : List (Int)) (hr1 : Kd.C (Kd.int .i64) w A1 l1.length l1) (hc1 : l1.length ≤ c1) (w1 : (∀ e ∈ l1, (Lit.int .i64 e).wf = true)) :
    Calls Tryd.prog 3 #[.string a0, .slice A1 l1.length c1] w fun e w' => e = .returned (.bool true) ∧ Below w.heap.size w w' := by
  by_cases h : 300 < a0.size ∨ 30 < l1.length
  · exact walk_long w a0 A1 c1 _ h
  · have e : a0 = ⟨a0.data.toList.toArray⟩ := by rcases a0 with ⟨⟨l⟩⟩; rfl
    have hl : a0.data.toList.length = a0.size := by rw [Array.length_toList]; rfl
    rw [e]
    exact walk_short w hT a0.data.toList A1 c1 l1 hr1 hc1 w1 (by omega) (by omega)
end Go.Proofs.YtcchoeomeklgmaaDoor.RPathReads
