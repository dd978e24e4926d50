/- The walk of haymowlaw05.PathBack: it returns true and turns nothing that was there, for every argument that can be read. -/
import Derived.Test.YtcchoeomeklgmaaDoorC6
import Derived.Test.YtcchoeomeklgmaaDoorPathBackK
import Derived.DataShut
namespace Go.Proofs.YtcchoeomeklgmaaDoor.RPathBack
open Go.RowKit Go.Shelf Go.Proofs.YtcchoeomeklgmaaDoorW.PrintWords Go.Proofs.YtcchoeomeklgmaaDoorW.PrintMore Go.Proofs.YtcchoeomeklgmaaDoor.P1 Go.Proofs.YtcchoeomeklgmaaDoor.Core Go.Proofs.YtcchoeomeklgmaaDoor
set_option linter.unusedVariables false
set_option linter.unusedSimpArgs false
set_option maxHeartbeats 1000000 in
theorem walk_long (w : World) (A0 : Option Addr) (c0 n : Nat) (h : 30 < n) :
    Calls Tryd.prog 4 #[.slice A0 n c0] w fun e w' => e = .returned (.bool true) ∧ Below w.heap.size w w' := by
  have d0 : (decide ((n : Int) > 30)) = true := by simp; omega
  have d1 : 30 < (n : Int) := by omega
  clear h
  go_enter Tryd.func4, Tryd.ntmps4
  go_wp2
  go_ret
  exact ⟨rfl, Below.refl _ _⟩
def cutL (l : List Int) : List Int := l.map fun x => x % 1000000
set_option maxRecDepth 100000 in
set_option maxHeartbeats 4000000 in
theorem walk_short (w : World) (hT : Tab w) (A0 : Option Addr) (c0 : Nat) (l : List Int) (h0 : (Kd.int .u32).C w A0 l.length l) (g0 : l.length ≤ c0) (wf : ∀ e ∈ l, (Lit.int .u32 e).wf = true) (hl : l.length ≤ 30) :
    Calls Tryd.prog 4 #[.slice A0 l.length c0] w fun e w' => e = .returned (.bool true) ∧ Below w.heap.size w w' := by
  obtain ⟨n, hn⟩ : ∃ n, n = l.length := ⟨_, rfl⟩
  have HN := Lib.hid hn
  have HC0 := Lib.hid h0
  have HT := Lib.hid hT
  have HWF : Hid (∀ x ∈ l, 0 ≤ x ∧ x ≤ 4294967295) := fun x hx => by
    have h3 := (Lit.wf_int_iff .u32 x).1 (wf x hx)
    have h4 : IntKind.max .u32 = 4294967295 := by rfl
    have h5 : IntKind.min .u32 = 0 := by rfl
    omega
  rw [← hn]
  rw [← hn] at hl g0
  have d0 : (decide ((n : Int) > 30)) = false := by simp; omega
  have d1 : ¬ 30 < (n : Int) := by omega
  clear hn h0 hT wf
  go_enter Tryd.func4, Tryd.ntmps4
  go_wp2_with fail
  go_loopg [3, 4] n (fun k v3 v4 W => ∃ j : Nat, v4 = .int .i64 j ∧ Hid (j + k = n) ∧ Hid ((Kd.int .i64).R 3 W w.heap.size (fun _ => True) v3 (cutL (l.take j))) ∧ Hid (Below w.heap.size w W))
  case atStart => exact ⟨0, rfl, by show _ = _; omega, Kd.R_nil _ _ _ _ _, Below.refl _ _⟩
  case round =>
    obtain ⟨j, rfl, hjk, hR, hB⟩ := hrel
    have hz := hB.out.size
    by_cases hlt : j < n
    · have hlj : j < l.length := by have := HN.out; omega
      have hjn : (j : Int) < n := by omega
      have hjd : decide ((j : Int) < n) = true := decide_eq_true hjn
      have hw1 : wrap64 ((j : Int) + 1) = ((j + 1 : Nat) : Int) := by rw [Core.wr (by omega) (by omega)]; rfl
      have hC := Kd.C_below HC0.out hB.out
      obtain ⟨ad, hA, hcell⟩ := (Kd.reads_of_C (enc := Value.int .u32) (d := (0 : Int)) (h1 := fun _ => rfl) hC).2.2 (by omega)
      have hc := hcell j hlj
      subst hA
      obtain ⟨x, hx⟩ : ∃ x, l.getD j 0 = x := ⟨_, rfl⟩
      have hxe : l[j] = x := by rw [← hx]; simp [List.getD, List.getElem?_eq_getElem hlj]
      rw [hx] at hc
      have hxw := HWF.out x (by rw [← hxe]; exact List.getElem_mem hlj)
      have hcv : wrap64 x = x := by unfold wrap64; omega
      have HTK : Hid (cutL (l.take (j + 1)) = cutL (l.take j) ++ [x % 1000000]) := by
        show _ = _
        rw [List.take_succ_eq_append_getElem hlj, cutL, List.map_append, hxe]
        rfl
      have HLEN : Hid ((cutL (l.take j)).length ≤ 30) := by show _ ≤ _; simp [cutL]; omega
      have HZ := Lib.hid hz
      clear hcell hx hxe hlj hC hz
      go_wp2_with ((with_reducible refine gate_builtin (b := .append) (xs := #[.tmp 16, .tmp 23]) rfl ?_); at_builtin; refine Kd.R_append (Kd.int .i64) (w0 := w) w.heap.size rfl (.tmp 16) (.tmp 23) 22 3 (.int .i64 0) 8 rfl Tryd.underlying22 info3b rfl (by decide) (by omega) u3 (cutL (l.take j)) (x % 1000000) [.int .i64 (x % 1000000)] (fun _ => True) (fun _ => False) rfl rfl ?aP (fun _ hk => hk.elim) (fun _ _ => trivial) ?aO ?aB ?aS ?aL ?_; (case aP => exact rfl); (case aO => exact hR.out); (case aB => exact hB.out); (case aS => exact HZ.out); (case aL => have := HLEN.out; omega); intro v6 w6 hr6 hb6 hg6 _; have HR6 := Lib.hid hr6; have HB6 := Lib.hid hb6; clear hr6 hb6 hg6)
      go_roundg (n - (j + 1))
      case measure => have := hjk.out; omega
      case rel => exact ⟨j + 1, by go_num, by show _ = _; omega, by rw [HTK.out]; exact HR6.out, HB6.out⟩
    · have hjn : ¬ (j : Int) < n := by omega
      have hjd : decide ((j : Int) < n) = false := decide_eq_false hjn
      have hR2 : (Kd.int .i64).R 3 wr w.heap.size (fun _ => True) u3 (cutL l) := by
        have h := hR.out
        rwa [List.take_of_length_le (by have := HN.out; omega)] at h
      have hql : (cutL l).length = n := by rw [HN.out]; simp [cutL]
      have hqb : ∀ x ∈ cutL l, 0 ≤ x ∧ x < 1000000 := fun x hx => by
        obtain ⟨y, hy, rfl⟩ := List.mem_map.1 hx
        have h1 := HWF.out y hy
        show 0 ≤ y % 1000000 ∧ y % 1000000 < 1000000
        omega
      generalize cutL l = q at hR2 hql hqb
      obtain ⟨A, c, hu, hcc, hrr⟩ := own_reads_of_le (d := (0 : Int)) (Kd.own_of_R hR2)
      rw [hql] at hu hcc hrr
      subst hu
      have hC : (Kd.int .i64).C wr A n q := by
        have := Kd.C_of_reads (enc := Value.int .i64) (d := (0 : Int)) (h1 := fun _ => rfl) hrr
        exact this
      have HQC := Lib.hid hC
      have HQB : Hid (∀ x ∈ q, 0 ≤ x ∧ x < 9223372036854775808) := fun x hx => ⟨(hqb x hx).1, by have := (hqb x hx).2; omega⟩
      have HRT := Lib.hid (read_text q hqb (by omega))
      have HQL := Lib.hid hql
      have HTW := Lib.hid (HT.out.below hB.out)
      have T1 : Hid (Calls Tryd.prog 11 #[.slice A n c] wr fun e w' => e = .returned (.string (bx (textL q))) ∧ Below wr.heap.size wr w') := by
        have h := Text_whole q A c wr HTW.out (by rw [hql]; exact hC) HQB.out (by omega)
        rw [hql] at h
        exact h
      have hlen : (textL q).length ≤ 10000000 := by
        unfold textL
        split
        · simp
        · have := text_len q HQB.out (by omega)
          omega
      have R1 : Hid (∀ W, Calls Tryd.prog 8 #[.string (bx (textL q))] W fun e w' => ∃ A c, e = .returned (.tuple #[.slice A n c, .int .i64 0]) ∧ (Kd.int .i64).C w' A n q ∧ n ≤ c ∧ Below W.heap.size W w') := fun W => by
        have h := Read_any (textL q) hlen W
        rw [HRT.out] at h
        rw [← hql]
        exact h
      have S1 : Hid (∀ W A0 A1 c0 c1, (Kd.int .i64).C W A0 n q → n ≤ c0 → (Kd.int .i64).C W A1 n q → n ≤ c1 → Calls Tryd.prog 10 #[.slice A0 n c0, .slice A1 n c1] W fun e w' => e = .returned (.bool true) ∧ Drawn0 W w') := fun W A0 A1 c0 c1 h0 g0 h1 g1 => by
        have h := same_any q A0 A1 c0 c1 W
        rw [hql] at h
        exact h h0 g0 h1 g1 (by omega)
      obtain ⟨X, hX⟩ : ∃ X, bx (textL q) = X := ⟨_, rfl⟩
      rw [hX] at T1 R1
      clear hR2 hql hqb hrr hC hX hlen hlt hjk hR
      go_wp2_with fail
      refine T1.out.mono ?_
      rintro e w1 ⟨rfl, hb⟩
      have B1 : Hid (Below wr.heap.size wr w1) := hb
      clear hb
      go_wp2_with fail
      refine (R1.out _).mono ?_
      rintro e w2 ⟨A2, c2, rfl, hC, hc2, hb⟩
      have X2 := Lib.hid hC
      have B2 : Hid (Below wr.heap.size wr w2) := B1.out.trans (hb.mono B1.out.size)
      clear hb hC
      go_wp2_with fail
      refine (S1.out w2 A2 A c2 c X2.out hc2 (Kd.C_below HQC.out B2.out) hcc).mono ?_
      rintro e w3 ⟨rfl, hd⟩
      have B3 : Hid (Below wr.heap.size wr w3) := B2.out.trans (hd.below.mono B2.out.size)
      clear hd
      go_wp2_with fail
      refine (awake_any w3).mono ?_
      rintro e w4 ⟨rfl, hb⟩
      have B4 : Hid (Below w.heap.size w w4) := hB.out.trans ((B3.out.trans (hb.mono B3.out.size)).mono hz)
      clear hb
      go_wp2_with fail
      go_ret
      exact ⟨rfl, B4.out⟩
theorem walk (w : World) (hT : Tab w) (A0 : Option Addr) (c0 : Nat) (l0 : List (Int)) (hr0 : Kd.C (Kd.int .u32) w A0 l0.length l0) (hc0 : l0.length ≤ c0) (w0 : (∀ e ∈ l0, (Lit.int .u32 e).wf = true)) :
    Calls Tryd.prog 4 #[.slice A0 l0.length c0] w fun e w' => e = .returned (.bool true) ∧ Below w.heap.size w w' := by
  by_cases h : 30 < l0.length
  · exact walk_long w A0 c0 _ h
  · exact walk_short w hT A0 c0 l0 hr0 hc0 w0 (by omega)
end Go.Proofs.YtcchoeomeklgmaaDoor.RPathBack
