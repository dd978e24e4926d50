/- told: a program is what the document's is. -/
import Derived.Test.YtcchoeomeklgmaaGreatDoorAB
namespace Go.Proofs.YtcchoeomeklgmaaGreatDoor.Core
open Go.RowKit Go.Shelf Go.Proofs.YtcchoeomeklgmaaGreatDoorW.PrintWords Go.Proofs.YtcchoeomeklgmaaGreatDoorW.PrintMore Go.Proofs.YtcchoeomeklgmaaGreatDoor.P1 Go.Proofs.YtcchoeomeklgmaaGreatDoor
open Go.Proofs.YtcchoeomeklgmaaGreatDoor.PAsmPrints (S56 k56 z56 S49 k49 z49 at_T49 at_T56 rd_T49 rd_T56 S59 k59 z59 S39 k39 z39 at_T39 at_T59 rd_T39 rd_T59)
set_option linter.unusedVariables false
set_option linter.unusedSimpArgs false
/-- The document's program. -/
def RT.toI (i : Int × List Int) : S59 := ⟨i.1, i.2.getD 0 0, i.2.getD 1 0, i.2.getD 2 0, i.2.getD 3 0⟩
def RT.toP (f : Fn) : S39 := ⟨f.1, f.2.map RT.toI⟩
theorem wrN {n : Nat} (h : n ≤ 1000000000) : wrap64 ((n : Int) + 1) = ((n + 1 : Nat) : Int) := by unfold wrap64; omega
theorem of_in (x0 : List S39) (x3 : List S49) (x4 : Nat) (h4 : x4 < x0.length) (c0 : Int) (is : List S59) (hr : (rd_T39 x0 x4).f1 = is) (hl : is.length ≤ 1000) (h3 : x3.length ≤ 1000) (h41 : x4 ≤ 1000) (r : List S49)
    (hnext : Ev (fun k => haymowlaw04_of.l0 k x0 (x3 ++ [⟨c0, is.map fun i => ⟨i.f0, i.f1, i.f2, i.f3, i.f4⟩⟩]) ((x4 + 1 : Nat) : Int)) r) : ∀ (n j : Nat), is.length - j = n → j ≤ is.length →
    Ev (fun k => haymowlaw04_of.l1 k x0 x3 x4 j c0 ((is.take j).map fun i => (⟨i.f0, i.f1, i.f2, i.f3, i.f4⟩ : S56))) r := by
  intro n
  induction n with
  | zero =>
    intro j h1 h2
    obtain rfl : j = is.length := by omega
    rw [List.take_length]
    refine Ev.step (f := fun k => haymowlaw04_of.l0 k x0 (x3 ++ [⟨c0, is.map fun i => ⟨i.f0, i.f1, i.f2, i.f3, i.f4⟩⟩]) ((x4 + 1 : Nat) : Int)) (fun k => by
      rw [haymowlaw04_of.l1, if_pos (by omega), if_pos (by omega), hr, if_neg (by omega), if_pos (by omega), wrN (by omega)]) hnext
  | succ n ih =>
    intro j h1 h2
    have h3' := ih (j + 1) (by omega) (by omega)
    have hj : j < is.length := by omega
    have e : rd_T59 is j = is[j] := by unfold rd_T59; simp [hj]
    refine Ev.step (f := fun k => haymowlaw04_of.l1 k x0 x3 x4 ((j + 1 : Nat) : Int) c0 ((is.take (j + 1)).map fun i => (⟨i.f0, i.f1, i.f2, i.f3, i.f4⟩ : S56))) (fun k => by
      rw [haymowlaw04_of.l1, if_pos (by omega), if_pos (by omega), hr, if_pos (by omega), if_pos (by omega), if_pos (by rw [List.length_map, List.length_take]; omega), wrN (by omega), e, List.take_succ_eq_append_getElem hj, List.map_append]; rfl) h3'
theorem of_go (x0 : List S39) (hn : x0.length ≤ 900) (hf : ∀ x ∈ x0, x.f1.length ≤ 1000) : ∀ (n q : Nat), x0.length - q = n → q ≤ x0.length →
    Ev (fun k => haymowlaw04_of.l0 k x0 ((x0.take q).map fun x => (⟨x.f0, x.f1.map fun i => ⟨i.f0, i.f1, i.f2, i.f3, i.f4⟩⟩ : S49)) q) (x0.map fun x => (⟨x.f0, x.f1.map fun i => ⟨i.f0, i.f1, i.f2, i.f3, i.f4⟩⟩ : S49)) := by
  intro n
  induction n with
  | zero =>
    intro q h1 h2
    obtain rfl : q = x0.length := by omega
    rw [List.take_length]
    exact Ev.step (f := fun _ => some _) (fun k => by rw [haymowlaw04_of.l0, if_neg (by omega)]) (Ev.now _)
  | succ n ih =>
    intro q h1 h2
    have hq : q < x0.length := by omega
    have h3 := ih (q + 1) (by omega) (by omega)
    have e : rd_T39 x0 q = x0[q] := by unfold rd_T39; simp [hq]
    rw [List.take_succ_eq_append_getElem hq, List.map_append] at h3
    have h4 := of_in x0 ((x0.take q).map fun x => (⟨x.f0, x.f1.map fun i => ⟨i.f0, i.f1, i.f2, i.f3, i.f4⟩⟩ : S49)) q hq x0[q].f0 x0[q].f1 (by rw [e]) (hf _ (List.getElem_mem hq)) (by rw [List.length_map, List.length_take]; omega) (by omega) _ h3 _ 0 rfl (Nat.zero_le _)
    exact Ev.step (f := fun k => haymowlaw04_of.l1 k x0 ((x0.take q).map fun x => (⟨x.f0, x.f1.map fun i => ⟨i.f0, i.f1, i.f2, i.f3, i.f4⟩⟩ : S49)) q (0 : Nat) x0[q].f0 ([] : List S56)) (fun k => by
      rw [haymowlaw04_of.l0, if_pos (by omega), if_pos (by omega), e]; rfl) h4
theorem of_f (p : List Fn) (hF : Few p) : ∃ k, haymowlaw04_of.f k (p.map RT.toP) = some (p.map toP) := by
  have h := of_go (p.map RT.toP) (by rw [List.length_map]; have := hF.1; omega) (fun x hx => by
    obtain ⟨f, hf, rfl⟩ := List.mem_map.1 hx
    have := (hF.2 f hf).1
    simp [RT.toP]
    omega) _ 0 rfl (Nat.zero_le _)
  obtain ⟨k, hk⟩ := h
  refine ⟨k, ?_⟩
  have e : ((p.map RT.toP).map fun x => (⟨x.f0, x.f1.map fun i => ⟨i.f0, i.f1, i.f2, i.f3, i.f4⟩⟩ : S49)) = p.map toP := by
    rw [List.map_map]
    refine List.map_congr_left fun f _ => ?_
    simp [RT.toP, toP, RT.toI, toI, Function.comp_def]
  rw [e] at hk
  exact hk k (Nat.le_refl _)
theorem step_lt {j d m : Nat} (h : j + d = m) (hj : j < m) : m - (j + 1) < d := by omega
theorem step_eq {j m : Nat} (hj : j < m) : j + 1 + (m - (j + 1)) = m := by omega
theorem S_C {w : World} {base : Nat} {ok : Nat → Prop} {v : Value} {xs : List S49} (h : Kd.S k49 49 w base ok v xs) : ∃ A c, v = .slice A xs.length c ∧ xs.length ≤ c ∧ Kd.C k49 w A xs.length xs := Kd.S_reads h
theorem S_C67 {w : World} {base : Nat} {ok : Nat → Prop} {v : Value} {xs : List S39} (h : Kd.S k39 39 w base ok v xs) : ∃ A c, v = .slice A xs.length c ∧ xs.length ≤ c ∧ Kd.C k39 w A xs.length xs := Kd.S_reads h
set_option maxRecDepth 100000 in
set_option maxHeartbeats 4000000 in
theorem told_any (p : List Fn) (hF : Few p) (A0 A1 : Option Addr) (c0 c1 : Nat) (w : World) (hC0 : Kd.C k49 w A0 p.length (p.map toP)) (hc0 : p.length ≤ c0) (hC1 : Kd.C k39 w A1 p.length (p.map RT.toP)) (hc1 : p.length ≤ c1) :
    Calls Tryz.prog 13 #[.slice A0 p.length c0, .slice A1 p.length c1] w fun e w' => e = .returned (.bool true) ∧ Below w.heap.size w w' := by
  obtain ⟨k, hk⟩ := of_f p hF
  have hOF := haymowlaw04_of.calls k A1 c1 (p.map RT.toP) (p.map toP) w (by rw [List.length_map]; exact hC1) (by rw [List.length_map]; exact hc1) hk
  rw [List.length_map] at hOF
  have HOF := Lib.hid hOF
  have HC0 := Lib.hid hC0
  have HFF : Hid (∀ q, (rd_T49 (p.map toP) q).f1.length ≤ 1000) := fun q => by
    unfold rd_T49
    by_cases hq : q.toNat < (p.map toP).length
    · rw [List.getD_eq_getElem?_getD, List.getElem?_eq_getElem hq, Option.getD_some, List.getElem_map]
      have hq' : q.toNat < p.length := by simpa using hq
      have := (hF.2 _ (List.getElem_mem hq')).1
      simp [toP]
      omega
    · rw [List.getD_eq_getElem?_getD, List.getElem?_eq_none (by omega), Option.getD_none]
      decide
  have hpl := hF.1
  obtain ⟨n, hn⟩ : ∃ n, n = p.length := ⟨_, rfl⟩
  rw [← hn] at HOF HC0 hpl hc0 hc1 ⊢
  have hnl : (p.map toP).length = n := by rw [List.length_map, hn]
  generalize p.map toP = xs at HOF HC0 HFF hnl
  clear hOF hC0 hC1 hF hn hk
  go_enter Tryz.func13, Tryz.ntmps13
  go_wp2_with fail
  refine HOF.out.mono ?_
  rintro _ w1 ⟨v1, rfl, hS1, hb1⟩
  obtain ⟨A2, c2, rfl, hc2, hC2⟩ := S_C hS1
  have HC2 := Lib.hid hC2
  have HB1 := Lib.hid hb1
  rw [hnl] at HC2 hc2 ⊢
  have HC1 : Hid (Kd.C k49 w1 A0 n xs) := Kd.C_below HC0.out hb1
  have hnn : ((n : Int) != (n : Int)) = false := by simp
  clear hS1 hC2 hb1 HC0
  go_wp2_with fail
  go_loopg [6] n (fun d i W => ∃ q : Nat, q + d = n ∧ i = .int .i64 q ∧ Hid (Below w1.heap.size w1 W))
  case atStart => exact ⟨0, by omega, rfl, Below.refl _ _⟩
  case round =>
    obtain ⟨q, hqd, rfl, hB⟩ := hrel
    by_cases hq : q < n
    · have hq1 : (q : Int) < (n : Int) := by omega
      have hq2 : decide ((q : Int) < (n : Int)) = true := decide_eq_true hq1
      have hq0 : (0 : Int) ≤ (q : Int) := by omega
      have hqw : wrap64 ((q : Int) + 1) = ((q + 1 : Nat) : Int) := by unfold wrap64; omega
      obtain ⟨ad0, B0, e0, rfl, f00, f01, hl0, hD0⟩ := at_T49 (Kd.C_below HC1.out hB.out) q hq0 hq1
      obtain ⟨ad2, B2, e2, rfl, f20, f21, hl2, hD2⟩ := at_T49 (Kd.C_below HC2.out hB.out) q hq0 hq1
      have hm := HFF.out q
      obtain ⟨fs, hfs⟩ : ∃ fs, (rd_T49 xs q).f1 = fs := ⟨_, rfl⟩
      obtain ⟨fa, hfa⟩ : ∃ fs, (rd_T49 xs q).f0 = fs := ⟨_, rfl⟩
      rw [hfs] at f01 f21 hl0 hl2 hD0 hD2 hm
      rw [hfa] at f00 f20
      rw [Int.toNat_natCast] at f00 f01 f20 f21
      obtain ⟨m, hmm⟩ : ∃ m, m = fs.length := ⟨_, rfl⟩
      rw [← hmm] at f01 f21 hl0 hl2 hD0 hD2 hm
      have HD0 := Lib.hid hD0
      have HD2 := Lib.hid hD2
      have g00 : (fa != fa) = false := by simp
      have g01 : ((m : Int) != (m : Int)) = false := by simp
      have HX0 := Lib.hid f01
      have HX2 := Lib.hid f21
      have HQD := Lib.hid hqd
      clear hfs hfa hmm hD0 hD2 hqd
      go_wp2_with fail
      go_quiet (fail)
      clear f00 f01 f20 f21
      go_wp2_with fail
      go_loopg [7] m (fun d i W => ∃ j : Nat, j + d = m ∧ i = .int .i64 j ∧ Hid (Below wr.heap.size wr W))
      case atStart => exact ⟨0, by omega, rfl, pw_below_drewN (Below.refl _ _) _⟩
      case round =>
        obtain ⟨j, hjd, rfl, hB2⟩ := hrel
        have x0 := (hB2.out.cell (World.block_lt_of_cell? _ _ HX0.out)).trans HX0.out
        have x2 := (hB2.out.cell (World.block_lt_of_cell? _ _ HX2.out)).trans HX2.out
        by_cases hj : j < m
        · have hj1 : (j : Int) < (m : Int) := by omega
          have hj2 : decide ((j : Int) < (m : Int)) = true := decide_eq_true hj1
          have hj0 : (0 : Int) ≤ (j : Int) := by omega
          have hjw : wrap64 ((j : Int) + 1) = ((j + 1 : Nat) : Int) := by unfold wrap64; omega
          obtain ⟨ad3, rfl, i0, i1, i2, i3, i4⟩ := at_T56 (Kd.C_below HD0.out hB2.out) j hj0 hj1
          obtain ⟨ad4, rfl, j0, j1, j2, j3, j4⟩ := at_T56 (Kd.C_below HD2.out hB2.out) j hj0 hj1
          rw [Int.toNat_natCast] at i0 i1 i2 i3 i4 j0 j1 j2 j3 j4
          generalize (rd_T56 fs j).f0 = y0 at *
          generalize (rd_T56 fs j).f1 = y1 at *
          generalize (rd_T56 fs j).f2 = y2 at *
          generalize (rd_T56 fs j).f3 = y3 at *
          generalize (rd_T56 fs j).f4 = y4 at *
          have HJD := Lib.hid hjd
          clear hjd
          go_wp2_with fail
          go_quiet (fail)
          go_wp2_with fail
          go_roundg (m - (j + 1))
          case measure => exact step_lt HJD.out hj
          case rel => exact ⟨j + 1, step_eq hj, by go_num, pw_below_drewN hB2.out _⟩
        · have hj1 : ¬ (j : Int) < (m : Int) := by omega
          have hj2 : decide ((j : Int) < (m : Int)) = false := decide_eq_false hj1
          clear hjd
          go_wp2_with fail
          go_roundg (n - (q + 1))
          case measure => exact step_lt HQD.out hq
          case rel => exact ⟨q + 1, step_eq hq, by go_num, hB.out.trans (hB2.out.mono hB.out.size)⟩
    · have hq1 : ¬ (q : Int) < (n : Int) := by omega
      have hq2 : decide ((q : Int) < (n : Int)) = false := decide_eq_false hq1
      go_wp2_with fail
      go_ret
      exact ⟨rfl, HB1.out.trans (hB.out.mono HB1.out.size)⟩
end Go.Proofs.YtcchoeomeklgmaaGreatDoor.Core
