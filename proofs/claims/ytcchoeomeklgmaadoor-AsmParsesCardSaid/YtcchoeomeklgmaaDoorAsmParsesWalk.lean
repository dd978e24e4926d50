/- AsmParses returns true whatever its arguments are: the walk. -/
import Derived.Test.YtcchoeomeklgmaaDoorB7
import Derived.Test.YtcchoeomeklgmaaDoorAsmParsesK
namespace Go.Proofs.YtcchoeomeklgmaaDoor.RAsmParses
open Go.RowKit Go.Shelf Go.Proofs.YtcchoeomeklgmaaDoorW.PrintWords Go.Proofs.YtcchoeomeklgmaaDoorW.PrintMore Go.Proofs.YtcchoeomeklgmaaDoor.P2 Go.Proofs.YtcchoeomeklgmaaDoor Core
set_option linter.unusedVariables false
set_option linter.unusedSimpArgs false
def joinN (ls : List (List UInt8)) : List UInt8 := ls.flatMap (· ++ [10])
theorem joinN_snoc (ls : List (List UInt8)) (l : List UInt8) : joinN (ls ++ [l]) = joinN ls ++ (l ++ [10]) := by simp [joinN]
theorem joinN_len : ∀ (ls : List (List UInt8)), (∀ l ∈ ls, l.length ≤ 60) → (joinN ls).length ≤ 61 * ls.length
  | [], _ => by simp [joinN]
  | l :: ls, h => by
    have h1 := h l List.mem_cons_self
    have h2 := joinN_len ls (fun x hx => h x (List.mem_cons_of_mem _ hx))
    have e : joinN (l :: ls) = l ++ [10] ++ joinN ls := by simp [joinN]
    rw [e]
    simp only [List.length_append, List.length_cons, List.length_nil]
    omega
theorem splitB_join : ∀ (ls : List (List UInt8)), (∀ l ∈ ls, (10 : UInt8) ∉ l) → splitB 10 (joinN ls) = ls ++ [[]]
  | [], _ => rfl
  | l :: ls, h => by
    have e : joinN (l :: ls) = l ++ 10 :: joinN ls := by simp [joinN]
    rw [e, splitB_line _ l (h l List.mem_cons_self), splitB_join ls (fun x hx => h x (List.mem_cons_of_mem _ hx))]
    rfl
theorem parse_join (ls : List (List UInt8)) (h : ∀ l ∈ ls, (10 : UInt8) ∉ l) : parseL [] 0 (splitB 10 (joinN ls)) = parseL [] 0 ls := by
  rw [splitB_join ls h, parseL_append]
  cases parseL [] 0 ls with
  | error e => rfl
  | ok q => rfl
theorem parse_snoc (ls : List (List UInt8)) (l : List UInt8) : parseL [] 0 (ls ++ [l]) = (match parseL [] 0 ls with | .ok q => (match takeL q (wordsL l) with | .ok r => .ok r | .error e => .error (ls.length + 1, e)) | .error e => .error e) := by
  rw [parseL_append]
  cases parseL [] 0 ls with
  | error e => rfl
  | ok q =>
    simp only [Nat.zero_add, parseL]
    cases takeL q (wordsL l) <;> rfl
theorem parse_pos : ∀ (ls : List (List UInt8)) (p : List Core.Fn) (n : Nat) (e : Nat × Int), parseL p n ls = .error e → n < e.1 ∧ (e.2 = 3 ∨ e.2 = 4)
  | [], p, n, e, h => by cases h
  | l :: ls, p, n, e, h => by
    unfold parseL at h
    cases ht : takeL p (wordsL l) with
    | ok q =>
      rw [ht] at h
      have := parse_pos ls q (n + 1) e h
      exact ⟨by omega, this.2⟩
    | error c =>
      rw [ht] at h
      injection h with h
      subst h
      exact ⟨Nat.lt_succ_self _, take_err ht⟩
/-- What the lines up to here have told. -/
def StP (W : World) (base : Nat) (v : Value) (b c : Int) : Except (Nat × Int) (List Core.Fn) → Prop
  | .ok p => b = 0 ∧ c = 0 ∧ RT.PrgP W base v p
  | .error e => b = (e.1 : Nat) ∧ c = e.2
theorem StP.below {W W' : World} {base : Nat} {v : Value} {b c : Int} {r : Except (Nat × Int) (List Core.Fn)} (h : StP W base v b c r) (hb : Below W.heap.size W W') : StP W' base v b c r := by
  cases r with
  | ok p => exact ⟨h.1, h.2.1, h.2.2.below hb⟩
  | error e => exact h
theorem bx_app2 (a b : List UInt8) : bx a ++ (bx b ++ ⟨#[10]⟩) = bx (a ++ (b ++ [10])) := by
  rw [show (⟨#[10]⟩ : ByteArray) = bx [10] from rfl, bx_app, bx_app]
set_option maxRecDepth 100000 in
set_option maxHeartbeats 4000000 in
theorem walk_ls (w : World) (hT : TabA w) (A0 : Option Addr) (c0 : Nat) (ls : List (List UInt8)) (hr0 : Kd.C Kd.string w A0 ls.length (wB ls)) (hml : ∀ l ∈ ls, l.length ≤ 9223372036854775807) :
    Calls Tryd.prog 5 #[.slice A0 ls.length c0] w fun e w' => e = .returned (.bool true) ∧ Below w.heap.size w w' := by
  obtain ⟨n, hn⟩ : ∃ n, n = ls.length := ⟨_, rfl⟩
  have HCD : Hid (∀ j (h : j < n), ∃ ad, A0 = some ad ∧ w.cell? (ad.add j) = some (.string (bx (ls.getD j [])))) := by
    intro j h
    rw [show ls.length = (wB ls).length by simp] at hr0
    obtain ⟨ad, hA, hcell⟩ := (Kd.reads_of_C (enc := Value.string) (d := ByteArray.empty) (h1 := fun _ => rfl) hr0).2.2 (by simp; omega)
    refine ⟨ad, hA, ?_⟩
    have hj : j < ls.length := by omega
    have h := hcell j (by simpa using hj)
    have e : rdOf ByteArray.empty (wB ls) (j : Int) = bx (ls.getD j []) := by
      unfold rdOf
      simp only [Int.toNat_natCast, List.getD, List.getElem?_map, List.getElem?_eq_getElem hj, Option.map_some, Option.getD_some]
    rw [← e]
    simpa [rdOf] using h
  rw [← hn]
  have HN := Lib.hid hn
  have HML := Lib.hid hml
  have HT := Lib.hid hT
  by_cases h40 : n > 40
  · have h1 : (n : Int) > 40 := by omega
    have h2 : decide ((n : Int) > 40) = true := decide_eq_true h1
    clear hr0 hT hml hn
    go_enter Tryd.func5, Tryd.ntmps5
    go_wp2_with fail
    go_ret
    exact ⟨rfl, Below.refl _ _⟩
  · have h1 : ¬ (n : Int) > 40 := by omega
    have h2 : decide ((n : Int) > 40) = false := decide_eq_false h1
    have hn40 : n ≤ 40 := by omega
    clear hr0 hT hml hn
    go_enter Tryd.func5, Tryd.ntmps5
    go_wp2_with fail
    go_loopg [3, 4, 5, 6, 7] n (fun d v3 v4 v5 v6 v7 W => ∃ (q : Nat) (b c : Int), q + d = n ∧ v3 = .string (bx (joinN (ls.take q))) ∧ v5 = .int .i64 b ∧ v6 = .int .i64 c ∧ v7 = .int .i64 q ∧ Hid (Below w.heap.size w W) ∧ Hid (StP W w.heap.size v4 b c (parseL [] 0 (ls.take q))) ∧ Hid (∀ l ∈ ls.take q, l.length ≤ 60 ∧ (10 : UInt8) ∉ l))
    case atStart => exact ⟨0, 0, 0, by omega, rfl, rfl, rfl, rfl, Below.refl _ _, ⟨rfl, rfl, RT.PrgP.nil _ _⟩, fun l hl => by simp at hl⟩
    case round =>
      obtain ⟨q, b, c, hqd, rfl, rfl, rfl, rfl, hB, hSt, hAll⟩ := hrel
      have hq40 : q ≤ 40 := by omega
      by_cases hq : q < n
      · obtain ⟨ad, hA, hcell⟩ := HCD.out q hq
        subst hA
        obtain ⟨l, hl⟩ : ∃ l, ls[q]? = some l := ⟨ls[q]'(by have := HN.out; omega), List.getElem?_eq_getElem _⟩
        have hgd : ls.getD q [] = l := by rw [List.getD, hl]; rfl
        rw [hgd] at hcell
        have htk : ls.take (q + 1) = ls.take q ++ [l] := by rw [List.take_add_one, hl]; rfl
        have HTK := Lib.hid htk
        have hmem : l ∈ ls := List.mem_of_getElem? hl
        have hl4 := HML.out l hmem
        obtain ⟨L, hL⟩ : ∃ L, L = bx l := ⟨_, rfl⟩
        rw [← hL] at hcell
        have hcell1 := (hB.out.cell (World.block_lt_of_cell? w _ hcell)).trans hcell
        have hLs : L.size = l.length := by rw [hL, bx_size]
        obtain ⟨m, hm⟩ : ∃ m, m = l.length := ⟨_, rfl⟩
        have HM := Lib.hid hm
        have HLL := Lib.hid hL
        rw [← hm] at hLs
        have hq1 : (q : Int) < (n : Int) := by omega
        have hq2 : decide ((q : Int) < (n : Int)) = true := decide_eq_true hq1
        have hq0 : (0 : Int) ≤ (q : Int) := by omega
        have hqw : wrap64 ((q : Int) + 1) = ((q + 1 : Nat) : Int) := by unfold wrap64; omega
        have HQD := Lib.hid hqd
        have hbget : ∀ (j : Nat) (ch : UInt8) (hc : l[j]? = some ch) (h : j < L.size), L[j]'h = ch := fun j ch hc h => by subst hL; exact (List.getElem?_eq_some_iff.1 hc).2
        clear hgd htk hl hcell hL hm hqd
        by_cases h60 : m > 60
        · have g1 : (m : Int) > 60 := by omega
          have g2 : decide ((L.size : Int) > 60) = true := decide_eq_true (by omega)
          have g3 : (L.size : Int) > 60 := by omega
          clear hbget
          go_wp2_with fail
          go_ret
          exact ⟨rfl, hB.out⟩
        · have g2 : decide ((L.size : Int) > 60) = false := decide_eq_false (by omega)
          have g3 : ¬ (L.size : Int) > 60 := by omega
          have hm60 : m ≤ 60 := by omega
          have HBG := Lib.hid hbget
          clear hbget
          go_wp2_with fail
          go_loop [8] (fun i => ∃ j : Nat, i = .int .i64 j ∧ j ≤ m ∧ Hid ((10 : UInt8) ∉ l.take j)) (fun i => m - (intOf i).toNat)
          case atStart => exact ⟨0, rfl, Nat.zero_le _, by show _ ∉ _; simp⟩
          case round =>
            obtain ⟨j, rfl, hjm, hno⟩ := hrel
            by_cases hj : j < m
            · have j1 : (j : Int) < (L.size : Int) := by omega
              have j2 : decide ((j : Int) < (L.size : Int)) = true := decide_eq_true j1
              have j0 : (0 : Int) ≤ (j : Int) := by omega
              have jw : wrap64 ((j : Int) + 1) = ((j + 1 : Nat) : Int) := by unfold wrap64; omega
              obtain ⟨ch, hch⟩ : ∃ ch, l[j]? = some ch := ⟨l[j]'(by have := HM.out; omega), List.getElem?_eq_getElem _⟩
              have hgt : ∀ h : j < L.size, L[j]'h = ch := fun h => HBG.out j ch hch h
              have htk : l.take (j + 1) = l.take j ++ [ch] := by rw [List.take_add_one, hch]; rfl
              have HTK2 := Lib.hid htk
              clear hch htk
              by_cases h10 : ch = 10
              · subst h10
                go_wp2_with fail
                go_ret
                exact ⟨rfl, hB.out⟩
              · have h10b : (((ch.toNat : Nat) : Int) == 10) = false := by
                  rw [beq_eq_false_iff_ne]
                  intro h
                  exact h10 (UInt8.toNat_inj.1 (by show _ = 10; omega))
                go_wp2_with fail
                go_round
                case rel => exact ⟨j + 1, by go_num, by omega, by
                  show _ ∉ _
                  rw [HTK2.out, List.mem_append, List.mem_singleton]
                  intro h
                  rcases h with h | h
                  · exact hno.out h
                  · exact h10 h.symm⟩
                case measure => simp [intOf]; omega
            · have j1 : ¬ (j : Int) < (L.size : Int) := by omega
              have j2 : decide ((j : Int) < (L.size : Int)) = false := decide_eq_false j1
              have hno10 : (10 : UInt8) ∉ l := by
                have h := hno.out
                rwa [List.take_of_length_le (by have := HM.out; omega)] at h
              have HNO := Lib.hid hno10
              have HALL : Hid (∀ x ∈ ls.take (q + 1), x.length ≤ 60 ∧ (10 : UInt8) ∉ x) := fun x hx => by
                rw [HTK.out, List.mem_append, List.mem_singleton] at hx
                rcases hx with hx | rfl
                · exact hAll.out x hx
                · exact ⟨by have := HM.out; omega, hno10⟩
              obtain ⟨T, hTT⟩ : ∃ T, T = bx (joinN (ls.take q)) := ⟨_, rfl⟩
              have HTX : Hid (T ++ (L ++ ⟨#[10]⟩) = bx (joinN (ls.take (q + 1)))) := by
                show _ = _
                rw [hTT, HLL.out, bx_app2, HTK.out, joinN_snoc]
              have hTs : T.size ≤ 3000 := by
                rw [hTT, bx_size]
                have h1 := joinN_len (ls.take q) (fun x hx => (hAll.out x hx).1)
                have h2 : (ls.take q).length ≤ 40 := by rw [List.length_take]; omega
                omega
              rw [← hTT]
              have z1 : L.size + 1 ≤ 9223372036854775807 := by omega
              have z2 : T.size + (L.size + 1) ≤ 9223372036854775807 := by omega
              have HPS := Lib.hid (parse_snoc (ls.take q) l)
              have hlq : (ls.take q).length = q := by rw [List.length_take]; have := HN.out; omega
              rw [hlq] at HPS
              clear hTT hno hno10 hlq
              cases hpq : parseL [] 0 (ls.take q) with
              | error e =>
                rw [hpq] at hSt HPS
                obtain ⟨rfl, rfl⟩ := hSt.out
                have hpos := (parse_pos _ _ _ _ hpq).1
                have hbz : (((e.1 : Nat) : Int) == 0) = false := by rw [beq_eq_false_iff_ne]; omega
                clear hpq
                go_wp2_with fail
                go_roundg (n - (q + 1))
                case measure => exact step_lt HQD.out hq
                case rel => exact ⟨q + 1, _, _, step_eq hq, by rw [HTX.out], rfl, rfl, by go_num, hB.out, by show StP _ _ _ _ _ _; rw [← HTK.out] at HPS; rw [HPS.out]; exact ⟨rfl, rfl⟩, HALL.out⟩
              | ok p =>
                rw [hpq] at hSt HPS
                obtain ⟨rfl, rfl, hP⟩ := hSt.out
                have hfew := parse_few _ _ _ _ few_nil hpq
                have HTA := Lib.hid (RT.rtake_any l (by have := HM.out; omega) _ p _ w.heap.size hP hfew hB.out.size)
                rw [show (⟨l.toArray⟩ : ByteArray) = L from HLL.out.symm] at HTA
                clear hpq hfew hP
                go_wp2_with fail
                refine HTA.out.mono ?_
                intro e w2 hg
                cases htk : takeL p (wordsL l) with
                | error er =>
                  rw [htk] at hg HPS
                  obtain ⟨rfl, hTu⟩ := hg
                  have her := take_err htk
                  have hez : (er != 0) = true := by rw [bne_iff_ne]; rcases her with h | h <;> omega
                  have HB2 : Hid (Below w.heap.size w w2) := hB.out.trans hTu.1
                  clear her hTu htk
                  go_wp2_with fail
                  go_roundg (n - (q + 1))
                  case measure => exact step_lt HQD.out hq
                  case rel => exact ⟨q + 1, _, _, step_eq hq, by rw [HTX.out], rfl, rfl, by go_num, HB2.out, by show StP _ _ _ _ _ _; rw [← HTK.out] at HPS; rw [HPS.out]; exact ⟨by go_num, rfl⟩, HALL.out⟩
                | ok r =>
                  rw [htk] at hg HPS
                  obtain ⟨v', rfl, hP2, hTu⟩ := hg
                  have HB2 : Hid (Below w.heap.size w w2) := hB.out.trans hTu.1
                  have HP2 := Lib.hid hP2
                  clear hP2 hTu htk
                  go_wp2_with fail
                  go_roundg (n - (q + 1))
                  case measure => exact step_lt HQD.out hq
                  case rel => exact ⟨q + 1, _, _, step_eq hq, by rw [HTX.out], rfl, rfl, by go_num, HB2.out, by show StP _ _ _ _ _ _; rw [← HTK.out] at HPS; rw [HPS.out]; exact ⟨rfl, rfl, HP2.out⟩, HALL.out⟩
      · have hqn : q = n := by omega
        subst hqn
        have hfull : ls.take q = ls := List.take_of_length_le (by have := HN.out; omega)
        rw [hfull] at hSt hAll
        obtain ⟨T, hTT⟩ : ∃ T, T = bx (joinN (ls.take q)) := ⟨_, rfl⟩
        rw [← hTT]
        rw [hfull] at hTT
        have hlenT : (joinN ls).length ≤ 65536 := by
          have h1 := joinN_len ls (fun x hx => (hAll.out x hx).1)
          have := HN.out
          omega
        have HPA := Lib.hid (fun W hT' => parse_any (joinN ls) hlenT W hT')
        rw [parse_join ls (fun x hx => (hAll.out x hx).2)] at HPA
        rw [show (⟨(joinN ls).toArray⟩ : ByteArray) = T from hTT.symm] at HPA
        have HAW : Hid (∀ W, Below w.heap.size w W → Calls Tryd.prog 16 #[] W fun e w' => e = .returned (.bool true) ∧ Below W.heap.size W w') := fun W hb => awake4_any W (HT.out.below hb)
        have hnq : ¬ (q : Int) < (q : Int) := by omega
        have hnq2 : decide ((q : Int) < (q : Int)) = false := decide_eq_false hnq
        clear hTT hlenT hfull hqd
        go_wp2_with fail
        refine (HPA.out _ (HT.out.below hB.out)).mono ?_
        intro e w2 hg
        cases hpq : parseL [] 0 ls with
        | error er =>
          rw [hpq] at hg hSt
          obtain ⟨rfl, hb2⟩ := hg
          obtain ⟨rfl, rfl⟩ := hSt.out
          have hpos := (parse_pos _ _ _ _ hpq).1
          have hgt : ((er.1 : Nat) : Int) > 0 := by omega
          have hgt2 : decide (((er.1 : Nat) : Int) > 0) = true := decide_eq_true hgt
          have HB2 : Hid (Below w.heap.size w w2) := hB.out.trans (hb2.mono hB.out.size)
          clear hb2 hpq
          go_wp2_with fail
          refine (HAW.out _ HB2.out).mono ?_
          rintro _ w3 ⟨rfl, hb3⟩
          have HB3 : Hid (Below w.heap.size w w3) := HB2.out.trans (hb3.mono HB2.out.size)
          clear hb3
          go_wp2_with fail
          go_ret
          exact ⟨rfl, HB3.out⟩
        | ok p =>
          rw [hpq] at hg hSt
          obtain ⟨u, rfl, hP48, hb2⟩ := hg
          obtain ⟨rfl, rfl, hP67⟩ := hSt.out
          have hfew := parse_few _ _ _ _ few_nil hpq
          have HB2 : Hid (Below w.heap.size w w2) := hB.out.trans (hb2.mono hB.out.size)
          obtain ⟨A1, c1, rfl, hc1, hC1⟩ := S_C67 (hP67.below hb2)
          obtain ⟨A2, c2, rfl, hc2, hC2⟩ := S_C hP48
          rw [List.length_map] at hc1 hC1 hc2 hC2 ⊢
          rw [List.length_map]
          have HTO := Lib.hid (told_any p hfew A2 A1 c2 c1 w2 hC2 hc2 hC1 hc1)
          generalize p.length = pl at HTO ⊢
          clear hP48 hP67 hC1 hC2 hc1 hc2 hb2 hpq hfew
          go_wp2_with fail
          refine HTO.out.mono ?_
          rintro _ w3 ⟨rfl, hb3⟩
          have HB3 : Hid (Below w.heap.size w w3) := HB2.out.trans (hb3.mono HB2.out.size)
          clear hb3
          go_wp2_with fail
          refine (HAW.out _ HB3.out).mono ?_
          rintro _ w4 ⟨rfl, hb4⟩
          have HB4 : Hid (Below w.heap.size w w4) := HB3.out.trans (hb4.mono HB3.out.size)
          clear hb4
          go_wp2_with fail
          go_ret
          exact ⟨rfl, HB4.out⟩
theorem walk (w : World) (hT : TabA w) (A0 : Option Addr) (c0 : Nat) (l0 : List (ByteArray)) (hr0 : Kd.C Kd.string w A0 l0.length l0) (hc0 : l0.length ≤ c0) (w0 : (∀ e ∈ l0, e.size ≤ maxLen)) :
    Calls Tryd.prog 5 #[.slice A0 l0.length c0] w fun e w' => e = .returned (.bool true) ∧ Below w.heap.size w w' := by
  obtain ⟨ls, rfl⟩ : ∃ ls : List (List UInt8), l0 = wB ls := ⟨l0.map (fun b => b.data.toList), by
    show l0 = List.map _ (List.map _ l0)
    rw [List.map_map]
    exact (List.map_id'' (fun b => rfl) l0).symm⟩
  have e : (wB ls).length = ls.length := by simp
  rw [e] at hr0 hc0 ⊢
  exact walk_ls w hT A0 c0 ls hr0 (fun l hl => by
    have := w0 (bx l) (List.mem_map_of_mem hl)
    have h2 : (bx l).size = l.length := bx_size l
    unfold maxLen at this
    omega)
end Go.Proofs.YtcchoeomeklgmaaDoor.RAsmParses
