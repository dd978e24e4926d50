/- ShellScripts returns true whatever its arguments are: the walk. -/
import Derived.Test.YtbiajfkencamiaaGreatDoorFF
import Derived.Test.YtbiajfkencamiaaGreatDoorOK
/-! ShellScriptsWalk -/
namespace Go.Proofs.YtbiajfkencamiaaGreatDoor.Core
open Go.RowKit
def TabB (w : World) : Prop := TabA w ∧ Tab w
theorem TabB.below {w w' : World} (h : TabB w) (hb : Below w.heap.size w w') : TabB w' := ⟨h.1.below hb, Tab.below h.2 hb⟩
end Go.Proofs.YtbiajfkencamiaaGreatDoor.Core
namespace Go.Proofs.YtbiajfkencamiaaGreatDoor.RShellScripts
open Go.RowKit Go.Shelf Go.Proofs.YtbiajfkencamiaaGreatDoorW.PrintWords Go.Proofs.YtbiajfkencamiaaGreatDoorW.PrintMore Go.Proofs.YtbiajfkencamiaaGreatDoor Go.Proofs.YtbiajfkencamiaaGreatDoor.Core Go.Proofs.YtbiajfkencamiaaGreatDoor.SH
open Go.Proofs.YtbiajfkencamiaaGreatDoor.EV (Upd Upd.set Upd.below Upd.trans Kq)
set_option linter.unusedVariables false
set_option linter.unusedSimpArgs false
theorem joinN_len : ∀ (ls : List (List UInt8)), (∀ l ∈ ls, l.length ≤ 80) → (joinN ls).length ≤ 81 * ls.length
  | [], _ => by simp [joinN]
  | l :: ls, h => by
    have h1 := h l List.mem_cons_self
    have h2 := joinN_len ls (fun x hx => h x (List.mem_cons_of_mem _ hx))
    have e : joinN (l :: ls) = l ++ [10] ++ joinN ls := by simp [joinN]
    rw [e]
    simp only [List.length_append, List.length_cons, List.length_nil]
    omega
theorem joinB_len (note : List UInt8) (hn : note.length ≤ 50) : ∀ (ls : List (List UInt8)), (∀ l ∈ ls, l.length ≤ 80) → (joinB note ls).length ≤ 200 * ls.length
  | [], _ => by simp [joinB, joinN]
  | l :: ls, h => by
    have h1 := h l List.mem_cons_self
    have h2 := joinB_len note hn ls (fun x hx => h x (List.mem_cons_of_mem _ hx))
    have e : joinB note (l :: ls) = ([35] ++ note ++ [10, 32, 9, 13, 10, 9] ++ l ++ [10]) ++ joinB note ls := by simp [joinB, joinN, noted]
    rw [e]
    simp only [List.length_append, List.length_cons, List.length_nil]
    omega
theorem tot_le : ∀ (ls : List (List UInt8)), (∀ l ∈ ls, l.length ≤ 80) → tot ls ≤ 80 * ls.length
  | [], _ => by simp [tot]
  | l :: ls, h => by
    have h1 := h l List.mem_cons_self
    have h2 := tot_le ls (fun x hx => h x (List.mem_cons_of_mem _ hx))
    simp only [tot, List.map_cons, List.sum_cons, List.length_cons] at h2 ⊢
    omega
theorem i_lt {j m s : Nat} (h : s = m) (hj : j < m) : (j : Int) < (s : Int) := by omega
theorem i_nlt {j m s : Nat} (h : s = m) (hj : ¬ j < m) : ¬ (j : Int) < (s : Int) := by omega
theorem i_0 (j : Nat) : (0 : Int) ≤ (j : Int) := by omega
theorem i_w {j m : Nat} (hj : j < m) (hm : m ≤ 80) : wrap64 ((j : Int) + 1) = ((j + 1 : Nat) : Int) := by unfold wrap64; omega
theorem n_lt {j m k : Nat} (h : m = k) (hj : j < m) : j < k := by omega
theorem n_le {j m k : Nat} (h : m = k) (hj : ¬ j < m) : k ≤ j := by omega
theorem n_80 {m k : Nat} (h : m = k) (hm : m ≤ 80) : k ≤ 80 := by omega
theorem i_m {j m : Nat} (hj : j < m) : m - (j + 1) < m - j := by omega
theorem u_eq {ch k : UInt8} (h : (ch.toNat : Int) = (k.toNat : Int)) : ch = k := UInt8.toNat_inj.1 (by omega)
theorem i_w5 {j m : Nat} (hj : j < m) (hm : m ≤ 100000) : wrap64 ((j : Int) + 1) = ((j + 1 : Nat) : Int) := by unfold wrap64; omega
/-- A row of bytes, the first of which are blanks. -/
def FillR (gm r i : Nat) (X : World) : Prop := ∃ cs : List Value, X.heap[gm]? = some (.cells cs.toArray 5 (0, 0)) ∧ cs.length = r ∧ ∀ j, j < i → cs[j]? = some (.int .u8 32)
theorem strOf_rep (r : Nat) : strOfNums (List.replicate r 32) = ⟨(List.replicate r (32 : UInt8)).toArray⟩ := by
  unfold strOfNums
  simp
def good (l : List UInt8) : Prop := l.length ≤ 80 ∧ (10 : UInt8) ∉ l ∧ (109 : UInt8) ∉ l
set_option maxRecDepth 100000 in
set_option maxHeartbeats 8000000 in
theorem walk_ls (w : World) (hT : TabB w) (A0 : Option Addr) (c0 : Nat) (ls : List (List UInt8)) (hr0 : Kd.C Kd.string w A0 ls.length (wB ls)) (hml : ∀ l ∈ ls, l.length ≤ 9223372036854775807) (note : List UInt8) (hnt : note.length ≤ 9223372036854775807) (a2 : Int) (ha0 : 0 ≤ a2) (ha1 : a2 < 4294967296) :
    Calls Tryz.prog 4 #[.slice A0 ls.length c0, .string ⟨note.toArray⟩, .int .u32 a2] w fun e w' => e = .returned (.bool true) ∧ Below w.heap.size w w' := by
  obtain ⟨n, hn⟩ : ∃ n, n = ls.length := ⟨_, rfl⟩
  have HCD : Hid (∀ j (h : j < n), ∃ ad, A0 = some ad ∧ w.cell? (ad.add j) = some (.string (bx (ls.getD j [])))) := by
    intro j h
    rw [show ls.length = (wB ls).length by simp] at hr0
    obtain ⟨ad, hA, hcell⟩ := (Kd.reads_of_C (enc := Value.string) (d := ByteArray.empty) (h1 := fun _ => rfl) hr0).2.2 (by simp; omega)
    refine ⟨ad, hA, ?_⟩
    have hj : j < ls.length := by omega
    have h := hcell j (by simpa using hj)
    have e : rdOf ByteArray.empty (wB ls) (j : Int) = bx (ls.getD j []) := by
      unfold rdOf
      simp only [Int.toNat_natCast, List.getD, List.getElem?_map, List.getElem?_eq_getElem hj, Option.map_some, Option.getD_some]
    rw [← e]
    simpa [rdOf] using h
  rw [← hn]
  have HN := Lib.hid hn
  have HML := Lib.hid hml
  have HT := Lib.hid hT
  obtain ⟨NT, hNT⟩ : ∃ NT : ByteArray, NT = ⟨note.toArray⟩ := ⟨_, rfl⟩
  rw [← hNT]
  obtain ⟨nn, hnn⟩ : ∃ nn, nn = note.length := ⟨_, rfl⟩
  have hNs : NT.size = nn := by rw [hNT, hnn]; simp [ByteArray.size]
  have hnget : ∀ (j : Nat) (ch : UInt8) (hc : note[j]? = some ch) (h : j < NT.size), NT[j]'h = ch := fun j ch hc h => by subst hNT; exact (List.getElem?_eq_some_iff.1 hc).2
  have HNG := Lib.hid hnget
  have HNT := Lib.hid hNT
  have HNN := Lib.hid hnn
  have HA2 := Lib.hid (And.intro ha0 ha1)
  by_cases h20 : n > 20
  · have h1 : (n : Int) > 20 := by omega
    have h2 : decide ((n : Int) > 20) = true := decide_eq_true h1
    clear hr0 hT hml hn hnt hNT hnn hnget ha0 ha1 hNs
    go_enter Tryz.func4, Tryz.ntmps4
    go_wp2_with fail
    go_ret
    exact ⟨rfl, Below.refl _ _⟩
  · have h1 : ¬ (n : Int) > 20 := by omega
    have h2 : decide ((n : Int) > 20) = false := decide_eq_false h1
    have hn20 : n ≤ 20 := by omega
    by_cases h50 : nn > 50
    · have h3 : (NT.size : Int) > 50 := by omega
      have h4 : decide ((NT.size : Int) > 50) = true := decide_eq_true h3
      clear hr0 hT hml hn hnt hNT hnn hnget ha0 ha1 hNs
      go_enter Tryz.func4, Tryz.ntmps4
      go_wp2_with fail
      go_ret
      exact ⟨rfl, Below.refl _ _⟩
    · have h3 : ¬ (NT.size : Int) > 50 := by omega
      have h4 : decide ((NT.size : Int) > 50) = false := decide_eq_false h3
      have hnn50 : nn ≤ 50 := by omega
      clear hr0 hT hml hn hnt hNT hnn hnget ha0 ha1
      go_enter Tryz.func4, Tryz.ntmps4
      go_wp2_with fail
      clear h1 h2 h3 h4
      go_loop [7] (fun i => ∃ j : Nat, i = .int .i64 j ∧ j ≤ nn ∧ Hid ((10 : UInt8) ∉ note.take j)) (fun i => nn - (intOf i).toNat)
      case atStart => exact ⟨0, rfl, Nat.zero_le _, by show _ ∉ _; simp⟩
      case round =>
        obtain ⟨j, rfl, hjm, hno⟩ := hrel
        by_cases hj : j < nn
        · have j1 : (j : Int) < (NT.size : Int) := by omega
          have j2 : decide ((j : Int) < (NT.size : Int)) = true := decide_eq_true j1
          have j0 : (0 : Int) ≤ (j : Int) := by omega
          have jw : wrap64 ((j : Int) + 1) = ((j + 1 : Nat) : Int) := by unfold wrap64; omega
          obtain ⟨ch, hch⟩ : ∃ ch, note[j]? = some ch := ⟨note[j]'(by have := HNN.out; omega), List.getElem?_eq_getElem _⟩
          have hgt : ∀ h : j < NT.size, NT[j]'h = ch := fun h => HNG.out j ch hch h
          have htk : note.take (j + 1) = note.take j ++ [ch] := by rw [List.take_add_one, hch]; rfl
          have HTK2 := Lib.hid htk
          clear hch htk
          by_cases h10 : ch = 10
          · subst h10
            go_wp2_with fail
            go_ret
            exact ⟨rfl, Below.refl _ _⟩
          · have h10b : (((ch.toNat : Nat) : Int) == 10) = false := by
              rw [beq_eq_false_iff_ne]
              intro h
              exact h10 (UInt8.toNat_inj.1 (by show _ = 10; omega))
            go_wp2_with fail
            go_round
            case rel => exact ⟨j + 1, by go_num, by omega, by
              show _ ∉ _
              rw [HTK2.out, List.mem_append, List.mem_singleton]
              intro h
              rcases h with h | h
              · exact hno.out h
              · exact h10 h.symm⟩
            case measure => simp [intOf]; omega
        · have j1 : ¬ (j : Int) < (NT.size : Int) := by omega
          have j2 : decide ((j : Int) < (NT.size : Int)) = false := decide_eq_false j1
          have HNO : Hid ((10 : UInt8) ∉ note) := by
            have h := hno.out
            rwa [List.take_of_length_le (by have := HNN.out; omega)] at h
          clear hno hjm hj
          go_wp2_with (refine (new_any _).mono ?_; rintro _ wx ⟨rfl, rfl⟩)
          have hs0 : ShW w.heap.size [] (w.alloc (.cells (shC []) 38)) := heap_alloc_new w (.cells (shC []) 38)
          have hb0 : Below w.heap.size w (w.alloc (.cells (shC []) 38)) := (Below.refl _ _).alloc (Nat.le_refl _) _
          have HST0 := Lib.hid (And.intro hs0 hb0)
          obtain ⟨gs, hgs⟩ : ∃ gs, gs = w.heap.size := ⟨_, rfl⟩
          rw [← hgs]
          have HGS := Lib.hid hgs
          clear hs0 hb0 hgs j1 j2
          go_loopg [9, 10, 11, 12] n (fun d v9 v10 v11 v12 X => ∃ (q : Nat) (TA TB TW : ByteArray), q + d = n ∧ v9 = .string TA ∧ v10 = .string TB ∧ v11 = .string TW ∧ v12 = .int .i64 (q : Int) ∧ Hid (TA = bx (joinN (ls.take q)) ∧ TB = bx (joinB note (ls.take q)) ∧ TW = bx (runS (ls.take q)).1) ∧ Hid (ShW gs (runS (ls.take q)).2 X ∧ Below w.heap.size w X) ∧ Hid (∀ l ∈ ls.take q, good l))
          case atStart => exact ⟨0, _, _, _, by omega, rfl, rfl, rfl, rfl, ⟨rfl, rfl, rfl⟩, by rw [HGS.out]; exact HST0.out, fun l hl => by simp at hl⟩
          case round =>
            clear HST0
            obtain ⟨q, TA, TB, TW, hqd, rfl, rfl, rfl, rfl, hTT, hS, hAll⟩ := hrel
            have hq20 : q ≤ 20 := by omega
            by_cases hq : q < n
            · obtain ⟨ad, hA, hcell⟩ := HCD.out q hq
              subst hA
              obtain ⟨l, hl⟩ : ∃ l, ls[q]? = some l := ⟨ls[q]'(by have := HN.out; omega), List.getElem?_eq_getElem _⟩
              have hgd : ls.getD q [] = l := by rw [List.getD, hl]; rfl
              rw [hgd] at hcell
              have htk : ls.take (q + 1) = ls.take q ++ [l] := by rw [List.take_add_one, hl]; rfl
              have HTK := Lib.hid htk
              have hmem : l ∈ ls := List.mem_of_getElem? hl
              clear hmem
              obtain ⟨L, hL⟩ : ∃ L, L = bx l := ⟨_, rfl⟩
              rw [← hL] at hcell
              have HLT := Lib.hid (World.block_lt_of_cell? w _ hcell)
              have hcell1 := (hS.out.2.cell (World.block_lt_of_cell? w _ hcell)).trans hcell
              have hLs : L.size = l.length := by rw [hL, Core.bx_size]
              obtain ⟨m, hm⟩ : ∃ m, m = l.length := ⟨_, rfl⟩
              have HM := Lib.hid hm
              have HLL := Lib.hid hL
              rw [← hm] at hLs
              have hq1 : (q : Int) < (n : Int) := by omega
              have hq2 : decide ((q : Int) < (n : Int)) = true := decide_eq_true hq1
              have hq0 : (0 : Int) ≤ (q : Int) := by omega
              have hqw : wrap64 ((q : Int) + 1) = ((q + 1 : Nat) : Int) := by unfold wrap64; omega
              have HQD := Lib.hid hqd
              have HBG := Lib.hid (fun (j : Nat) (ch : UInt8) (hc : l[j]? = some ch) (h : j < L.size) => show L[j]'h = ch by subst hL; exact (List.getElem?_eq_some_iff.1 hc).2)
              clear hgd htk hl hcell hL hm hqd
              by_cases h80 : m > 80
              · have g2 : decide ((L.size : Int) > 80) = true := decide_eq_true (by omega)
                have g3 : (L.size : Int) > 80 := by omega
                go_wp2_with fail
                go_ret
                exact ⟨rfl, hS.out.2⟩
              · have g2 : decide ((L.size : Int) > 80) = false := decide_eq_false (by omega)
                have g3 : ¬ (L.size : Int) > 80 := by omega
                have hm80 : m ≤ 80 := by omega
                go_wp2_with fail
                clear g2 g3
                go_loop [13] (fun i => ∃ j : Nat, i = .int .i64 j ∧ j ≤ m ∧ Hid ((10 : UInt8) ∉ l.take j ∧ (109 : UInt8) ∉ l.take j)) (fun i => m - (intOf i).toNat)
                case atStart => exact ⟨0, rfl, Nat.zero_le _, by show _ ∧ _; simp⟩
                case round =>
                  obtain ⟨j, rfl, hjm, hno⟩ := hrel
                  by_cases hj : j < m
                  · have j1 : (j : Int) < (L.size : Int) := i_lt hLs hj
                    have j2 : decide ((j : Int) < (L.size : Int)) = true := decide_eq_true j1
                    have j0 : (0 : Int) ≤ (j : Int) := i_0 j
                    have jw : wrap64 ((j : Int) + 1) = ((j + 1 : Nat) : Int) := i_w hj hm80
                    obtain ⟨ch, hch⟩ : ∃ ch, l[j]? = some ch := ⟨l[j]'(n_lt HM.out hj), List.getElem?_eq_getElem _⟩
                    have hgt : ∀ h : j < L.size, L[j]'h = ch := fun h => HBG.out j ch hch h
                    have htk : l.take (j + 1) = l.take j ++ [ch] := by rw [List.take_add_one, hch]; rfl
                    have HTK2 := Lib.hid htk
                    clear hch htk
                    by_cases h10 : ch = 10
                    · subst h10
                      go_wp2_with fail
                      go_ret
                      exact ⟨rfl, hS.out.2⟩
                    · have h10b : (((ch.toNat : Nat) : Int) == 10) = false := by
                        rw [beq_eq_false_iff_ne]
                        intro h
                        exact h10 (u_eq (k := 10) h)
                      by_cases h109 : ch = 109
                      · have h109b : (((ch.toNat : Nat) : Int) == 109) = true := by rw [h109]; rfl
                        go_wp2_with fail
                        go_ret
                        exact ⟨rfl, hS.out.2⟩
                      · have h109b : (((ch.toNat : Nat) : Int) == 109) = false := by
                          rw [beq_eq_false_iff_ne]
                          intro h
                          exact h109 (u_eq (k := 109) h)
                        go_wp2_with fail
                        go_round
                        case rel => exact ⟨j + 1, by go_num, hj, by
                          show _ ∧ _
                          rw [HTK2.out, List.mem_append, List.mem_singleton, List.mem_append, List.mem_singleton]
                          refine ⟨?_, ?_⟩
                          · intro h
                            rcases h with h | h
                            · exact hno.out.1 h
                            · exact h10 h.symm
                          · intro h
                            rcases h with h | h
                            · exact hno.out.2 h
                            · exact h109 h.symm⟩
                        case measure => simp only [intOf, jw, Int.toNat_natCast]; exact i_m hj
                  · have j1 : ¬ (j : Int) < (L.size : Int) := i_nlt hLs hj
                    have j2 : decide ((j : Int) < (L.size : Int)) = false := decide_eq_false j1
                    have HGL : Hid (good l) := by
                      have h := hno.out
                      rw [List.take_of_length_le (n_le HM.out hj)] at h
                      exact ⟨n_80 HM.out hm80, h.1, h.2⟩
                    have HALL : Hid (∀ x ∈ ls.take (q + 1), good x) := fun x hx => by
                      rw [HTK.out, List.mem_append, List.mem_singleton] at hx
                      rcases hx with hx | rfl
                      · exact hAll.out x hx
                      · exact HGL.out
                    have hlq : (ls.take q).length = q := by rw [List.length_take]; have := HN.out; omega
                    have hrl := runS_lens (ls.take q)
                    have hTl : (runS (ls.take q)).2.length ≤ 65536 := by
                      have h1 : tot (ls.take q) ≤ 80 * (ls.take q).length := tot_le _ (fun x hx => (hAll.out x hx).1)
                      omega
                    have hbw := hS.out.2
                    have HLN := Lib.hid (line_any (gs := gs) l hS.out.1 HGL.out.2.1 (by have := HGL.out.1; omega) hTl (HT.out.below hbw).1 (HT.out.below hbw).2 (light_of l HGL.out.2.2))
                    have hol := lineF_len (runS (ls.take q)).2 l
                    have hst : runS (ls.take (q + 1)) = ((runS (ls.take q)).1 ++ (lineF (runS (ls.take q)).2 l).1, (lineF (runS (ls.take q)).2 l).2) := by rw [HTK.out]; exact runS_snoc _ _
                    have HST := Lib.hid hst
                    obtain ⟨ln, hln⟩ : ∃ ln, lineF (runS (ls.take q)).2 l = ln := ⟨_, rfl⟩
                    rw [hln] at HLN hol HST
                    rw [show (⟨l.toArray⟩ : ByteArray) = L from HLL.out.symm] at HLN
                    obtain ⟨OB, hOB⟩ : ∃ OB : ByteArray, OB = ⟨ln.1.toArray⟩ := ⟨_, rfl⟩
                    have hOs : OB.size ≤ 500000 := by rw [hOB, SH.bx_size]; exact hol
                    have hWs : TW.size ≤ 10000000 := by rw [hTT.out.2.2, Core.bx_size]; omega
                    have hAs : TA.size ≤ 10000 := by
                      rw [hTT.out.1, Core.bx_size]
                      have h1 := joinN_len (ls.take q) (fun x hx => (hAll.out x hx).1)
                      omega
                    have hBs : TB.size ≤ 10000 := by
                      rw [hTT.out.2.1, Core.bx_size]
                      have h1 := joinB_len note (by have := HNN.out; omega) (ls.take q) (fun x hx => (hAll.out x hx).1)
                      omega
                    have HLN2 : Hid (Calls Tryz.prog 6 #[.pointer (some ⟨gs, 0, none⟩), .string L] wr fun e w9 => e = .returned (.string OB) ∧ ShW gs ln.2 w9 ∧ Upd gs wr w9) := HLN.out.mono fun e w9 h => by
                      obtain ⟨h1, h2⟩ := h
                      rw [hOB]
                      exact ⟨h1, h2⟩
                    have z0 : TW.size + OB.size ≤ 9223372036854775807 := by omega
                    have z1 : L.size ≤ 9223372036854775806 := by omega
                    have z2 : TA.size + (L.size + 1) ≤ 9223372036854775807 := by omega
                    have HOB := Lib.hid hOB
                    clear hno hjm hj hlq hrl hTl hbw hol hst hln hOB HLN hOs hWs
                    go_wp2_with fail
                    refine HLN2.out.mono ?_
                    rintro _ w9 ⟨rfl, hs9, hu9⟩
                    have hb9 : Below w.heap.size wr w9 := hu9.low _ (by rw [HGS.out]; exact Nat.le_refl _) hS.out.2.size
                    have hcell9 := (hb9.cell HLT.out).trans hcell1
                    have HS9 := Lib.hid (And.intro hs9 (hS.out.2.trans hb9))
                    clear hs9 hu9 hb9 hcell1 j1 j2
                    go_wp2_with fail
                    go_roundg (n - (q + 1))
                    case measure => exact step_lt HQD.out hq
                    case rel =>
                      refine ⟨q + 1, _, _, _, step_eq hq, rfl, rfl, rfl, by go_num, ⟨?_, ?_, ?_⟩, ?_, HALL.out⟩
                      · rw [hTT.out.1, HLL.out, HTK.out, joinN_snoc, show (bx l ++ (⟨#[10]⟩ : ByteArray)) = bx (l ++ [10]) from bx_app _ _]
                        exact bx_app _ _
                      · rw [hTT.out.2.1, HNT.out, HLL.out, HTK.out, joinB_snoc, show ((⟨#[35]⟩ : ByteArray) ++ ⟨note.toArray⟩) = bx ([35] ++ note) from bx_app _ _, show (bx ([35] ++ note) ++ (⟨#[10, 32, 9, 13, 10, 9]⟩ : ByteArray)) = bx ([35] ++ note ++ [10, 32, 9, 13, 10, 9]) from bx_app _ _, show (bx ([35] ++ note ++ [10, 32, 9, 13, 10, 9]) ++ bx l) = bx ([35] ++ note ++ [10, 32, 9, 13, 10, 9] ++ l) from bx_app _ _, show (bx ([35] ++ note ++ [10, 32, 9, 13, 10, 9] ++ l) ++ (⟨#[10]⟩ : ByteArray)) = bx ([35] ++ note ++ [10, 32, 9, 13, 10, 9] ++ l ++ [10]) from bx_app _ _]
                        exact bx_app _ _
                      · rw [hTT.out.2.2, HOB.out, HST.out]
                        exact bx_app _ _
                      · rw [HST.out]
                        exact HS9.out
            · obtain rfl : q = n := by omega
              have hq1 : ¬ (q : Int) < (q : Int) := by omega
              have hq2 : decide ((q : Int) < (q : Int)) = false := decide_eq_false hq1
              have hfull : ls.take q = ls := List.take_of_length_le (by have := HN.out; omega)
              rw [hfull] at hTT hS hAll
              have hlA : (joinN ls).length ≤ 65536 := by
                have h1 := joinN_len ls (fun x hx => (hAll.out x hx).1)
                have h2 := HN.out
                omega
              have hlB : (joinB note ls).length ≤ 65536 := by
                have h1 := joinB_len note (by have := HNN.out; omega) ls (fun x hx => (hAll.out x hx).1)
                have h2 := HN.out
                omega
              have hno : ∀ l ∈ ls, (10 : UInt8) ∉ l := fun l hl => (hAll.out l hl).2.1
              have hla := light_a (ls := ls) (fun l hl => (hAll.out l hl).2)
              have hlb := light_b (note := note) HNO.out (ls := ls) (fun l hl => (hAll.out l hl).2)
              have HRA : Hid (∀ X, Below w.heap.size w X → Calls Tryz.prog 8 #[.string TA] X fun e w' => e = .returned (.tuple #[.string TW, .int .i64 0]) ∧ Below X.heap.size X w') := fun X hX => by
                have h := run_any (joinN ls) hlA hla X (HT.out.below hX).1 (HT.out.below hX).2
                rw [run_a ls hno] at h
                rw [hTT.out.1, hTT.out.2.2]
                exact h
              have HRB : Hid (∀ X, Below w.heap.size w X → Calls Tryz.prog 8 #[.string TB] X fun e w' => e = .returned (.tuple #[.string TW, .int .i64 0]) ∧ Below X.heap.size X w') := fun X hX => by
                have h := run_any (joinB note ls) hlB hlb X (HT.out.below hX).1 (HT.out.below hX).2
                rw [run_b note HNO.out ls hno] at h
                rw [hTT.out.2.1, hTT.out.2.2]
                exact h
              have HAW : Hid (∀ X, Below w.heap.size w X → Calls Tryz.prog 7 #[] X fun e w' => e = .returned (.bool true) ∧ Below X.heap.size X w') := fun X hX => awake_any X (HT.out.below hX).1 (HT.out.below hX).2
              have HBW := Lib.hid hS.out.2
              have hwz := hS.out.2.size
              have HWZ := Lib.hid hwz
              clear hfull hlA hlB hno hla hlb hqd hq hAll hS hTT hwz
              go_wp2_with fail
              refine (HRA.out _ HBW.out).mono ?_
              rintro _ wa ⟨rfl, hba⟩
              have HBA : Hid (Below w.heap.size w wa) := HBW.out.trans (hba.mono HWZ.out)
              have HZA : Hid (w.heap.size ≤ wa.heap.size) := HBA.out.size
              clear hba hq1 hq2
              go_wp2_with fail
              refine (HRB.out _ HBA.out).mono ?_
              rintro _ wb ⟨rfl, hbb⟩
              have HBB : Hid (Below w.heap.size w wb) := HBA.out.trans (hbb.mono HZA.out)
              have HZB : Hid (w.heap.size ≤ wb.heap.size) := HBB.out.size
              clear hbb
              obtain ⟨k, hk⟩ := Int.eq_ofNat_of_zero_le HA2.out.1
              subst hk
              have hk2 : (k : Int) < 4294967296 := HA2.out.2
              obtain ⟨r, hr⟩ : ∃ r : Nat, r = k % 100000 := ⟨_, rfl⟩
              have hrm : (k : Int) % 100000 = (r : Int) := by omega
              have hr5 : r ≤ 100000 := by omega
              have HR5 := Lib.hid hr5
              have hk0 : (0 : Int) ≤ (k : Int) := by omega
              have hmk := print_make 32 5 .u8 1 Tryz.underlying32 infoB (by decide) r (by omega)
              clear hr hr5
              go_wp2_with fail
              rw [hrm]
              obtain ⟨gm, hgm⟩ : ∃ gm, gm = wb.heap.size := ⟨_, rfl⟩
              rw [← hgm]
              have HF0 : Hid (FillR gm r 0 (wb.alloc (.cells (madeCells #[.int .u8 0] r) 5)) ∧ Below w.heap.size w (wb.alloc (.cells (madeCells #[.int .u8 0] r) 5))) := by
                refine ⟨⟨(madeCells #[.int .u8 0] r).toList, ?_, by rw [Array.length_toList, size_madeCells], fun j hj => absurd hj (Nat.not_lt_zero _)⟩, HBB.out.alloc HZB.out _⟩
                rw [hgm]
                exact heap_alloc_new _ _
              have HGM : Hid (w.heap.size ≤ gm) := by rw [hgm]; exact HZB.out
              clear hmk hk0 hk2 hrm hgm
              go_loopg [20] r (fun d v X => ∃ i : Nat, i + d = r ∧ v = .int .i64 (i : Int) ∧ Hid (FillR gm r i X ∧ Below w.heap.size w X))
              case atStart => exact ⟨0, by omega, rfl, HF0.out⟩
              case round =>
                clear HF0
                obtain ⟨i, hid, rfl, hF⟩ := hrel
                obtain ⟨cs, hcs, hcl, hcv⟩ := hF.out.1
                by_cases hi : i < r
                · have i0 : (0 : Int) ≤ (i : Int) := i_0 i
                  have i1 : (i : Int) < (r : Int) := i_lt rfl hi
                  have i2 : decide ((i : Int) < (r : Int)) = true := decide_eq_true i1
                  have iw : wrap64 ((i : Int) + 1) = ((i + 1 : Nat) : Int) := i_w5 hi HR5.out
                  obtain ⟨u, hu⟩ : ∃ u, cs[i]? = some u := ⟨_, List.getElem?_eq_getElem (by rw [hcl]; exact hi)⟩
                  have cx : wr.cell? ⟨gm, i, none⟩ = some u := (blk_cell hcs i).trans (by simpa using hu)
                  have zx := blk_frozen hcs i
                  have HN1 : Hid (FillR gm r (i + 1) (wr.setCell ⟨gm, i, none⟩ (.int .u8 32)) ∧ Below w.heap.size w (wr.setCell ⟨gm, i, none⟩ (.int .u8 32))) := by
                    refine ⟨⟨cs.set i (.int .u8 32), ?_, by rw [List.length_set, hcl], fun j hj => ?_⟩, hF.out.2.setCell (p := ⟨gm, i, none⟩) HGM.out _⟩
                    · rw [blk_set hcs i, List.setIfInBounds_toArray]
                    · by_cases hji : i = j
                      · subst hji
                        exact List.getElem?_set_self (by rw [hcl]; exact hi)
                      · rw [List.getElem?_set_ne hji]
                        exact hcv j (by omega)
                  have HI := Lib.hid (And.intro hi hid)
                  clear hcs hcl hcv hu hi hid
                  go_wp2_with fail
                  go_roundg (r - (i + 1))
                  case measure => exact step_lt HI.out.2 HI.out.1
                  case rel => exact ⟨i + 1, step_eq HI.out.1, by go_num, HN1.out⟩
                · have i1 : ¬ (i : Int) < (r : Int) := i_nlt rfl hi
                  have i2 : decide ((i : Int) < (r : Int)) = false := decide_eq_false i1
                  obtain rfl : i = r := by omega
                  have hcv2 := run_convert_bytes_arg (P := Tryz.prog) wr 32 5 Tryz.underlying32 Tryz.underlying5 gm 0 i i (List.replicate i 32) (by simp) (fun j hj => by
                    rw [Nat.zero_add, blk_cell hcs j, List.getElem?_toArray, hcv j hj]
                    congr 1
                    rw [List.getD_eq_getElem?_getD, List.getElem?_replicate, if_pos hj]
                    rfl) 9 Tryz.underlying9
                  rw [strOf_rep] at hcv2
                  obtain ⟨BL, hBL⟩ : ∃ BL : ByteArray, BL = ⟨(List.replicate i (32 : UInt8)).toArray⟩ := ⟨_, rfl⟩
                  rw [← hBL] at hcv2
                  have hbe : (TW.toList == TW.toList) = true := by simp
                  have HBF := Lib.hid hF.out.2
                  by_cases h6 : 65536 < i
                  · have HRC : Hid (∀ X, Calls Tryz.prog 8 #[.string BL] X fun e w' => e = .returned (.tuple #[.string ⟨#[]⟩, .int .i64 3]) ∧ X = w') := fun X => by
                      rw [hBL]
                      exact run_long _ (by rw [List.length_replicate]; exact h6) X
                    have h7 : (65536 : Int) < (i : Int) := by omega
                    have h8 : decide ((i : Int) > 65536) = true := decide_eq_true h7
                    clear hcs hcl hcv hid hF hBL
                    go_wp2_with fail
                    refine (HRC.out _).mono ?_
                    rintro _ wc ⟨rfl, hwc⟩
                    obtain rfl := hwc
                    go_wp2_with fail
                    refine (HAW.out _ HBF.out).mono ?_
                    rintro _ wd ⟨rfl, hbd⟩
                    have HBD : Hid (Below w.heap.size w wd) := HBF.out.trans (hbd.mono HBF.out.size)
                    clear hbd
                    go_wp2_with fail
                    go_ret
                    exact ⟨rfl, HBD.out⟩
                  · have HRC : Hid (∀ X, Below w.heap.size w X → Calls Tryz.prog 8 #[.string BL] X fun e w' => e = .returned (.tuple #[.string ⟨#[]⟩, .int .i64 0]) ∧ Below X.heap.size X w') := fun X hX => by
                      have h := run_any (List.replicate i 32) (by rw [List.length_replicate]; omega) (light_rep i) X (HT.out.below hX).1 (HT.out.below hX).2
                      rw [run_rep i] at h
                      rw [hBL]
                      exact h
                    have h7 : ¬ (65536 : Int) < (i : Int) := by omega
                    have h8 : decide ((i : Int) > 65536) = false := decide_eq_false h7
                    clear hcs hcl hcv hid hF hBL
                    go_wp2_with fail
                    refine (HRC.out _ HBF.out).mono ?_
                    rintro _ wc ⟨rfl, hbc⟩
                    have HBC : Hid (Below w.heap.size w wc) := HBF.out.trans (hbc.mono HBF.out.size)
                    clear hbc
                    go_wp2_with fail
                    refine (HAW.out _ HBC.out).mono ?_
                    rintro _ wd ⟨rfl, hbd⟩
                    have HBD : Hid (Below w.heap.size w wd) := HBC.out.trans (hbd.mono HBC.out.size)
                    clear hbd
                    go_wp2_with fail
                    go_ret
                    exact ⟨rfl, HBD.out⟩
theorem walk (w : World) (hT : TabB w) (A0 : Option Addr) (c0 : Nat) (l0 : List (ByteArray)) (hr0 : Kd.C Kd.string w A0 l0.length l0) (hc0 : l0.length ≤ c0) (w0 : (∀ e ∈ l0, e.size ≤ maxLen)) (a1 : ByteArray) (w1 : a1.size ≤ maxLen) (a2 : Int) (w2 : (Lit.int .u32 a2).wf = true) :
    Calls Tryz.prog 4 #[.slice A0 l0.length c0, .string a1, .int .u32 a2] w fun e w' => e = .returned (.bool true) ∧ Below w.heap.size w w' := by
  obtain ⟨ls, rfl⟩ : ∃ ls : List (List UInt8), l0 = wB ls := ⟨l0.map (fun b => b.data.toList), by
    show l0 = List.map _ (List.map _ l0)
    rw [List.map_map]
    exact ((List.map_congr_left (fun x _ => by simp)).trans (List.map_id _)).symm⟩
  have hl : (wB ls).length = ls.length := by simp
  rw [hl] at hr0 ⊢
  have e1 : a1 = ⟨a1.data.toList.toArray⟩ := by simp
  have hmin : IntKind.u32.min = 0 := rfl
  have hmax : IntKind.u32.max = 4294967295 := rfl
  simp only [Lit.wf, Bool.and_eq_true, decide_eq_true_eq, hmin, hmax] at w2
  rw [e1]
  refine walk_ls w hT A0 c0 ls hr0 (fun l hl => ?_) a1.data.toList ?_ a2 (by omega) (by omega)
  · have := w0 (bx l) (List.mem_map.2 ⟨l, hl, rfl⟩)
    rw [Core.bx_size] at this
    unfold maxLen at this
    exact this
  · have h : a1.data.toList.length = a1.size := Array.length_toList
    unfold maxLen at w1
    rw [h]
    exact w1
end Go.Proofs.YtbiajfkencamiaaGreatDoor.RShellScripts
