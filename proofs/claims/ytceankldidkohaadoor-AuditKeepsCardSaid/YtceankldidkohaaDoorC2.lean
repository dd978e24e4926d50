/- audit.Sound: each event is its task's next one. -/
import Derived.Test.YtceankldidkohaaDoorC1
import Derived.Maps.Own
import Derived.Maps.OwnOps
import Derived.Maps.Views
namespace Go.Proofs.YtceankldidkohaaDoor.Core
open Go.RowKit Go.Maps Go.ChangeMaps Go.WideMaps Go.WideAt Go.Proofs.YtceankldidkohaaDoorW.PrintWords Go.Proofs.YtceankldidkohaaDoorW.PrintMore Go.Proofs.YtceankldidkohaaDoor.PAuditTwice
set_option linter.unusedVariables false
set_option linter.unusedSimpArgs false
theorem lit_inj {a b : Int} (h : (DataW.lit (.int .i64 a) : DataW Unit) = .lit (.int .i64 b)) : b = a := by
  injection h with h
  injection h with _ h
  exact h.symm
/-- How many events bear a name. -/
def cnt (l : List S28) (s : List UInt8) : Nat := l.countP fun e => nm e.f0 e.f2 == s
def sndL : List S28 → List S28 → Bool
  | _, [] => true
  | d, e :: r => if e.f1 = (cnt d (nm e.f0 e.f2) : Int) + 1 then sndL (d ++ [e]) r else false
theorem law9 : Keyed Tryd.prog 9 := string_keyed Tryd.underlying9
theorem zero3 (w : World) : (zeroValue 3).run Tryd.prog w = .ok (.int .i64 0) w := by kernel_rfl
/-- What an event may be. -/
structure Ev (e : S28) : Prop where
  job : In64 e.f0
  nth : In64 e.f1
  path : ∀ x ∈ e.f2, In64 x
  len : e.f2.length ≤ 1000
theorem cnt_le (l : List S28) (s : List UInt8) : cnt l s ≤ l.length := List.countP_le_length
theorem cnt_snoc (l : List S28) (e : S28) (s : List UInt8) : cnt (l ++ [e]) s = cnt l s + if nm e.f0 e.f2 == s then 1 else 0 := by
  unfold cnt
  rw [List.countP_append, List.countP_singleton]
/-- The map behind so many events. -/
structure Mp (W X : World) (d : List S28) : Prop where
  mp : ∃ D : DataW Unit, X.ownsMap Tryd.prog 9 (plainElem Tryd.prog 3) W.heap.size d.length D ∧ IsMap D ∧ ∀ s, D.atKey (.string s) (.lit (.int .i64 0)) = .lit (.int .i64 (cnt d s))
  below : Below W.heap.size W X
theorem Mp.keep {W X X' : World} {d : List S28} (h : Mp W X d) (hb : Below X.heap.size X X') : Mp W X' d := by
  obtain ⟨D, h1, h2, h3⟩ := h.mp
  exact ⟨⟨D, h1.kept (grown_of_below hb none) (by simp), h2, h3⟩, h.below.trans (hb.mono h.below.size)⟩
theorem Mp.start (W : World) : Mp W (W.alloc (.map #[] 0)) [] := ⟨⟨.map [], World.ownsMap_made _ _ _ _, ⟨[], rfl⟩, fun s => rfl⟩, (Below.refl _ _).alloc (Nat.le_refl _) _⟩
theorem Mp.put {W X' : World} {d : List S28} {e : S28} {D : DataW Unit} (h1 : IsMap D) (h2 : ∀ s, D.atKey (.string s) (.lit (.int .i64 0)) = .lit (.int .i64 (cnt d s)))
    (ho : X'.ownsMap Tryd.prog 9 (plainElem Tryd.prog 3) W.heap.size (d.length + 1) (D.put (.string (nm e.f0 e.f2)) (.lit (.int .i64 ((cnt d (nm e.f0 e.f2) : Int) + 1))))) (hb : Below W.heap.size W X') : Mp W X' (d ++ [e]) := by
  refine ⟨⟨_, by rw [List.length_append]; exact ho, ?_, fun s => ?_⟩, hb⟩
  · obtain ⟨es, rfl⟩ := h1
    exact ⟨_, rfl⟩
  · by_cases e1 : nm e.f0 e.f2 = s
    · subst e1
      rw [atKey_put_same h1 (by trivial), cnt_snoc]
      simp
    · rw [atKey_put_other (by intro h; injection h with h; exact e1 h.symm), h2 s, cnt_snoc]
      simp [e1]
set_option maxHeartbeats 4000000 in
set_option maxRecDepth 100000 in
theorem Sound_any {w0 W : World} (T : Tab w0) (hW : Below w0.heap.size w0 W) (l : List S28) (A : Option Addr) (c : Nat) (hC : Kd.C k28 W A l.length l) (hn : l.length ≤ 1000000) (hE : ∀ e ∈ l, Ev e) :
    Calls Tryd.prog 11 #[.slice A l.length c] W fun e W' => e = .returned (.bool (sndL [] l)) ∧ Below W.heap.size W W' := by
  have HC := Lib.hid hC
  have HE := Lib.hid hE
  have HW := Lib.hid hW
  have HT := Lib.hid T
  obtain ⟨n, hnn⟩ : ∃ n, n = l.length := ⟨_, rfl⟩
  have HN := Lib.hid hnn
  rw [← hnn] at hn ⊢
  have hz := hW.size
  have M0 := Lib.hid (Mp.start W)
  clear hC hW T hnn hE
  have hmm := @run_makeMap Tryd.prog
  go_enter Tryd.func11, Tryd.ntmps11
  go_wp2_with fail
  go_loopg [10] n (fun k v X => ∃ j : Nat, j + k = n ∧ v = .int .i64 j ∧ Hid (Mp W X (l.take j)) ∧ Hid (sndL (l.take j) (l.drop j) = sndL [] l))
  case atStart => exact ⟨0, by omega, rfl, M0, rfl⟩
  case round =>
    obtain ⟨j, hjk, rfl, hM, hS⟩ := hrel
    have HK := Lib.hid hjk
    clear hjk M0
    have hzB := hM.out.below.size
    by_cases hlt : j < n
    · have hl : j < l.length := by have := HN.out; omega
      obtain ⟨ad, A2, c2, hA, h0, h1, h2, l2, r2⟩ := at_T28 (Kd.C_below HC.out hM.out.below) (j : Int) (Int.natCast_nonneg j) (Int.ofNat_lt.2 hl)
      subst hA
      have hx : l[j]? = some (rd_T28 l j) := by simp [rd_T28, List.getD, List.getElem?_eq_getElem hl]
      have hEx := HE.out _ (List.mem_of_getElem? hx)
      generalize rd_T28 l j = x at *
      simp only [Int.toNat_natCast] at h0 h1 h2
      have HX := Lib.hid hx
      have HEX := Lib.hid hEx
      have R2 := Lib.hid r2
      clear hx hEx r2
      go_wp2_with fail
      have hbA : Below W.heap.size W (wr.alloc (.cells #[.int .i64 x.f0, .int .i64 x.f1, .slice A2 x.f2.length c2] 28)) := hM.out.below.alloc hzB _
      have hna := name_any HT.out (HW.out.trans (hbA.mono hz)) x.f0 HEX.out.job x.f2 HEX.out.path HEX.out.len A2 c2 (Kd.C_below R2.out ((Below.refl _ _).alloc (Nat.le_refl _) _))
      have HNA := Lib.hid hna
      have M1 : Hid (Mp W (wr.alloc (.cells #[.int .i64 x.f0, .int .i64 x.f1, .slice A2 x.f2.length c2] 28)) (l.take j)) := hM.out.keep ((Below.refl _ _).alloc (Nat.le_refl _) _)
      clear hna hbA
      refine HNA.out.mono ?_
      rintro e w2 ⟨rfl, hb2⟩
      have q1 : w2.cell? ⟨wr.heap.size, 1, none⟩ = some (.int .i64 x.f1) := by
        refine (hb2.cell (by simp)).trans ?_
        rw [World.cell?_alloc_new]
        rfl
      have M2 : Hid (Mp W w2 (l.take j)) := M1.out.keep hb2
      obtain ⟨D, hown, hD1, hD2⟩ := M2.out.mp
      have HD1 := Lib.hid hD1
      have HD2 := Lib.hid hD2
      have hlj : (l.take j).length = j := by rw [List.length_take]; omega
      have HLJ := Lib.hid hlj
      rw [hlj] at hown
      have hcn := cnt_le (l.take j) (nm x.f0 x.f2)
      rw [hlj] at hcn
      obtain ⟨s, hs⟩ : ∃ s, s = nm x.f0 x.f2 := ⟨_, rfl⟩
      have hsl : s.length ≤ 100000 := by have := nm_len HEX.out.job HEX.out.path; have := HEX.out.len; rw [hs]; omega
      obtain ⟨cn, hc⟩ : ∃ cn, cn = cnt (l.take j) s := ⟨_, rfl⟩
      have hat0 : Hid (D.atKey (.string s) (.lit (.int .i64 0)) = .lit (.int .i64 cn)) := by
        have := hD2 s
        rw [← hc] at this
        exact this
      rw [← hs] at hcn ⊢
      rw [← hc] at hcn
      have HS := Lib.hid hs
      have HCN := Lib.hid hc
      have hkey : keyOf Tryd.prog 9 (.string ⟨s.toArray⟩) = some (.string s) := by
        have := keyOf_string_mk (P := Tryd.prog) (k := 9) (s := ⟨s.toArray⟩) Tryd.underlying9 (by simp [maxLen, ByteArray.size]; omega)
        simpa using this
      have HKY := Lib.hid hkey
      have hbW := M2.out.below
      have HBW := Lib.hid hbW
      have hzw := hbW.size
      have HOWN := Lib.hid hown
      clear hD1 hD2 hlj hs hc hkey hb2 HNA M1 h0 h1 h2 hbW hown hM
      by_cases hq : x.f1 = (cn : Int) + 1
      · have hb0 : (x.f1 != (cn : Int) + 1) = false := by rw [hq]; simp
        have HQ := Lib.hid hq
        clear hq
        go_wp2_with (first
          | (at_lookup; refine wpList_lookup_own_int _ rfl _ _ 54 rfl 9 3 .i64 law9 Tryd.underlying54 Tryd.underlying3 (zero3 _) W.heap.size j _ rfl HOWN.out _ _ rfl HKY.out ?_; intro c9 hat hwc; obtain rfl : c9 = (cn : Int) := lit_inj (hat0.out.symm.trans hat); clear hat hwc)
          | (at_mapUpdate; refine wpList_mapUpdate_own _ rfl _ _ _ 54 rfl 9 3 law9 Tryd.underlying54 _ W.heap.size j _ rfl HOWN.out (by unfold maxLen; omega) _ _ _ rfl rfl HKY.out _ [] (plainElem_int Tryd.underlying3 (WalkArith.wf_i64 (by omega))) ?_; intro w3 hown3 hgrow3; have HOWN3 := Lib.hid hown3; have HG3 := Lib.hid hgrow3; clear hown3 hgrow3))
        have hd1 : l.take (j + 1) = l.take j ++ [x] := by
          obtain ⟨hl', hx⟩ := List.getElem?_eq_some_iff.1 HX.out
          rw [List.take_succ_eq_append_getElem hl', hx]
        have hd2 : l.drop j = x :: l.drop (j + 1) := by
          obtain ⟨hl', hx⟩ := List.getElem?_eq_some_iff.1 HX.out
          rw [List.drop_eq_getElem_cons hl', hx]
        go_roundg (n - (j + 1))
        case measure => have := HK.out; omega
        case rel =>
          refine ⟨j + 1, by omega, by go_num, ?_, ?_⟩
          · rw [hd1]
            refine Mp.put HD1.out HD2.out ?_ (HBW.out.grown HG3.out hzw (fun k hk => by injection hk with hk; omega))
            rw [HLJ.out, ← HS.out, ← HCN.out]
            exact HOWN3.out
          · show sndL (l.take (j + 1)) (l.drop (j + 1)) = _
            rw [← hS.out, hd2, hd1]
            show _ = if x.f1 = (cnt (l.take j) (nm x.f0 x.f2) : Int) + 1 then _ else _
            rw [if_pos (by rw [← HS.out, ← HCN.out]; exact HQ.out)]
      · have hb0 : (x.f1 != (cn : Int) + 1) = true := by simpa using hq
        have hfin : Hid (sndL [] l = false) := by
          have hd2 : l.drop j = x :: l.drop (j + 1) := by
            obtain ⟨hl', hx⟩ := List.getElem?_eq_some_iff.1 HX.out
            rw [List.drop_eq_getElem_cons hl', hx]
          show sndL [] l = false
          rw [← hS.out, hd2]
          show (if x.f1 = (cnt (l.take j) (nm x.f0 x.f2) : Int) + 1 then _ else _) = false
          rw [if_neg (by rw [← HS.out, ← HCN.out]; exact hq)]
        clear hq
        go_wp2_with (first
          | (at_lookup; refine wpList_lookup_own_int _ rfl _ _ 54 rfl 9 3 .i64 law9 Tryd.underlying54 Tryd.underlying3 (zero3 _) W.heap.size j _ rfl HOWN.out _ _ rfl HKY.out ?_; intro c9 hat hwc; obtain rfl : c9 = (cn : Int) := lit_inj (hat0.out.symm.trans hat); clear hat hwc))
        go_ret
        exact ⟨by rw [hfin.out]; rfl, HBW.out⟩
    · obtain rfl : j = n := by have := HK.out; omega
      have hfin : Hid (sndL [] l = true) := by
        have h := hS.out
        rw [List.drop_of_length_le (by have := HN.out; omega)] at h
        exact h.symm
      have HBW := Lib.hid hM.out.below
      go_wp2_with fail
      go_ret
      exact ⟨by rw [hfin.out]; rfl, HBW.out⟩
end Go.Proofs.YtceankldidkohaaDoor.Core
