/- path.Compare, path.Under, path.Text: what they come to, where they are called. -/
import Derived.Test.YtcchoeomeklgmaaDoorC1
import Derived.Test.YtcchoeomeklgmaaDoorShelf
namespace Go.Proofs.YtcchoeomeklgmaaDoor.Core
open Go.RowKit Go.Proofs.YtcchoeomeklgmaaDoorW.PrintWords Go.Proofs.YtcchoeomeklgmaaDoorW.PrintMore Go.Proofs.YtcchoeomeklgmaaDoor.P1
set_option linter.unusedVariables false
set_option linter.unusedSimpArgs false
theorem info3c : (Tryd.prog.info? 3).map (fun i => (i.zero, i.size, i.bytes)) = some (some (.int .i64 0), 1, 8) := by kernel_rfl
theorem info9 : (Tryd.prog.info? 9).map (fun i => (i.zero, i.size, i.bytes)) = some (some (.string ByteArray.empty), 1, 16) := by kernel_rfl
theorem Compare_any (a b : List Int) (A0 A1 : Option Addr) (c0 c1 : Nat) (w : World) (h0 : (Kd.int .i64).C w A0 a.length a) (g0 : a.length ≤ c0) (h1 : (Kd.int .i64).C w A1 b.length b) (g1 : b.length ≤ c1) (ha : a.length ≤ 1000000) (hb : b.length ≤ 1000000) :
    Calls Tryd.prog 25 #[.slice A0 a.length c0, .slice A1 b.length c1] w fun e w' => e = .returned (.int .i64 (cmpL a b)) ∧ Drawn0 w w' :=
  path_Compare.calls _ A0 c0 a A1 c1 b _ w h0 g0 h1 g1 (compare_f a b ha hb)
/-- What strconv.Itoa comes to. -/
def Tells (w : World) (x : Int) : Prop := Calls Tryd.prog 23 #[.int .i64 x] w fun e w' => e = .returned (.string ⟨(Lib.itoa x).toArray⟩) ∧ Below w.heap.size w w'
theorem tells_small (w : World) (x : Int) (h0 : 0 ≤ x) (h1 : x < 100) : Tells w x := by
  obtain ⟨n, rfl⟩ := Int.eq_ofNat_of_zero_le h0
  refine (Tryd.strconv_Itoa_small n (by omega) w).mono ?_
  rintro e w' ⟨rfl, rfl⟩
  refine ⟨?_, Below.refl _ _⟩
  unfold Lib.itoa
  rw [if_neg (by omega), Int.toNat_natCast]
def txt (x : Int) : ByteArray := ⟨(Lib.itoa x).toArray⟩
set_option maxHeartbeats 2000000 in
set_option maxRecDepth 100000 in
theorem Text_any (l : List Int) (A : Option Addr) (c : Nat) (w : World) (hC : (Kd.int .i64).C w A l.length l) (hn : l.length ≤ 1000000) (hne : 0 < l.length) (hI : ∀ x ∈ l, ∀ w', Below w.heap.size w w' → Tells w' x)
    (hlen : (Lib.join (l.map Lib.itoa) [46]).length ≤ 140737488355328) :
    Calls Tryd.prog 11 #[.slice A l.length c] w fun e w' => e = .returned (.string ⟨(Lib.join (l.map Lib.itoa) [46]).toArray⟩) ∧ Below w.heap.size w w' := by
  have HC := Lib.hid hC
  have HI := Lib.hid hI
  have HL := Lib.hid hlen
  obtain ⟨n, hnn⟩ : ∃ n, n = l.length := ⟨_, rfl⟩
  have HN := Lib.hid hnn
  rw [← hnn] at hn hne ⊢
  have h0 : ((n : Int) == 0) = false := beq_eq_false_iff_ne.2 (by omega)
  clear hC hI hlen hnn
  go_enter Tryd.func11, Tryd.ntmps11
  go_wp2_with fail
  go_loopg [3, 11] n (fun k v3 v11 W => ∃ j : Nat, j + k = n ∧ v11 = .int .i64 j ∧ Hid (Kd.string.R 9 W w.heap.size (fun _ => True) v3 ((l.take j).map txt)) ∧ Hid (Below w.heap.size w W))
  case atStart => exact ⟨0, by omega, rfl, Kd.R_nil _ _ _ _ _, Below.refl _ _⟩
  case round =>
    obtain ⟨j, hjk, rfl, hR, hB⟩ := hrel
    have HJ := Lib.hid hjk
    clear hjk
    have hz := hB.out.size
    by_cases hlt : j < n
    · have hl : j < l.length := by have := HN.out; omega
      have hC0 := Kd.C_below HC.out hB.out
      obtain ⟨ad, hA, hcell⟩ := (Kd.reads_of_C (enc := Value.int .i64) (d := (0 : Int)) (h1 := fun _ => rfl) hC0).2.2 (by omega)
      have hc := hcell j hl
      subst hA
      have hx : l.getD j 0 ∈ l := by simp [List.getD, List.getElem?_eq_getElem hl]
      have htk : (l.take (j + 1)).map txt = (l.take j).map txt ++ [txt (l.getD j 0)] := by
        rw [List.take_succ_eq_append_getElem hl, List.map_append]
        simp [List.getD, List.getElem?_eq_getElem hl]
      generalize l.getD j 0 = x at *
      have HT : Hid (Tells wr x) := HI.out x hx wr hB.out
      have HTK := Lib.hid htk
      clear hC0 hcell hx htk
      go_wp2_with fail
      refine HT.out.mono ?_
      rintro e w1 ⟨rfl, hb1⟩
      have HB1 : Hid (Below w.heap.size w w1) := hB.out.trans (hb1.mono hz)
      have HR1 := Lib.hid (Kd.R_below hR.out hb1)
      have hz1 := HB1.out.size
      have hlj : ((l.take j).map txt).length = j := by rw [List.length_map, List.length_take]; omega
      have HLJ := Lib.hid hlj
      clear hb1 hR hB HT hc hlj
      go_wp2_with ((with_reducible refine gate_builtin (b := .append) (xs := #[.tmp 15, .tmp 18]) rfl ?_); at_builtin; refine Kd.R_append Kd.string (w0 := w) w.heap.size rfl (.tmp 15) (.tmp 18) 35 9 (.string ByteArray.empty) 16 rfl Tryd.underlying35 info9 rfl (by decide) (by omega) u3 ((l.take j).map txt) (txt x) [.string (txt x)] (fun _ => True) (fun _ => False) rfl rfl ?aP (fun _ hk => hk.elim) (fun _ _ => trivial) ?aO ?aB ?aS ?aL ?_; (case aP => exact rfl); (case aO => exact HR1.out); (case aB => exact HB1.out); (case aS => exact hz1); (case aL => rw [HLJ.out]; omega); intro v6 w6 hr6 hb6 hg6 _; have HR6 := Lib.hid hr6; have HB6 := Lib.hid hb6; clear hr6 hb6 hg6)
      go_roundg (n - (j + 1))
      case measure => have := HJ.out; omega
      case rel => exact ⟨j + 1, by omega, by go_num, by rw [HTK.out]; exact HR6.out, HB6.out⟩
    · obtain rfl : j = n := by have := HJ.out; omega
      have hR0 : Kd.string.R 9 wr w.heap.size (fun _ => True) u3 (l.map txt) := by
        have h := hR.out
        rwa [List.take_of_length_le (by have := HN.out; omega)] at h
      have hLL : (l.map txt).length = j := by rw [List.length_map, HN.out]
      obtain ⟨g, cap, rfl, hg1, hg2, _⟩ := Kd.R_form hR0 (by omega)
      have hC0 := (Kd.R_reads' hR0).2.2
      have hcl : ∀ (i : Nat) x, (l.map txt)[i]? = some x → wr.cell? ⟨g, 0 + i, none⟩ = some (.string x) := by
        intro i x hx
        obtain ⟨hl, hx⟩ := List.getElem?_eq_some_iff.1 hx
        obtain ⟨ad, e, hc⟩ := (Kd.reads_of_C (enc := Value.string) (d := ByteArray.empty) (h1 := fun _ => rfl) hC0).2.2 (by omega)
        injection e with e
        subst e
        have := hc i hl
        rw [List.getD_eq_getElem?_getD, List.getElem?_eq_getElem hl, hx] at this
        rw [Nat.zero_add]
        rw [add_plain] at this
        exact this
      have hcap := (Kd.R_reads' hR0).2.1
      have e0 : (l.map txt).map (·.data.toList) = l.map Lib.itoa := by rw [List.map_map]; rfl
      have hJ := Tryd.strings_Join g 0 cap (l.map txt) ⟨#[46]⟩ wr hcl hg2 (by omega) (by omega) (by rw [e0]; exact HL.out)
      rw [e0, hLL] at hJ
      have HJO := Lib.hid hJ
      rw [hLL]
      clear hR hR0 hLL hC0 hcl hcap e0 hJ
      go_wp2_with fail
      refine HJO.out.mono ?_
      rintro e w1 ⟨rfl, hb1⟩
      have HB1 : Hid (Below w.heap.size w w1) := hB.out.trans (hb1.mono hz)
      clear hb1 HJO
      go_wp2_with fail
      go_ret
      exact ⟨rfl, HB1.out⟩
end Go.Proofs.YtcchoeomeklgmaaDoor.Core
