/- The walk of haymowlaw05.PathOrders: it returns true and turns nothing that was there, for every argument that can be read. -/
import Derived.Test.YtakkfilcecegeaaDoorC3
import Derived.Test.YtakkfilcecegeaaDoorPathOrdersK
namespace Go.Proofs.YtakkfilcecegeaaDoor.RPathOrders
open Go.RowKit Go.Proofs.YtakkfilcecegeaaDoorW.PrintWords Go.Proofs.YtakkfilcecegeaaDoorW.PrintMore Go.Proofs.YtakkfilcecegeaaDoor.P1 Go.Proofs.YtakkfilcecegeaaDoor.Core
set_option linter.unusedVariables false
set_option linter.unusedSimpArgs false
set_option maxHeartbeats 1000000 in
theorem walk_long (w : World) (A0 A1 : Option Addr) (c0 c1 n0 n1 : Nat) (h : 100 < n0 ∨ 100 < n1) :
    Calls Tryd.prog 4 #[.slice A0 n0 c0, .slice A1 n1 c1] w fun e w' => e = .returned (.bool true) ∧ Below w.heap.size w w' := by
  by_cases h0 : 100 < n0
  · have d0 : (decide ((n0 : Int) > 100)) = true := by simp; omega
    go_enter Tryd.func4, Tryd.ntmps4
    go_wp2
    go_ret
    exact ⟨rfl, Below.refl _ _⟩
  · have d0 : (decide ((n0 : Int) > 100)) = false := by simp; omega
    have d1 : (decide ((n1 : Int) > 100)) = true := by simp; omega
    clear h
    go_enter Tryd.func4, Tryd.ntmps4
    go_wp2
    go_ret
    exact ⟨rfl, Below.refl _ _⟩
set_option maxHeartbeats 2000000 in
theorem walk_short (w : World) (A0 : Option Addr) (c0 : Nat) (a : List Int) (h0 : (Kd.int .i64).C w A0 a.length a) (g0 : a.length ≤ c0) (A1 : Option Addr) (c1 : Nat) (b : List Int) (h1 : (Kd.int .i64).C w A1 b.length b) (g1 : b.length ≤ c1) (ha : a.length ≤ 100) (hb : b.length ≤ 100) :
    Calls Tryd.prog 4 #[.slice A0 a.length c0, .slice A1 b.length c1] w fun e w' => e = .returned (.bool true) ∧ Below w.heap.size w w' := by
  have H1 := Lib.hid (Compare_any a b A0 A1 c0 c1 w h0 g0 h1 g1 (by omega) (by omega))
  have H2 : Hid (∀ w', Drawn0 w w' → Calls Tryd.prog 9 #[.slice A0 a.length c0, .slice A1 b.length c1] w' fun e w' => e = .returned (.int .i64 (cmpL a b)) ∧ Drawn0 w w') := fun w' hd =>
    (haymowref05_Compare.calls _ A0 c0 a A1 c1 b _ w' (Kd.C_below h0 hd.below) g0 (Kd.C_below h1 hd.below) g1 (rcompare_f a b (by omega) (by omega))).mono (by rintro e w2 ⟨rfl, ⟨n, rfl⟩⟩; exact ⟨rfl, hd.step n⟩)
  have H3 : Hid (∀ w', Drawn0 w w' → Calls Tryd.prog 10 #[.slice A0 a.length c0, .slice A1 b.length c1] w' fun e w' => e = .returned (.bool (undL a b)) ∧ Drawn0 w w') := fun w' hd =>
    (Under_any a b A0 A1 c0 c1 w' (Kd.C_below h0 hd.below) g0 (Kd.C_below h1 hd.below) g1 (by omega) (by omega)).mono (by rintro e w2 ⟨rfl, ⟨n, rfl⟩⟩; exact ⟨rfl, hd.step n⟩)
  have H4 : Hid (∀ w', Drawn0 w w' → Calls Tryd.prog 11 #[.slice A0 a.length c0, .slice A1 b.length c1] w' fun e w' => e = .returned (.bool (undL a b)) ∧ Drawn0 w w') := fun w' hd =>
    (haymowref05_Under.calls _ A0 c0 a A1 c1 b _ w' (Kd.C_below h0 hd.below) g0 (Kd.C_below h1 hd.below) g1 (runder_f a b (by omega))).mono (by rintro e w2 ⟨rfl, ⟨n, rfl⟩⟩; exact ⟨rfl, hd.step n⟩)
  have d0 : (decide ((a.length : Int) > 100)) = false := by simp; omega
  have d1 : (decide ((b.length : Int) > 100)) = false := by simp; omega
  clear h0 h1
  generalize a.length = na at *
  generalize b.length = nb at *
  generalize cmpL a b = r at *
  generalize undL a b = q at *
  go_enter Tryd.func4, Tryd.ntmps4
  go_wp2_with fail
  refine H1.out.mono ?_
  rintro e w1 ⟨rfl, hd⟩
  have D1 := Lib.hid hd
  clear hd
  go_wp2_with fail
  refine (H2.out w1 D1.out).mono ?_
  rintro e w2 ⟨rfl, hd⟩
  have D2 := Lib.hid hd
  clear hd
  go_wp2_with fail
  refine (H3.out w2 D2.out).mono ?_
  rintro e w3 ⟨rfl, hd⟩
  have D3 := Lib.hid hd
  clear hd
  go_wp2_with fail
  refine (H4.out w3 D3.out).mono ?_
  rintro e w4 ⟨rfl, hd⟩
  have D4 := Lib.hid hd
  clear hd
  go_wp2_with fail
  refine (awake_any w4).mono ?_
  rintro e w5 ⟨rfl, hb⟩
  have HB : Hid (Below w.heap.size w w5) := D4.out.below.trans (hb.mono D4.out.below.size)
  clear hb
  go_wp2_with fail
  go_ret
  exact ⟨rfl, HB.out⟩
theorem walk (w : World) (A0 : Option Addr) (c0 : Nat) (l0 : List (Int)) (hr0 : Kd.C (Kd.int .i64) w A0 l0.length l0) (hc0 : l0.length ≤ c0) (w0 : (∀ e ∈ l0, (Lit.int .i64 e).wf = true)) (A1 : Option Addr) (c1 : Nat) (l1 : List (Int)) (hr1 : Kd.C (Kd.int .i64) w A1 l1.length l1) (hc1 : l1.length ≤ c1) (w1 : (∀ e ∈ l1, (Lit.int .i64 e).wf = true)) :
    Calls Tryd.prog 4 #[.slice A0 l0.length c0, .slice A1 l1.length c1] w fun e w' => e = .returned (.bool true) ∧ Below w.heap.size w w' := by
  by_cases h : 100 < l0.length ∨ 100 < l1.length
  · exact walk_long w A0 A1 c0 c1 _ _ h
  · exact walk_short w A0 c0 l0 hr0 hc0 A1 c1 l1 hr1 hc1 (by omega) (by omega)
end Go.Proofs.YtakkfilcecegeaaDoor.RPathOrders
