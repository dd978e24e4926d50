/- haymowlaw20.awake. -/
import Derived.Test.YtceankldidkohaaDoorC5
namespace Go.Proofs.YtceankldidkohaaDoor.Core
open Go.RowKit Go.Proofs.YtceankldidkohaaDoorW.PrintWords Go.Proofs.YtceankldidkohaaDoorW.PrintMore Go.Proofs.YtceankldidkohaaDoor.PAuditTwice Go.Proofs.YtceankldidkohaaDoor
set_option linter.unusedVariables false
set_option linter.unusedSimpArgs false
theorem two_C (W : World) (a b : Int) : Kd.C k28 (W.alloc (.cells #[.int .i64 0, .int .i64 a, .slice none 0 0, .int .i64 0, .int .i64 b, .slice none 0 0] 28)) (some ⟨W.heap.size, 0, none⟩) 2 [⟨0, a, []⟩, ⟨0, b, []⟩] := by
  refine ⟨rfl, by omega, fun _ => ⟨_, rfl, fun j p hj => ?_⟩⟩
  have key : ∀ (k : Nat) (u : Value), [Value.int .i64 0, .int .i64 a, .slice none 0 0, .int .i64 0, .int .i64 b, .slice none 0 0][k]? = some u → (W.alloc (.cells #[.int .i64 0, .int .i64 a, .slice none 0 0, .int .i64 0, .int .i64 b, .slice none 0 0] 28)).cell? ((⟨W.heap.size, 0, none⟩ : Addr).add k) = some u := by
    intro k u h
    rw [add_at, World.cell?_alloc_new, Nat.zero_add]
    simpa using h
  match j, hj with
  | 0, hj =>
    obtain rfl : (⟨0, a, []⟩ : S28) = p := by simpa using hj
    refine ⟨[.int .i64 0, .int .i64 a, .slice none 0 0], rfl, k28_mk _ ⟨0, a, []⟩ (A2 := none) (c2 := 0) (Nat.le_refl _) (Kd.C_nil _ _), fun i u hu => ?_⟩
    refine key _ u ?_
    match i, hu with
    | 0, hu => exact hu
    | 1, hu => exact hu
    | 2, hu => exact hu
  | 1, hj =>
    obtain rfl : (⟨0, b, []⟩ : S28) = p := by simpa using hj
    refine ⟨[.int .i64 0, .int .i64 b, .slice none 0 0], rfl, k28_mk _ ⟨0, b, []⟩ (A2 := none) (c2 := 0) (Nat.le_refl _) (Kd.C_nil _ _), fun i u hu => ?_⟩
    refine key _ u ?_
    match i, hu with
    | 0, hu => exact hu
    | 1, hu => exact hu
    | 2, hu => exact hu
theorem ev_0 {e : S28} (h : e = ⟨0, 1, []⟩ ∨ e = ⟨0, 2, []⟩) : Ev e := by
  rcases h with rfl | rfl
  · exact ⟨by constructor <;> decide, by constructor <;> decide, (fun x hx => by cases hx), by show (0 : Nat) ≤ 1000; omega⟩
  · exact ⟨by constructor <;> decide, by constructor <;> decide, (fun x hx => by cases hx), by show (0 : Nat) ≤ 1000; omega⟩
theorem snd_1 : sndL [] [⟨0, 1, []⟩, ⟨0, 1, []⟩] = false := by simp [sndL, cnt]
theorem snd_2 : sndL [] [⟨0, 1, []⟩, ⟨0, 2, []⟩] = true := by simp [sndL, cnt]
set_option maxHeartbeats 2000000 in
set_option maxRecDepth 100000 in
theorem awake_any {w0 W : World} (T : Tab w0) (hW : Below w0.heap.size w0 W) :
    Calls Tryd.prog 12 #[] W fun e W' => e = .returned (.bool true) ∧ Below W.heap.size W W' := by
  have HW := Lib.hid hW
  have HT := Lib.hid T
  have hz := hW.size
  have HZ := Lib.hid hz
  clear hW T hz
  go_enter Tryd.func12, Tryd.ntmps12
  go_wp2_with fail
  have b1 : Below W.heap.size W (W.alloc (.cells #[.int .i64 0, .int .i64 1, .slice none 0 0, .int .i64 0, .int .i64 1, .slice none 0 0] 28)) := (Below.refl _ _).alloc (Nat.le_refl _) _
  have H1 := Sound_any HT.out (HW.out.trans (b1.mono HZ.out)) _ (some ⟨W.heap.size, 0, none⟩) 2 (two_C W 1 1) (by decide) (fun e he => ev_0 (.inl (by simpa using he)))
  rw [snd_1] at H1
  refine Calls.mono H1 ?_
  rintro e w2 ⟨rfl, hb2⟩
  have B2 : Hid (Below W.heap.size W w2) := b1.trans (hb2.mono b1.size)
  clear hb2 b1 H1
  have Z2 := Lib.hid B2.out.size
  go_wp2_with fail
  have b3 : Below w2.heap.size w2 (w2.alloc (.cells #[.int .i64 0, .int .i64 1, .slice none 0 0, .int .i64 0, .int .i64 2, .slice none 0 0] 28)) := (Below.refl _ _).alloc (Nat.le_refl _) _
  have B3 : Below W.heap.size W (w2.alloc (.cells #[.int .i64 0, .int .i64 1, .slice none 0 0, .int .i64 0, .int .i64 2, .slice none 0 0] 28)) := B2.out.trans (b3.mono Z2.out)
  have H3 := Sound_any HT.out (HW.out.trans (B3.mono HZ.out)) _ (some ⟨w2.heap.size, 0, none⟩) 2 (two_C w2 1 2) (by decide) (fun e he => ev_0 (by simpa using he))
  rw [snd_2] at H3
  refine Calls.mono H3 ?_
  rintro e w4 ⟨rfl, hb4⟩
  have B4 : Hid (Below W.heap.size W w4) := B3.trans (hb4.mono B3.size)
  clear hb4 b3 B3 H3
  go_wp2_with fail
  go_ret
  exact ⟨rfl, B4.out⟩
end Go.Proofs.YtceankldidkohaaDoor.Core
