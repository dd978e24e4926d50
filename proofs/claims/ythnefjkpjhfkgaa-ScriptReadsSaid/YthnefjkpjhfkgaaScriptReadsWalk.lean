/- The walk of haymowlaw18.ScriptReads: it returns true and turns nothing that was there, for every argument that can be read. -/
import Derived.Test.YthnefjkpjhfkgaaScriptReadsPure
import Derived.Test.YthnefjkpjhfkgaaScriptReadsK
namespace Go.Proofs.Ythnefjkpjhfkgaa.RScriptReads
open Go.RowKit Go.Proofs.YthnefjkpjhfkgaaW.PrintWords Go.Proofs.YthnefjkpjhfkgaaW.PrintMore Go.Proofs.Ythnefjkpjhfkgaa.PScriptReads Go.Proofs.Ythnefjkpjhfkgaa.Core
set_option linter.unusedVariables false
set_option linter.unusedSimpArgs false

/-- What Read comes to, beside the document's: the acts that both tell. -/
def ROut (w : World) (b : List Int) (e : Ending) (w' : World) : Prop :=
  ∃ A c ev, ∃ m : List PScriptWrites.S47, e = .returned (.tuple #[.slice A m.length c, .int .i64 ev]) ∧ m.length ≤ c ∧ Kd.C PScriptWrites.k47 w' A m.length m ∧ (∃ k, haymowref18_Read.f k b = some (m.map cv33, ev)) ∧ m.length ≤ 1000000 ∧ (∀ x ∈ m, x.f4.length ≤ 1000000000 ∧ x.f5.length ≤ 1000000000) ∧ Below w.heap.size w w'
theorem ROut_of {w w' : World} {b : List Int} {e : Ending} (hb : b.length ≤ 3000) (hby : Byts b) (h : ReadOut w b e w') : ROut w b e w' := by
  rcases h with ⟨l, A, c, hs, rfl, hc, hC, hB⟩ | ⟨l, rs, n, hs, hd, hr, rfl, hB⟩
  · have hl := hs.len
    exact ⟨A, c, 0, l, rfl, hc, hC, read_ok hb hby hs, by omega, fun x hx => by have := steps_f5 hs x hx; have := steps_f4 hs x hx; omega, hB⟩
  · exact ⟨none, 0, n, [], rfl, Nat.le_refl _, Kd.C_nil _ _, read_no hb hby hs hr hd, by simp, by simp, hB⟩
theorem byts_of {l : List Int} (h : ∀ e ∈ l, (Lit.int .u8 e).wf = true) : Byts l := by
  intro x hx
  have := h x hx
  simp [Lit.wf, IntKind.min, IntKind.max, IntKind.signed, IntKind.bits] at this
  omega

set_option maxHeartbeats 1000000 in
theorem walk_no (w : World) (A0 : Option Addr) (c0 n : Nat) (hn : 3000 < n) :
    Calls Try.prog 5 #[.slice A0 n c0] w fun e w' => e = .returned (.bool true) ∧ Below w.heap.size w w' := by
  have h : (decide ((n : Int) > 3000)) = true := by simp; omega
  go_enter Try.func5, Try.ntmps5
  go_wp2
  go_ret
  exact ⟨rfl, Below.refl _ _⟩
theorem R_empty (w : World) : Kd.R (Kd.int .u8) 5 (w.alloc (.cells #[] 5)) w.heap.size (fun _ => True) (.slice (some ⟨w.heap.size, 0, none⟩) 0 0) [] :=
  ⟨fun _ _ => trivial, [], ⟨rfl, .inr ⟨w.heap.size, 0, #[], rfl, Nat.le_refl _, heap_alloc_new w _, Nat.le_refl _, by decide, rfl, rfl⟩⟩, Reps.none _ _⟩
set_option maxHeartbeats 4000000 in
set_option maxRecDepth 100000 in
theorem walk_yes (w : World) (A0 : Option Addr) (c0 : Nat) (l0 : List Int) (hr0 : Kd.C (Kd.int .u8) w A0 l0.length l0) (hc0 : l0.length ≤ c0) (hby : Byts l0) (hn : l0.length ≤ 3000) :
    Calls Try.prog 5 #[.slice A0 l0.length c0] w fun e w' => e = .returned (.bool true) ∧ Below w.heap.size w w' := by
  have HR := Lib.hid hr0
  have HC := Lib.hid hc0
  have HBY := Lib.hid hby
  obtain ⟨n, hnn⟩ : ∃ n, n = l0.length := ⟨_, rfl⟩
  have h : (decide ((n : Int) > 3000)) = false := by simp; omega
  have HN := Lib.hid hn
  have HNN := Lib.hid hnn
  rw [← hnn]
  clear hr0 hc0 hby hn hnn
  go_enter Try.func5, Try.ntmps5
  go_wp2_with ((with_reducible refine gate_builtin (b := .append) (xs := #[.tmp 11, .tmp 12]) rfl ?_); at_builtin; refine Kd.R_append_row (Value.int .u8) (0 : Int) (h1 := fun _ => rfl) (w0 := w) w.heap.size rfl (.tmp 11) (.tmp 12) 24 5 (.int .u8 0) 1 rfl Try.underlying24 info5 rfl (by omega) (.slice (some ⟨w.heap.size, 0, none⟩) 0 0) [] l0 A0 n c0 (fun _ => True) rfl rfl (fun _ _ => trivial) ?aO ?aR ?aB ?aS ?aL ?_; (case aO => exact R_empty w); (case aR => rw [HNN.out]; exact Kd.C_below HR.out ((Below.refl _ _).alloc (Nat.le_refl _) _)); (case aB => exact (Below.refl _ _).alloc (Nat.le_refl _) _); (case aS => simp); (case aL => have := HN.out; have := HNN.out; simp; omega); intro v6 w6 hr6 hb6 hg6 _; obtain ⟨A6, c6, rfl, hc6, hC6⟩ := Kd.R_reads hr6; have HB6 := Lib.hid hb6; have HC6 : Hid ((Kd.int .u8).C w6 A6 l0.length l0) := hC6; have HD6 := Lib.hid hc6; simp only [List.nil_append]; clear hr6 hb6 hg6 hC6 hc6)
  refine (Read_any l0 A6 c6 w6 HC6.out HD6.out HBY.out (by have := HN.out; omega)).mono ?_
  rintro e w7 hw7
  obtain ⟨A7, c7, ev, m, rfl, hc7, hC7, ⟨k7, hk7⟩, hm7, hf7, hb7⟩ := ROut_of HN.out HBY.out hw7
  have HB7 : Hid (Below w.heap.size w w7) := HB6.out.trans (hb7.mono HB6.out.size)
  have HC7 := Lib.hid hC7
  have HK7 := Lib.hid hk7
  have HM7 := Lib.hid hm7
  have HF7 := Lib.hid hf7
  clear hw7 hc7 hC7 hk7 hm7 hf7 hb7
  obtain ⟨n7, hn7⟩ : ∃ n7, n7 = m.length := ⟨_, rfl⟩
  have HN7 := Lib.hid hn7
  rw [← hn7]
  clear hn7
  go_wp2_with fail
  rw [HNN.out]
  refine (haymowref18_Read.calls k7 A0 c0 l0 (m.map cv33) ev w7 (Kd.C_below HR.out HB7.out) HC.out HK7.out).mono ?_
  rintro e w8 ⟨v8, rfl, hs8, hb8⟩
  obtain ⟨A8, c8, rfl, hc8, hC8⟩ := Kd.S_reads hs8
  have HC8 : Hid (Kd.C PScriptWrites.k33 w8 A8 m.length (m.map un)) := C_conv33 (by rwa [List.length_map] at hC8)
  have HB8 : Hid (Below w.heap.size w w8) := HB7.out.trans (hb8.mono HB7.out.size)
  have HC7b := Lib.hid (Kd.C_below HC7.out hb8)
  have e8 : (m.map cv33).length = n7 := by rw [List.length_map, HN7.out]
  rw [e8]
  have HN := Lib.hid HNN.out
  clear hs8 hb8 hc8 hC8 e8 HC7
  go_wp2_with fail
  rw [HN7.out]
  refine (told_true m A7 A8 c7 c8 w8 HC7b.out HC8.out HM7.out HF7.out).mono ?_
  rintro e w9 ⟨rfl, hd9⟩
  have HB9 : Hid (Below w.heap.size w w9) := HB8.out.trans (hd9.below.mono HB8.out.size)
  clear hd9
  go_wp2_with fail
  refine (awake_any w9).mono ?_
  rintro e w10 ⟨rfl, hb10⟩
  have HB10 : Hid (Below w.heap.size w w10) := HB9.out.trans (hb10.mono HB9.out.size)
  clear hb10
  go_wp2_with fail
  go_ret
  exact ⟨rfl, HB10.out⟩
theorem walk (w : World) (A0 : Option Addr) (c0 : Nat) (l0 : List (Int)) (hr0 : Kd.C (Kd.int .u8) w A0 l0.length l0) (hc0 : l0.length ≤ c0) (w0 : (∀ e ∈ l0, (Lit.int .u8 e).wf = true)) :
    Calls Try.prog 5 #[.slice A0 l0.length c0] w fun e w' => e = .returned (.bool true) ∧ Below w.heap.size w w' := by
  by_cases hn : l0.length ≤ 3000
  · exact walk_yes w A0 c0 l0 hr0 hc0 (byts_of w0) hn
  · exact walk_no w A0 c0 l0.length (by omega)
end Go.Proofs.Ythnefjkpjhfkgaa.RScriptReads
