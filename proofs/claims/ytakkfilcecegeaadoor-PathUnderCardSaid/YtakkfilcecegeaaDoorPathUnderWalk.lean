/- The walk of haymowlaw05.PathUnder: it returns true and turns nothing that was there, for every argument that can be read. Written by gen_path_under.py. -/
import Derived.Test.YtakkfilcecegeaaDoorC3
import Derived.Deep.QuietTactic
import Derived.BigQuiet
import Derived.Test.YtakkfilcecegeaaDoorPathUnderK
namespace Go.Proofs.YtakkfilcecegeaaDoor.RPathUnder
open Go.RowKit Go.Proofs.YtakkfilcecegeaaDoorW.PrintWords Go.Proofs.YtakkfilcecegeaaDoorW.PrintMore Go.Proofs.YtakkfilcecegeaaDoor.P1 Go.Proofs.YtakkfilcecegeaaDoor.Core Go.Proofs.YtakkfilcecegeaaDoor
set_option linter.unusedVariables false
set_option linter.unusedSimpArgs false
/-- A world in which all that was there stands as it stood. -/
structure WB (w : World) where
  W : World
  hb : Below w.heap.size w W
theorem WB.ne (w : World) : Nonempty (WB w) := ⟨⟨w, Below.refl _ _⟩⟩
attribute [local instance] WB.ne
theorem WB.call {P : Program} {f : FuncId} {args : Array Value} {w : World} {v : Value} (h : ∀ W, Below w.heap.size w W → Calls P f args W fun e W' => e = .returned v ∧ Below w.heap.size w W') (x : WB w) : Calls P f args x.W fun e W' => e = .returned v ∧ ∃ y : WB w, W' = y.W :=
  (h x.W x.hb).mono fun e W' he => ⟨he.1, ⟨W', he.2⟩, rfl⟩
theorem wp_region_quiet_litC {P : Program} {C : World → Prop} {id : Nat} {Q : Exit → Act → World → Prop} {a : Act} {w : World} {l : List Oper} (hm : P.follows .mixedOrders = true) (hB : Region.lexB .any l.toArray = true) (hC : C { w with drawn := w.drawn + 1 })
    (h : wpQuiet P l.toArray C (fun a' => ∀ w', C w' → Q .normal a' w') l a) : (Code.region id l.toArray true).wp P Q a w :=
  wp_region_quiet hm hB hC (by simpa using h)
theorem und_take (a : List Int) (i j : Nat) (h : j ≤ i) : undL (a.take i) (a.take j) = true := by
  have e : a.take j = (a.take i).take j := by rw [List.take_take, Nat.min_eq_left h]
  rw [e]
  exact undL_self _ _
theorem und_back (a : List Int) (j : Nat) (h : j ≤ a.length) : undL (a.take j) a = decide (j = a.length) := by
  by_cases e : j = a.length
  · subst e
    rw [List.take_length]
    have := undL_self a a.length
    rw [List.take_length] at this
    rw [this]
    simp
  · rw [undL_short _ _ (by rw [List.length_take]; omega)]
    simp [e]
set_option maxHeartbeats 1000000 in
theorem walk_long (w : World) (A0 : Option Addr) (c0 n0 : Nat) (a1 a2 : Int) (h : 50 < n0) :
    Calls Tryd.prog 6 #[.slice A0 n0 c0, .int .u8 a1, .int .u8 a2] w fun e w' => e = .returned (.bool true) ∧ Below w.heap.size w w' := by
  have d0 : (decide ((n0 : Int) > 50)) = true := by simp; omega
  go_enter Tryd.func6, Tryd.ntmps6
  go_wp2
  go_ret
  exact ⟨rfl, Below.refl _ _⟩
set_option maxHeartbeats 4000000 in
set_option maxRecDepth 100000 in
theorem walk_short (w : World) (A0 : Option Addr) (c0 : Nat) (l : List Int) (hC : (Kd.int .i64).C w A0 l.length l) (hc : l.length ≤ c0) (a1 a2 : Int) (h10 : 0 ≤ a1) (h11 : a1 < 256) (h20 : 0 ≤ a2) (h21 : a2 < 256) (hn : l.length ≤ 50) :
    Calls Tryd.prog 6 #[.slice A0 l.length c0, .int .u8 a1, .int .u8 a2] w fun e w' => e = .returned (.bool true) ∧ Below w.heap.size w w' := by
  obtain ⟨na, hna⟩ : ∃ na, na = l.length := ⟨_, rfl⟩
  obtain ⟨ni, hi⟩ : ∃ ni : Nat, a1 % ((na : Int) + 1) = ni := ⟨(a1 % ((na : Int) + 1)).toNat, by have := Int.emod_nonneg a1 (show (na : Int) + 1 ≠ 0 by omega); omega⟩
  have hin : ni ≤ na := by have := Int.emod_lt_of_pos a1 (show (0 : Int) < (na : Int) + 1 by omega); omega
  obtain ⟨nj, hj⟩ : ∃ nj : Nat, a2 % ((ni : Int) + 1) = nj := ⟨(a2 % ((ni : Int) + 1)).toNat, by have := Int.emod_nonneg a2 (show (ni : Int) + 1 ≠ 0 by omega); omega⟩
  have hji : nj ≤ ni := by have := Int.emod_lt_of_pos a2 (show (0 : Int) < (ni : Int) + 1 by omega); omega
  have li : (l.take ni).length = ni := by rw [List.length_take]; omega
  have lj : (l.take nj).length = nj := by rw [List.length_take]; omega
  have CA : ∀ W, Below w.heap.size w W → (Kd.int .i64).C W A0 l.length l := fun W hb => Kd.C_below hC hb
  have CI : ∀ W, Below w.heap.size w W → (Kd.int .i64).C W A0 (l.take ni).length (l.take ni) := fun W hb => Kd.C_take (CA W hb) (by omega)
  have CJ : ∀ W, Below w.heap.size w W → (Kd.int .i64).C W A0 (l.take nj).length (l.take nj) := fun W hb => Kd.C_take (CA W hb) (by omega)
  have H1 : Hid (∀ W, Below w.heap.size w W → Calls Tryd.prog 10 #[.slice A0 na c0, .slice A0 ni c0] W fun e W' => e = .returned (.bool true) ∧ Below w.heap.size w W') := fun W hb => by
    have h := Under_any l (l.take ni) A0 A0 c0 c0 W (CA W hb) hc (CI W hb) (by omega) (by omega) (by omega)
    rw [li, ← hna, undL_self] at h
    exact h.mono (by rintro e W' ⟨rfl, hd⟩; exact ⟨rfl, hb.trans (hd.below.mono hb.size)⟩)
  have H2 : Hid (∀ W, Below w.heap.size w W → Calls Tryd.prog 10 #[.slice A0 ni c0, .slice A0 nj c0] W fun e W' => e = .returned (.bool true) ∧ Below w.heap.size w W') := fun W hb => by
    have h := Under_any (l.take ni) (l.take nj) A0 A0 c0 c0 W (CI W hb) (by omega) (CJ W hb) (by omega) (by omega) (by omega)
    rw [li, lj, und_take l ni nj hji] at h
    exact h.mono (by rintro e W' ⟨rfl, hd⟩; exact ⟨rfl, hb.trans (hd.below.mono hb.size)⟩)
  have H3 : Hid (∀ W, Below w.heap.size w W → Calls Tryd.prog 10 #[.slice A0 na c0, .slice A0 nj c0] W fun e W' => e = .returned (.bool true) ∧ Below w.heap.size w W') := fun W hb => by
    have h := Under_any l (l.take nj) A0 A0 c0 c0 W (CA W hb) hc (CJ W hb) (by omega) (by omega) (by omega)
    rw [lj, ← hna, undL_self] at h
    exact h.mono (by rintro e W' ⟨rfl, hd⟩; exact ⟨rfl, hb.trans (hd.below.mono hb.size)⟩)
  obtain ⟨rr, hr⟩ : ∃ rr, rr = cmpL (l.take nj) l := ⟨_, rfl⟩
  have hr0 : rr ≤ 0 := hr ▸ cmpL_take l nj
  have H4 : Hid (∀ W, Below w.heap.size w W → Calls Tryd.prog 7 #[.slice A0 nj c0, .slice A0 na c0] W fun e W' => e = .returned (.int .i64 rr) ∧ Below w.heap.size w W') := fun W hb => by
    have h := Compare_any (l.take nj) l A0 A0 c0 c0 W (CJ W hb) (by omega) (CA W hb) hc (by omega) (by omega)
    rw [lj, ← hna, ← hr] at h
    exact h.mono (by rintro e W' ⟨rfl, hd⟩; exact ⟨rfl, hb.trans (hd.below.mono hb.size)⟩)
  obtain ⟨bb, hb⟩ : ∃ bb, bb = undL (l.take nj) l := ⟨_, rfl⟩
  have H5 : Hid (∀ W, Below w.heap.size w W → Calls Tryd.prog 10 #[.slice A0 nj c0, .slice A0 na c0] W fun e W' => e = .returned (.bool bb) ∧ Below w.heap.size w W') := fun W hbl => by
    have h := Under_any (l.take nj) l A0 A0 c0 c0 W (CJ W hbl) (by omega) (CA W hbl) hc (by omega) (by omega)
    rw [lj, ← hna, ← hb] at h
    exact h.mono (by rintro e W' ⟨rfl, hd⟩; exact ⟨rfl, hbl.trans (hd.below.mono hbl.size)⟩)
  have H6 : Hid (∀ W, Below w.heap.size w W → Calls Tryd.prog 8 #[] W fun e W' => e = .returned (.bool true) ∧ Below w.heap.size w W') := fun W hb => by
    exact (awake_any W).mono (by rintro e W' ⟨rfl, hd⟩; exact ⟨rfl, hb.trans (hd.mono hb.size)⟩)
  have q1 : (decide (rr ≤ 0)) = true := by simpa using hr0
  have q2 : ((nj : Int) == (na : Int)) = bb := by
    rw [hb, und_back l nj (by omega), ← hna]
    by_cases e : nj = na
    · subst e; simp
    · rw [decide_eq_false e]; exact beq_eq_false_iff_ne.2 (by omega)
  obtain ⟨i3, hi3⟩ : ∃ i, Tryd.prog.info? 3 = some i := by
    have : (Tryd.prog.info? 3).isSome = true := by kernel_rfl
    exact Option.isSome_iff_exists.1 this
  have hti := cut_to (P := Tryd.prog) 22 3 .i64 Tryd.underlying22 hi3 A0 na c0 (ni : Int) (by omega) (by omega) (by omega)
  have htj := cut_to (P := Tryd.prog) 22 3 .i64 Tryd.underlying22 hi3 A0 na c0 (nj : Int) (by omega) (by omega) (by omega)
  rw [Int.toNat_natCast] at hti htj
  have d0 : (decide ((na : Int) > 50)) = false := by simp; omega
  have HI := Lib.hid hi
  have HJ := Lib.hid hj
  have hn0 : na ≤ 50 := by omega
  have hz0 : 0 ≤ a1 % ((na : Int) + 1) := by omega
  have hz1 : a1 % ((na : Int) + 1) ≤ na := by omega
  rw [← hna]
  clear hi hj hna hr hb hr0 li lj CA CI CJ hC hc hi3 hn
  go_enter Tryd.func6, Tryd.ntmps6
  go_wp2_with fail
  rw [HI.out, HJ.out]
  refine wp_region_quiet_litC (C := fun W => ∃ x : WB w, W = x.W) (by kernel_rfl) (by kernel_rfl) ⟨⟨_, below_drew (Below.refl _ _)⟩, rfl⟩ ?_
  repeat (any_goals (first | go_big_quiet_step ((first | with_reducible exact WB.call H1.out _ | with_reducible exact WB.call H2.out _ | with_reducible exact WB.call H3.out _ | with_reducible exact WB.call H4.out _ | with_reducible exact WB.call H5.out _ | with_reducible exact WB.call H6.out _)) | quiet_step ((first | with_reducible exact WB.call H1.out _ | with_reducible exact WB.call H2.out _ | with_reducible exact WB.call H3.out _ | with_reducible exact WB.call H4.out _ | with_reducible exact WB.call H5.out _ | with_reducible exact WB.call H6.out _))))
  refine wpQuiet_nil ?_
  rintro _ ⟨x, rfl⟩
  have HB := Lib.hid x.hb
  go_wp2_with fail
  go_ret
  exact ⟨rfl, HB.out⟩
theorem walk (w : World) (A0 : Option Addr) (c0 : Nat) (l0 : List (Int)) (hr0 : Kd.C (Kd.int .i64) w A0 l0.length l0) (hc0 : l0.length ≤ c0) (w0 : (∀ e ∈ l0, (Lit.int .i64 e).wf = true)) (a1 : Int) (w1 : (Lit.int .u8 a1).wf = true) (a2 : Int) (w2 : (Lit.int .u8 a2).wf = true) :
    Calls Tryd.prog 6 #[.slice A0 l0.length c0, .int .u8 a1, .int .u8 a2] w fun e w' => e = .returned (.bool true) ∧ Below w.heap.size w w' := by
  simp [Lit.wf, IntKind.min, IntKind.max, IntKind.bits, IntKind.signed] at w1 w2
  by_cases h : 50 < l0.length
  · exact walk_long w A0 c0 _ a1 a2 h
  · exact walk_short w A0 c0 l0 hr0 hc0 a1 a2 (by omega) (by omega) (by omega) (by omega) (by omega)
end Go.Proofs.YtakkfilcecegeaaDoor.RPathUnder
