/- The walk of haymowlaw05.PathSorts: it returns true and turns nothing that was there, for every argument that can be read. Written by gen_path_sorts.py. -/
import Derived.Test.YtakkfilcecegeaaDoorC3
import Derived.Test.YtakkfilcecegeaaDoorPathSortsK
namespace Go.Proofs.YtakkfilcecegeaaDoor.RPathSorts
open Go.RowKit Go.Proofs.YtakkfilcecegeaaDoorW.PrintWords Go.Proofs.YtakkfilcecegeaaDoorW.PrintMore Go.Proofs.YtakkfilcecegeaaDoor.P1 Go.Proofs.YtakkfilcecegeaaDoor.Core Go.Proofs.YtakkfilcecegeaaDoor Go.Proofs.YtakkfilcecegeaaDoor.KPathSorts
set_option linter.unusedVariables false
set_option linter.unusedSimpArgs false
theorem R_empty (w : World) : Kd.R (Kd.int .i64) 3 (w.alloc (.cells #[] 3)) w.heap.size (fun _ => True) (.slice (some ⟨w.heap.size, 0, none⟩) 0 0) [] :=
  ⟨fun _ _ => trivial, [], ⟨rfl, .inr ⟨w.heap.size, 0, #[], rfl, Nat.le_refl _, heap_alloc_new w _, Nat.le_refl _, by decide, rfl, rfl⟩⟩, Reps.none _ _⟩
theorem cmp1 (p : List Int) (n : Int) : cmpL p (p ++ [n]) = -1 := by
  have h := cmpL_app p [] [n]
  rwa [List.append_nil] at h
theorem cmp2 (p : List Int) (n k : Int) (y : List Int) : cmpL (p ++ [n] ++ [k]) (p ++ [n + 1] ++ y) = -1 := by
  rw [List.append_assoc, List.append_assoc, cmpL_app]
  show (if n < n + 1 then (-1 : Int) else if n > n + 1 then 1 else cmpL [k] y) = -1
  rw [if_pos (by omega)]
theorem cmp3 (p : List Int) (k o : Int) : cmpL (p ++ [k]) (p ++ [o]) = if k < o then -1 else if k > o then 1 else 0 := cmpL_app p [k] [o]
set_option maxHeartbeats 8000000 in
set_option maxRecDepth 100000 in
theorem walk_short (w : World) (A0 : Option Addr) (c0 : Nat) (p : List Int) (hC : (Kd.int .i64).C w A0 p.length p) (hc : p.length ≤ c0) (n kid other : Int) (n0 : 0 ≤ n) (n1 : n < 4294967296) (k0 : 0 ≤ kid) (k1 : kid < 4294967296) (o0 : 0 ≤ other) (o1 : other < 4294967296) (hl : p.length ≤ 50) :
    Calls Tryd.prog 3 #[.agg #[.slice A0 p.length c0, .int .u32 n, .int .u32 kid, .int .u32 other]] w fun e w' => e = .returned (.bool true) ∧ Below w.heap.size w w' := by
  obtain ⟨np, hnp⟩ : ∃ np, np = p.length := ⟨_, rfl⟩
  have HNP := Lib.hid hnp
  have d0 : (decide ((np : Int) > 50)) = false := by simp; omega
  have HC := Lib.hid hC
  have HCC := Lib.hid hc
  have hl50 : np ≤ 50 := by omega
  have HW := Lib.hid (show ∀ q, Below w.heap.size w ((w.alloc (.cells #[.slice A0 p.length c0, .int .u32 n, .int .u32 kid, .int .u32 other] 25)).drewN q) from fun q => pw_below_drewN ((Below.refl _ _).alloc (Nat.le_refl _) _) q)
  rw [← hnp] at HW ⊢
  clear hnp hC hc hl
  go_enter Tryd.func3, Tryd.ntmps3
  go_wp2_with fail
  go_quiet (fail)
  have BW := HW.out nq
  generalize (w.alloc (.cells #[.slice A0 np c0, .int .u32 n, .int .u32 kid, .int .u32 other] 25)).drewN nq = W0 at *
  have B0 := Lib.hid BW
  have CP0 : Hid ((Kd.int .i64).C W0 A0 p.length p) := Kd.C_below HC.out BW
  clear BW HW
  go_upto_region 5 with (first | ((with_reducible refine gate_builtin (b := .append) (xs := #[.tmp 23, .tmp 24]) rfl ?_); at_builtin; refine Kd.R_append_row (Value.int .i64) (0 : Int) (h1 := fun _ => rfl) (w0 := W0) W0.heap.size rfl (.tmp 23) (.tmp 24) 22 3 (.int .i64 0) 8 rfl Tryd.underlying22 info3 rfl (by omega) (.slice (some ⟨W0.heap.size, 0, none⟩) 0 0) [] p A0 np c0 (fun _ => True) rfl rfl (fun _ _ => trivial) ?aO4 ?aR4 ?aB4 ?aS4 ?aL4 ?_; (case aO4 => exact R_empty W0); (case aR4 => rw [HNP.out]; exact Kd.C_below CP0.out ((Below.refl _ _).alloc (Nat.le_refl _) _)); (case aB4 => exact (Below.refl _ _).alloc (Nat.le_refl _) _); (case aS4 => simp); (case aL4 => simp; omega); intro v4 u4 hr hb hg _; have HR4 : Hid ((Kd.int .i64).R 3 u4 W0.heap.size (fun _ => True) v4 p) := hr; have HB4 := Lib.hid hb; have hz4 := hb.size; clear hr hb hg) | ((with_reducible refine gate_builtin (b := .append) (xs := #[.tmp 25, .tmp 28]) rfl ?_); at_builtin; refine Kd.R_append (Kd.int .i64) (w0 := W0) W0.heap.size rfl (.tmp 25) (.tmp 28) 22 3 (.int .i64 0) 8 rfl Tryd.underlying22 info3 rfl (by decide) (by omega) v4 p (n) [.int .i64 (n)] (fun _ => True) (fun _ => False) rfl rfl ?bP4 (fun _ hk => hk.elim) (fun _ _ => trivial) ?bO4 ?bB4 ?bS4 ?bL4 ?_; (case bP4 => exact rfl); (case bO4 => exact HR4.out); (case bB4 => exact HB4.out); (case bS4 => exact hz4); (case bL4 => rw [← HNP.out]; omega); intro t4 W4 hr hb hg _; have HT4 := Lib.hid hr; have HU4 := Lib.hid hb; clear hr hb hg HR4 HB4))
  obtain ⟨la, hla⟩ : ∃ l, l = p ++ [n] := ⟨_, rfl⟩
  have HLA := Lib.hid hla
  have ht4 := HT4.out
  rw [← hla] at ht4
  obtain ⟨Aa, ca, rfl, hca, hCa⟩ := Kd.R_reads ht4
  obtain ⟨na, hna⟩ : ∃ k, k = la.length := ⟨_, rfl⟩
  have HNA := Lib.hid hna
  have ga : na ≤ np + 1 := by rw [hna, hla, List.length_append, ← HNP.out]; exact Nat.le_refl _
  have CA1 := Lib.hid hCa
  have HCCA := Lib.hid hca
  have hUU := HU4.out
  have CP1 := Lib.hid (Kd.C_below CP0.out hUU)
  have B1 : Hid (Below w.heap.size w W4) := B0.out.trans (hUU.mono B0.out.size)
  rw [← hna]
  clear hla ht4 hca hCa hna hUU HT4 HU4 B0 hz4 CP0
  go_upto_region 6 with (first | ((with_reducible refine gate_builtin (b := .append) (xs := #[.tmp 30, .tmp 31]) rfl ?_); at_builtin; refine Kd.R_append_row (Value.int .i64) (0 : Int) (h1 := fun _ => rfl) (w0 := W4) W4.heap.size rfl (.tmp 30) (.tmp 31) 22 3 (.int .i64 0) 8 rfl Tryd.underlying22 info3 rfl (by omega) (.slice (some ⟨W4.heap.size, 0, none⟩) 0 0) [] p A0 np c0 (fun _ => True) rfl rfl (fun _ _ => trivial) ?aO5 ?aR5 ?aB5 ?aS5 ?aL5 ?_; (case aO5 => exact R_empty W4); (case aR5 => rw [HNP.out]; exact Kd.C_below CP1.out ((Below.refl _ _).alloc (Nat.le_refl _) _)); (case aB5 => exact (Below.refl _ _).alloc (Nat.le_refl _) _); (case aS5 => simp); (case aL5 => simp; omega); intro v5 u5 hr hb hg _; have HR5 : Hid ((Kd.int .i64).R 3 u5 W4.heap.size (fun _ => True) v5 p) := hr; have HB5 := Lib.hid hb; have hz5 := hb.size; clear hr hb hg) | ((with_reducible refine gate_builtin (b := .append) (xs := #[.tmp 32, .tmp 36]) rfl ?_); at_builtin; refine Kd.R_append (Kd.int .i64) (w0 := W4) W4.heap.size rfl (.tmp 32) (.tmp 36) 22 3 (.int .i64 0) 8 rfl Tryd.underlying22 info3 rfl (by decide) (by omega) v5 p (n + 1) [.int .i64 (n + 1)] (fun _ => True) (fun _ => False) rfl rfl ?bP5 (fun _ hk => hk.elim) (fun _ _ => trivial) ?bO5 ?bB5 ?bS5 ?bL5 ?_; (case bP5 => exact rfl); (case bO5 => exact HR5.out); (case bB5 => exact HB5.out); (case bS5 => exact hz5); (case bL5 => rw [← HNP.out]; omega); intro t5 W5 hr hb hg _; have HT5 := Lib.hid hr; have HU5 := Lib.hid hb; clear hr hb hg HR5 HB5))
  obtain ⟨lb, hlb⟩ : ∃ l, l = p ++ [n + 1] := ⟨_, rfl⟩
  have HLB := Lib.hid hlb
  have ht5 := HT5.out
  rw [← hlb] at ht5
  obtain ⟨Ab, cb, rfl, hcb, hCb⟩ := Kd.R_reads ht5
  obtain ⟨nb, hnb⟩ : ∃ k, k = lb.length := ⟨_, rfl⟩
  have HNB := Lib.hid hnb
  have gb : nb ≤ np + 1 := by rw [hnb, hlb, List.length_append, ← HNP.out]; exact Nat.le_refl _
  have CB2 := Lib.hid hCb
  have HCCB := Lib.hid hcb
  have hUU := HU5.out
  have CP2 := Lib.hid (Kd.C_below CP1.out hUU)
  have CA2 := Lib.hid (Kd.C_below CA1.out hUU)
  have B2 : Hid (Below w.heap.size w W5) := B1.out.trans (hUU.mono B1.out.size)
  rw [← hnb]
  clear hlb ht5 hcb hCb hnb hUU HT5 HU5 B1 hz5 CP1 CA1
  go_upto_region 7 with (first | ((with_reducible refine gate_builtin (b := .append) (xs := #[.tmp 38, .tmp 39]) rfl ?_); at_builtin; refine Kd.R_append_row (Value.int .i64) (0 : Int) (h1 := fun _ => rfl) (w0 := W5) W5.heap.size rfl (.tmp 38) (.tmp 39) 22 3 (.int .i64 0) 8 rfl Tryd.underlying22 info3 rfl (by omega) (.slice (some ⟨W5.heap.size, 0, none⟩) 0 0) [] la Aa na ca (fun _ => True) rfl rfl (fun _ _ => trivial) ?aO6 ?aR6 ?aB6 ?aS6 ?aL6 ?_; (case aO6 => exact R_empty W5); (case aR6 => rw [HNA.out]; exact Kd.C_below CA2.out ((Below.refl _ _).alloc (Nat.le_refl _) _)); (case aB6 => exact (Below.refl _ _).alloc (Nat.le_refl _) _); (case aS6 => simp); (case aL6 => simp; omega); intro v6 u6 hr hb hg _; have HR6 : Hid ((Kd.int .i64).R 3 u6 W5.heap.size (fun _ => True) v6 la) := hr; have HB6 := Lib.hid hb; have hz6 := hb.size; clear hr hb hg) | ((with_reducible refine gate_builtin (b := .append) (xs := #[.tmp 40, .tmp 43]) rfl ?_); at_builtin; refine Kd.R_append (Kd.int .i64) (w0 := W5) W5.heap.size rfl (.tmp 40) (.tmp 43) 22 3 (.int .i64 0) 8 rfl Tryd.underlying22 info3 rfl (by decide) (by omega) v6 la (kid) [.int .i64 (kid)] (fun _ => True) (fun _ => False) rfl rfl ?bP6 (fun _ hk => hk.elim) (fun _ _ => trivial) ?bO6 ?bB6 ?bS6 ?bL6 ?_; (case bP6 => exact rfl); (case bO6 => exact HR6.out); (case bB6 => exact HB6.out); (case bS6 => exact hz6); (case bL6 => rw [← HNA.out]; omega); intro t6 W6 hr hb hg _; have HT6 := Lib.hid hr; have HU6 := Lib.hid hb; clear hr hb hg HR6 HB6))
  obtain ⟨lx, hlx⟩ : ∃ l, l = la ++ [kid] := ⟨_, rfl⟩
  have HLX := Lib.hid hlx
  have ht6 := HT6.out
  rw [← hlx] at ht6
  obtain ⟨Ax, cx, rfl, hcx, hCx⟩ := Kd.R_reads ht6
  obtain ⟨nx, hnx⟩ : ∃ k, k = lx.length := ⟨_, rfl⟩
  have HNX := Lib.hid hnx
  have gx : nx ≤ na + 1 := by rw [hnx, hlx, List.length_append, ← HNA.out]; exact Nat.le_refl _
  have CX3 := Lib.hid hCx
  have HCCX := Lib.hid hcx
  have hUU := HU6.out
  have CP3 := Lib.hid (Kd.C_below CP2.out hUU)
  have CA3 := Lib.hid (Kd.C_below CA2.out hUU)
  have CB3 := Lib.hid (Kd.C_below CB2.out hUU)
  have B3 : Hid (Below w.heap.size w W6) := B2.out.trans (hUU.mono B2.out.size)
  rw [← hnx]
  clear hlx ht6 hcx hCx hnx hUU HT6 HU6 B2 hz6 CP2 CA2 CB2
  go_upto_region 8 with (first | ((with_reducible refine gate_builtin (b := .append) (xs := #[.tmp 45, .tmp 46]) rfl ?_); at_builtin; refine Kd.R_append_row (Value.int .i64) (0 : Int) (h1 := fun _ => rfl) (w0 := W6) W6.heap.size rfl (.tmp 45) (.tmp 46) 22 3 (.int .i64 0) 8 rfl Tryd.underlying22 info3 rfl (by omega) (.slice (some ⟨W6.heap.size, 0, none⟩) 0 0) [] la Aa na ca (fun _ => True) rfl rfl (fun _ _ => trivial) ?aO7 ?aR7 ?aB7 ?aS7 ?aL7 ?_; (case aO7 => exact R_empty W6); (case aR7 => rw [HNA.out]; exact Kd.C_below CA3.out ((Below.refl _ _).alloc (Nat.le_refl _) _)); (case aB7 => exact (Below.refl _ _).alloc (Nat.le_refl _) _); (case aS7 => simp); (case aL7 => simp; omega); intro v7 u7 hr hb hg _; have HR7 : Hid ((Kd.int .i64).R 3 u7 W6.heap.size (fun _ => True) v7 la) := hr; have HB7 := Lib.hid hb; have hz7 := hb.size; clear hr hb hg) | ((with_reducible refine gate_builtin (b := .append) (xs := #[.tmp 47, .tmp 50]) rfl ?_); at_builtin; refine Kd.R_append (Kd.int .i64) (w0 := W6) W6.heap.size rfl (.tmp 47) (.tmp 50) 22 3 (.int .i64 0) 8 rfl Tryd.underlying22 info3 rfl (by decide) (by omega) v7 la (other) [.int .i64 (other)] (fun _ => True) (fun _ => False) rfl rfl ?bP7 (fun _ hk => hk.elim) (fun _ _ => trivial) ?bO7 ?bB7 ?bS7 ?bL7 ?_; (case bP7 => exact rfl); (case bO7 => exact HR7.out); (case bB7 => exact HB7.out); (case bS7 => exact hz7); (case bL7 => rw [← HNA.out]; omega); intro t7 W7 hr hb hg _; have HT7 := Lib.hid hr; have HU7 := Lib.hid hb; clear hr hb hg HR7 HB7))
  obtain ⟨ly, hly⟩ : ∃ l, l = la ++ [other] := ⟨_, rfl⟩
  have HLY := Lib.hid hly
  have ht7 := HT7.out
  rw [← hly] at ht7
  obtain ⟨Ay, cy, rfl, hcy, hCy⟩ := Kd.R_reads ht7
  obtain ⟨ny, hny⟩ : ∃ k, k = ly.length := ⟨_, rfl⟩
  have HNY := Lib.hid hny
  have gy : ny ≤ na + 1 := by rw [hny, hly, List.length_append, ← HNA.out]; exact Nat.le_refl _
  have CY4 := Lib.hid hCy
  have HCCY := Lib.hid hcy
  have hUU := HU7.out
  have CP4 := Lib.hid (Kd.C_below CP3.out hUU)
  have CA4 := Lib.hid (Kd.C_below CA3.out hUU)
  have CB4 := Lib.hid (Kd.C_below CB3.out hUU)
  have CX4 := Lib.hid (Kd.C_below CX3.out hUU)
  have B4 : Hid (Below w.heap.size w W7) := B3.out.trans (hUU.mono B3.out.size)
  rw [← hny]
  clear hly ht7 hcy hCy hny hUU HT7 HU7 B3 hz7 CP3 CA3 CB3 CX3
  go_upto_region 9 with (first | ((with_reducible refine gate_builtin (b := .append) (xs := #[.tmp 52, .tmp 53]) rfl ?_); at_builtin; refine Kd.R_append_row (Value.int .i64) (0 : Int) (h1 := fun _ => rfl) (w0 := W7) W7.heap.size rfl (.tmp 52) (.tmp 53) 22 3 (.int .i64 0) 8 rfl Tryd.underlying22 info3 rfl (by omega) (.slice (some ⟨W7.heap.size, 0, none⟩) 0 0) [] lb Ab nb cb (fun _ => True) rfl rfl (fun _ _ => trivial) ?aO8 ?aR8 ?aB8 ?aS8 ?aL8 ?_; (case aO8 => exact R_empty W7); (case aR8 => rw [HNB.out]; exact Kd.C_below CB4.out ((Below.refl _ _).alloc (Nat.le_refl _) _)); (case aB8 => exact (Below.refl _ _).alloc (Nat.le_refl _) _); (case aS8 => simp); (case aL8 => simp; omega); intro v8 u8 hr hb hg _; have HR8 : Hid ((Kd.int .i64).R 3 u8 W7.heap.size (fun _ => True) v8 lb) := hr; have HB8 := Lib.hid hb; have hz8 := hb.size; clear hr hb hg) | ((with_reducible refine gate_builtin (b := .append) (xs := #[.tmp 54, .tmp 57]) rfl ?_); at_builtin; refine Kd.R_append (Kd.int .i64) (w0 := W7) W7.heap.size rfl (.tmp 54) (.tmp 57) 22 3 (.int .i64 0) 8 rfl Tryd.underlying22 info3 rfl (by decide) (by omega) v8 lb (other) [.int .i64 (other)] (fun _ => True) (fun _ => False) rfl rfl ?bP8 (fun _ hk => hk.elim) (fun _ _ => trivial) ?bO8 ?bB8 ?bS8 ?bL8 ?_; (case bP8 => exact rfl); (case bO8 => exact HR8.out); (case bB8 => exact HB8.out); (case bS8 => exact hz8); (case bL8 => rw [← HNB.out]; omega); intro t8 W8 hr hb hg _; have HT8 := Lib.hid hr; have HU8 := Lib.hid hb; clear hr hb hg HR8 HB8))
  obtain ⟨lz, hlz⟩ : ∃ l, l = lb ++ [other] := ⟨_, rfl⟩
  have HLZ := Lib.hid hlz
  have ht8 := HT8.out
  rw [← hlz] at ht8
  obtain ⟨Az, cz, rfl, hcz, hCz⟩ := Kd.R_reads ht8
  obtain ⟨nz, hnz⟩ : ∃ k, k = lz.length := ⟨_, rfl⟩
  have HNZ := Lib.hid hnz
  have gz : nz ≤ nb + 1 := by rw [hnz, hlz, List.length_append, ← HNB.out]; exact Nat.le_refl _
  have CZ5 := Lib.hid hCz
  have HCCZ := Lib.hid hcz
  have hUU := HU8.out
  have CP5 := Lib.hid (Kd.C_below CP4.out hUU)
  have CA5 := Lib.hid (Kd.C_below CA4.out hUU)
  have CB5 := Lib.hid (Kd.C_below CB4.out hUU)
  have CX5 := Lib.hid (Kd.C_below CX4.out hUU)
  have CY5 := Lib.hid (Kd.C_below CY4.out hUU)
  have B5 : Hid (Below w.heap.size w W8) := B4.out.trans (hUU.mono B4.out.size)
  rw [← hnz]
  clear hlz ht8 hcz hCz hnz hUU HT8 HU8 B4 hz8 CP4 CA4 CB4 CX4 CY4
  obtain ⟨r5, hr5⟩ : ∃ r, r = cmpL lx ly := ⟨_, rfl⟩
  have q5 : (r5 == -1) = decide (kid < other) := by
    rw [hr5, HLX.out, HLY.out, cmp3]
    by_cases h : kid < other
    · rw [if_pos h, decide_eq_true h]; rfl
    · rw [if_neg h, decide_eq_false h]
      split <;> rfl
  have K0 : Hid (∀ X, Below W8.heap.size W8 X → Calls Tryd.prog 7 #[.slice A0 np c0, .slice Aa na ca] X fun e X' => e = .returned (.int .i64 (-1)) ∧ Below W8.heap.size W8 X') := fun X hX => by
    have h := Compare_any p la A0 Aa c0 ca X (Kd.C_below CP5.out hX) HCC.out (Kd.C_below CA5.out hX) HCCA.out (by rw [← HNP.out]; omega) (by rw [← HNA.out]; omega)
    rw [← HNP.out, ← HNA.out, show cmpL p la = (-1) from by rw [HLA.out]; exact cmp1 _ _] at h
    exact h.mono (by rintro e X' ⟨rfl, hd⟩; exact ⟨rfl, hX.trans (hd.below.mono hX.size)⟩)
  have K1 : Hid (∀ X, Below W8.heap.size W8 X → Calls Tryd.prog 7 #[.slice Aa na ca, .slice Ax nx cx] X fun e X' => e = .returned (.int .i64 (-1)) ∧ Below W8.heap.size W8 X') := fun X hX => by
    have h := Compare_any la lx Aa Ax ca cx X (Kd.C_below CA5.out hX) HCCA.out (Kd.C_below CX5.out hX) HCCX.out (by rw [← HNA.out]; omega) (by rw [← HNX.out]; omega)
    rw [← HNA.out, ← HNX.out, show cmpL la lx = (-1) from by rw [HLX.out]; exact cmp1 _ _] at h
    exact h.mono (by rintro e X' ⟨rfl, hd⟩; exact ⟨rfl, hX.trans (hd.below.mono hX.size)⟩)
  have K2 : Hid (∀ X, Below W8.heap.size W8 X → Calls Tryd.prog 7 #[.slice Ax nx cx, .slice Ab nb cb] X fun e X' => e = .returned (.int .i64 (-1)) ∧ Below W8.heap.size W8 X') := fun X hX => by
    have h := Compare_any lx lb Ax Ab cx cb X (Kd.C_below CX5.out hX) HCCX.out (Kd.C_below CB5.out hX) HCCB.out (by rw [← HNX.out]; omega) (by rw [← HNB.out]; omega)
    rw [← HNX.out, ← HNB.out, show cmpL lx lb = (-1) from by rw [HLX.out, HLA.out, HLB.out]; have h := cmp2 p n kid []; rwa [List.append_nil] at h] at h
    exact h.mono (by rintro e X' ⟨rfl, hd⟩; exact ⟨rfl, hX.trans (hd.below.mono hX.size)⟩)
  have K3 : Hid (∀ X, Below W8.heap.size W8 X → Calls Tryd.prog 7 #[.slice Ax nx cx, .slice Az nz cz] X fun e X' => e = .returned (.int .i64 (-1)) ∧ Below W8.heap.size W8 X') := fun X hX => by
    have h := Compare_any lx lz Ax Az cx cz X (Kd.C_below CX5.out hX) HCCX.out (Kd.C_below CZ5.out hX) HCCZ.out (by rw [← HNX.out]; omega) (by rw [← HNZ.out]; omega)
    rw [← HNX.out, ← HNZ.out, show cmpL lx lz = (-1) from by rw [HLX.out, HLA.out, HLZ.out, HLB.out]; exact cmp2 p n kid [other]] at h
    exact h.mono (by rintro e X' ⟨rfl, hd⟩; exact ⟨rfl, hX.trans (hd.below.mono hX.size)⟩)
  have K4 : Hid (∀ X, Below W8.heap.size W8 X → Calls Tryd.prog 7 #[.slice Ax nx cx, .slice Ay ny cy] X fun e X' => e = .returned (.int .i64 r5) ∧ Below W8.heap.size W8 X') := fun X hX => by
    have h := Compare_any lx ly Ax Ay cx cy X (Kd.C_below CX5.out hX) HCCX.out (Kd.C_below CY5.out hX) HCCY.out (by rw [← HNX.out]; omega) (by rw [← HNY.out]; omega)
    rw [← HNX.out, ← HNY.out, show cmpL lx ly = r5 from hr5.symm] at h
    exact h.mono (by rintro e X' ⟨rfl, hd⟩; exact ⟨rfl, hX.trans (hd.below.mono hX.size)⟩)
  clear hr5 CP5 CA5 CB5 CX5 CY5 CZ5
  have D0 : Hid (Below W8.heap.size W8 W8) := Below.refl _ _
  go_wp2_with fail
  refine (K0.out _ D0.out).mono ?_
  rintro e X1 ⟨rfl, hd⟩
  have D1 := Lib.hid hd
  clear hd D0 K0
  go_wp2_with fail
  refine (K1.out _ D1.out).mono ?_
  rintro e X2 ⟨rfl, hd⟩
  have D2 := Lib.hid hd
  clear hd D1 K1
  go_wp2_with fail
  refine (K2.out _ D2.out).mono ?_
  rintro e X3 ⟨rfl, hd⟩
  have D3 := Lib.hid hd
  clear hd D2 K2
  go_wp2_with fail
  refine (K3.out _ D3.out).mono ?_
  rintro e X4 ⟨rfl, hd⟩
  have D4 := Lib.hid hd
  clear hd D3 K3
  go_wp2_with fail
  refine (K4.out _ D4.out).mono ?_
  rintro e X5 ⟨rfl, hd⟩
  have D5 := Lib.hid hd
  clear hd D4 K4
  go_wp2_with fail
  refine (awake_any _).mono ?_
  rintro e X6 ⟨rfl, hd⟩
  have D6 : Hid (Below w.heap.size w X6) := B5.out.trans ((D5.out.trans (hd.mono D5.out.size)).mono B5.out.size)
  clear hd
  go_wp2_with fail
  go_ret
  exact ⟨rfl, D6.out⟩
set_option maxHeartbeats 2000000 in
theorem walk_long (w : World) (A0 : Option Addr) (c0 np : Nat) (n kid other : Int) (hl : 50 < np) :
    Calls Tryd.prog 3 #[.agg #[.slice A0 np c0, .int .u32 n, .int .u32 kid, .int .u32 other]] w fun e w' => e = .returned (.bool true) ∧ Below w.heap.size w w' := by
  have d0 : (decide ((np : Int) > 50)) = true := by simp; omega
  go_enter Tryd.func3, Tryd.ntmps3
  go_wp2_with fail
  go_quiet (fail)
  go_wp2_with fail
  go_ret
  exact ⟨rfl, pw_below_drewN ((Below.refl _ _).alloc (Nat.le_refl _) _) nq⟩
theorem walk (w : World) (v0 : Array Value) (x0 : S25) (hk0 : k25.K w x0 v0.toList) (w0 : w25 x0) :
    Calls Tryd.prog 3 #[.agg v0] w fun e w' => e = .returned (.bool true) ∧ Below w.heap.size w w' := by
  obtain ⟨p, n, kid, other⟩ := x0
  obtain ⟨w1, w2, w3, w4⟩ := w0
  simp [Lit.wf, IntKind.min, IntKind.max, IntKind.bits, IntKind.signed] at w2 w3 w4
  obtain ⟨ca, cb, e1, ⟨A0, c0, rfl, hc, hC⟩, ⟨cc, cd, rfl, rfl, ⟨ce, cf, rfl, rfl, rfl⟩⟩⟩ := hk0
  obtain rfl : v0 = #[.slice A0 p.length c0, .int .u32 n, .int .u32 kid, .int .u32 other] := by
    apply Array.ext'
    rw [e1]
    rfl
  by_cases h : p.length ≤ 50
  · exact walk_short w A0 c0 p hC hc n kid other (by omega) (by omega) (by omega) (by omega) (by omega) (by omega) h
  · exact walk_long w A0 c0 _ n kid other (by omega)
end Go.Proofs.YtakkfilcecegeaaDoor.RPathSorts
