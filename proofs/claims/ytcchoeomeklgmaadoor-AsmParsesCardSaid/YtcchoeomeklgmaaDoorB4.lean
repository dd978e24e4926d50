/- The document's reading of an instruction: the walk. -/
import Derived.Test.YtcchoeomeklgmaaDoorB3
import Derived.Outline
namespace Go.Proofs.YtcchoeomeklgmaaDoor.Core
open Go.RowKit Go.Shelf Go.Proofs.YtcchoeomeklgmaaDoorW.PrintWords Go.Proofs.YtcchoeomeklgmaaDoorW.PrintMore Go.Proofs.YtcchoeomeklgmaaDoor.P2 Go.Proofs.YtcchoeomeklgmaaDoor
open Go.Proofs.YtcchoeomeklgmaaDoor.PAsmParses (S69 k69 z69 S67 k67 z67)
set_option linter.unusedVariables false
set_option linter.unusedSimpArgs false
abbrev ints (l : List Int) : Array Value := (l.map (Value.int .i64)).toArray
/-- What the document reads of an instruction's words. -/
def GivesRI (w : World) : Option (Int × List Int) → Ending → World → Prop
  | some i, e, w' => e = .returned (.tuple #[.agg (ints (i.1 :: i.2)), .bool true]) ∧ Below w.heap.size w w'
  | none, e, w' => ∃ a0 a1 a2 a3 a4 : Int, e = .returned (.tuple #[.agg (ints [a0, a1, a2, a3, a4]), .bool false]) ∧ Below w.heap.size w w'
theorem results_row_t {fn : Func} {P : Program} {p q : Tmp} {ty : TypeId} (h : fn.results = #[.cell p ty, .tmp q]) (tmps : Array Value) (w : World) (g : Nat) (t : TypeId) (cs : Array Value) (fr : Nat × Nat) (d : TypeDesc) (u : Value)
    (hp : tmps.getD p undef = .pointer (some ⟨g, 0, none⟩)) (hq : tmps.getD q undef = u) (hg : w.heap[g]? = some (.cells cs t fr))
    (hu : P.underlying ty = some d) (hd : (match d with | .struct _ | .array _ _ => true | _ => false) = true) (hi : (P.info? ty).map (·.size) = some cs.size) :
    (results fn tmps).run P w = .ok (.tuple #[.agg cs, u]) w := by
  have hp' : tmps[p]?.getD undef = .pointer (some ⟨g, 0, none⟩) := by simpa using hp
  have hq' : tmps[q]?.getD undef = u := by simpa using hq
  simp [results, h, hp', hq', asAddr, run_loadVar_row w g t ty cs fr d hg hu hd hi]
theorem bx_beq (a b : List UInt8) : ((bx a).toList == (bx b).toList) = (a == b) := by simp [bx]
/-- Cells ahead of a world hold in one that has turned a single newer block. -/
structure Ahead (W3 W : World) (g : Nat) : Prop where
  same : ∀ q, q < W3.heap.size → q ≠ g → W.heap[q]? = W3.heap[q]?
  size : W3.heap.size ≤ W.heap.size
theorem Ahead.cell {W3 W : World} {g : Nat} (h : Ahead W3 W g) {a : Addr} {v : Value} (hc : W3.cell? a = some v) (hne : a.block ≠ g) : W.cell? a = some v := by
  have hlt : a.block < W3.heap.size := by
    obtain ⟨b, o, s⟩ := a
    unfold World.cell? at hc
    cases hh : W3.heap[b]? with
    | none => simp [hh] at hc
    | some x => exact (Array.getElem?_eq_some_iff.1 hh).1
  have h2 := h.same a.block hlt hne
  unfold World.cell? at hc ⊢
  rw [h2]
  exact hc
theorem Ahead.set {W3 W : World} {g o : Nat} (h : Ahead W3 W g) (v : Value) : Ahead W3 (W.setCell ⟨g, o, none⟩ v) g :=
  ⟨fun q hq hne => (Below.heap_setCell W _ v q (by show q ≠ g; exact hne)).trans (h.same q hq hne), Nat.le_trans h.size (KeepsOthers.setCell W _ v).size⟩
theorem Ahead.drewN {W3 W : World} {g : Nat} (h : Ahead W3 W g) (n : Nat) : Ahead W3 (W.drewN n) g :=
  ⟨fun q hq hne => ((pw_below_drewN (Below.refl W.heap.size W) n).block q (Nat.lt_of_lt_of_le hq h.size)).trans (h.same q hq hne), Nat.le_trans h.size (pw_below_drewN (Below.refl W.heap.size W) n).size⟩
theorem Ahead.refl (W : World) (g : Nat) : Ahead W W g := ⟨fun _ _ _ => rfl, Nat.le_refl _⟩
theorem sign_iff (u m : UInt8) : signOk u m = true ↔ (u = 48 ∧ m = 45) ∨ ((u = 114 ∨ u = 104 ∨ u = 102) ∧ m = u) ∨ (u ≠ 48 ∧ u ≠ 114 ∧ u ≠ 104 ∧ u ≠ 102 ∧ m = 61) := by
  unfold signOk
  simp only [Bool.or_eq_true, Bool.and_eq_true, beq_iff_eq, bne_iff_ne, or_assoc, and_assoc, ne_eq]
theorem sign48 {m : UInt8} (h : signOk 48 m = true) : m = 45 := by
  rcases (sign_iff 48 m).1 h with h | ⟨h, _⟩ | h
  · exact h.2
  · rcases h with h | h | h <;> exact absurd h (by decide)
  · exact absurd rfl h.1
theorem sign_other {u m : UInt8} (h : signOk u m = true) (h48 : u ≠ 48) : ((u = 114 ∨ u = 104 ∨ u = 102) ∧ m = u) ∨ (u ≠ 114 ∧ u ≠ 104 ∧ u ≠ 102 ∧ m = 61) := by
  rcases (sign_iff u m).1 h with h | h | h
  · exact absurd h.1 h48
  · exact .inl h
  · exact .inr h.2
theorem bx_get (us : List UInt8) (U : ByteArray) (hU : U = bx us) (j : Nat) (h1 : j < us.length) (h : j < U.size) : U[j]'h = us[j] := by
  subst hU
  rfl
theorem set5 {W : World} {b : Nat} {z0 z1 z2 z3 z4 : Int} (h : W.heap[b]? = some (.cells (ints [z0, z1, z2, z3, z4]) 69 (0, 0))) (a0 a1 a2 a3 a4 : Int) :
    (((((W.setCell ⟨b, 0, none⟩ (.int .i64 a0)).setCell ⟨b, 1, none⟩ (.int .i64 a1)).setCell ⟨b, 2, none⟩ (.int .i64 a2)).setCell ⟨b, 3, none⟩ (.int .i64 a3)).setCell ⟨b, 4, none⟩ (.int .i64 a4)).heap[b]? = some (.cells (ints [a0, a1, a2, a3, a4]) 69 (0, 0)) :=
  blk_set (blk_set (blk_set (blk_set (blk_set h 0 _) 1 _) 2 _) 3 _) 4 _
theorem below5 {w W : World} {b base : Nat} (hb : base ≤ b) (h : Below base w W) (a0 a1 a2 a3 a4 : Value) :
    Below base w (((((W.setCell ⟨b, 0, none⟩ a0).setCell ⟨b, 1, none⟩ a1).setCell ⟨b, 2, none⟩ a2).setCell ⟨b, 3, none⟩ a3).setCell ⟨b, 4, none⟩ a4) :=
  ((((h.setCell (p := ⟨b, 0, none⟩) hb _).setCell (p := ⟨b, 1, none⟩) hb _).setCell (p := ⟨b, 2, none⟩) hb _).setCell (p := ⟨b, 3, none⟩) hb _).setCell (p := ⟨b, 4, none⟩) hb _
/-- The blocks of the document's reading. -/
structure St28 (w : World) (o nb : Nat) (row : List Int) (W : World) : Prop where
  below : Below w.heap.size w W
  x4 : W.heap[w.heap.size + 1]? = some (.cells (ints [(o : Nat), 0, 0, 0, 0]) 69 (0, 0))
  x0 : W.heap[w.heap.size]? = some (.cells (ints [0, 0, 0, 0, 0]) 69 (0, 0))
  n : W.heap[nb]? = some (.cells (ints row) 85 (0, 0))
theorem St28.drawn {w W W' : World} {o nb : Nat} {row : List Int} (h : St28 w o nb row W) (hb : Below W.heap.size W W') : St28 w o nb row W' :=
  ⟨h.below.trans (hb.mono h.below.size), blk_below h.x4 hb, blk_below h.x0 hb, blk_below h.n hb⟩
theorem St28.put {w W : World} {o nb j : Nat} {acc z : List Int} (h : St28 w o nb (acc ++ [0] ++ z) W) (hnb : w.heap.size + 1 < nb) (hj : acc.length = j) (v : Int) : St28 w o nb (acc ++ [v] ++ z) (W.setCell ⟨nb, j, none⟩ (.int .i64 v)) :=
  ⟨h.below.setCell (p := ⟨nb, j, none⟩) (by show w.heap.size ≤ nb; omega) _, blk_far h.x4 (by show _ ≠ nb; omega) _, blk_far h.x0 (by show _ ≠ nb; omega) _, by
    have := blk_set h.n j (.int .i64 v)
    rwa [set_at acc z v j hj] at this⟩
theorem St28.end_ {w W : World} {o nb : Nat} {row : List Int} (h : St28 w o nb row W) (a0 a1 a2 a3 a4 : Int) :
    (((((W.setCell ⟨w.heap.size, 0, none⟩ (.int .i64 a0)).setCell ⟨w.heap.size, 1, none⟩ (.int .i64 a1)).setCell ⟨w.heap.size, 2, none⟩ (.int .i64 a2)).setCell ⟨w.heap.size, 3, none⟩ (.int .i64 a3)).setCell ⟨w.heap.size, 4, none⟩ (.int .i64 a4)).heap[w.heap.size]? = some (.cells (ints [a0, a1, a2, a3, a4]) 69 (0, 0)) := set5 h.x0 _ _ _ _ _
theorem cell_of_blk {W : World} {b t : Nat} {l : List Int} (h : W.heap[b]? = some (.cells (ints l) t (0, 0))) (j : Nat) (v : Int) (hj : l[j]? = some v) : W.cell? ⟨b, j, none⟩ = some (.int .i64 v) := by
  rw [blk_cell h j]
  simp [hj]
theorem small_bind (ch : UInt8) (t : List UInt8) : smallL (ch :: t) ch = (plainL t).bind fun n => if n ≤ 255 then some n else none := by
  have hp : Lib.hasPrefix (ch :: t) [ch] = true := by simp [Lib.hasPrefix]
  have htp : Lib.trimPrefix (ch :: t) [ch] = t := by unfold Lib.trimPrefix; rw [if_pos hp]; rfl
  unfold smallL
  rw [if_pos hp, htp]
theorem small_ne (ch m : UInt8) (t : List UInt8) (h : ch ≠ m) : smallL (ch :: t) m = none := by
  have hp : Lib.hasPrefix (ch :: t) [m] = false := by
    cases hb : Lib.hasPrefix (ch :: t) [m] with
    | false => rfl
    | true =>
      have h2 : ([m] : List UInt8).isPrefixOf (ch :: t) = true := hb
      simp only [List.isPrefixOf, Bool.and_true, beq_iff_eq] at h2
      exact absurd h2.symm h
  unfold smallL
  rw [hp]
  rfl
theorem rnumber_plain (t : List UInt8) : ∃ r, (∀ v, plainL t = some v → r = v) ∧ ∀ W, Calls Tryd.prog 27 #[.string (bx t), .bool false] W fun e w' => e = .returned (.tuple #[.int .i64 r, .bool (plainL t).isSome]) ∧ Below W.heap.size W w' := by
  obtain ⟨k, r, h1, h2⟩ := number_plain t
  refine ⟨r, h2, fun W => (haymowref04_number.calls k _ _ _ _ W h1).mono ?_⟩
  rintro e w' ⟨he, ⟨nd, rfl⟩⟩
  exact ⟨he, pw_below_drewN (Below.refl _ _) nd⟩
theorem rnumber_signed (t : List UInt8) : ∃ r, (∀ v, numS t = some v → r = v) ∧ ∀ W, Calls Tryd.prog 27 #[.string (bx t), .bool true] W fun e w' => e = .returned (.tuple #[.int .i64 r, .bool (numS t).isSome]) ∧ Below W.heap.size W w' := by
  obtain ⟨k, r, h1, h2⟩ := number_signed t
  refine ⟨r, h2, fun W => (haymowref04_number.calls k _ _ _ _ W h1).mono ?_⟩
  rintro e w' ⟨he, ⟨nd, rfl⟩⟩
  exact ⟨he, pw_below_drewN (Below.refl _ _) nd⟩
/-- The blocks while the fields are laid in. -/
structure St28x (w : World) (x : List Int) (nb : Nat) (row : List Int) (W : World) : Prop where
  below : Below w.heap.size w W
  x4 : W.heap[w.heap.size + 1]? = some (.cells (ints x) 69 (0, 0))
  x0 : W.heap[w.heap.size]? = some (.cells (ints [0, 0, 0, 0, 0]) 69 (0, 0))
  n : W.heap[nb]? = some (.cells (ints row) 85 (0, 0))
abbrev xrow (o : Nat) (a0 a1 a2 a3 : Int) : Nat → List Int
  | 0 => [(o : Int), 0, 0, 0, 0] | 1 => [(o : Int), a0, 0, 0, 0] | 2 => [(o : Int), a0, a1, 0, 0] | 3 => [(o : Int), a0, a1, a2, 0] | _ => [(o : Int), a0, a1, a2, a3]
theorem St28x.drew {w W : World} {x : List Int} {nb : Nat} {row : List Int} (h : St28x w x nb row W) : St28x w x nb row W.drew := ⟨h.below.trans (pw_below_drewN (Below.refl _ _) 1), h.x4, h.x0, h.n⟩
theorem St28x.putx {w W : World} {x x' : List Int} {nb j : Nat} {row : List Int} {v : Int} (h : St28x w x nb row W) (hx : x' = x.set j v) (hnb : w.heap.size + 1 < nb) : St28x w x' nb row (W.setCell ⟨w.heap.size + 1, j, none⟩ (.int .i64 v)) :=
  ⟨h.below.setCell (p := ⟨w.heap.size + 1, j, none⟩) (by show w.heap.size ≤ w.heap.size + 1; omega) _, by
    have := blk_set h.x4 j (.int .i64 v)
    rw [hx, this]
    simp [ints, List.map_set], blk_far h.x0 (by show w.heap.size ≠ w.heap.size + 1; omega) _, blk_far h.n (by show nb ≠ w.heap.size + 1; omega) _⟩
set_option maxRecDepth 100000 in
set_option maxHeartbeats 8000000 in
theorem rinstr_any (x : List UInt8) (ws : List (List UInt8)) (A : Option Addr) (c : Nat) (w : World) (hC : Kd.string.C w A (wB (x :: ws)).length (wB (x :: ws))) (hn : ws.length ≤ 100000) :
    Calls Tryd.prog 28 #[.slice A (wB (x :: ws)).length c] w (GivesRI w (instrL (x :: ws))) := by
  obtain ⟨n, hnn⟩ : ∃ n, n = ws.length + 1 := ⟨_, rfl⟩
  have hlen : (wB (x :: ws)).length = n := by simp [hnn]
  rw [hlen] at hC ⊢
  obtain ⟨ad, rfl, hw⟩ := (Kd.reads_of_C (enc := Value.string) (d := ByteArray.empty) (h1 := fun _ => rfl) hC).2.2 (by omega)
  have HWD : Hid (∀ j, j < n → w.cell? (ad.add j) = some (.string (bx ((x :: ws).getD j [])))) := by
    intro j hj
    have h := hw j hj
    have hl : j < (x :: ws).length := by simp; omega
    have e : rdOf ByteArray.empty (wB (x :: ws)) (j : Int) = bx ((x :: ws).getD j []) := by
      unfold rdOf
      simp only [Int.toNat_natCast, List.getD, List.getElem?_map, List.getElem?_eq_getElem hl, Option.map_some, Option.getD_some]
    rw [← e]
    simpa [rdOf] using h
  have hadlt : ad.block < w.heap.size := by
    have h := HWD.out 0 (by omega)
    exact World.block_lt_of_cell? w ad (by cases ad; simpa [Addr.add] using h)
  have HAL := Lib.hid hadlt
  have HNN := Lib.hid hnn
  have HN1 : Hid (n ≤ 100001) := by show _ ≤ _; omega
  have hn1 : 1 ≤ n := by omega
  clear hC hlen hw hadlt hnn hn
  go_enter Tryd.func28, Tryd.ntmps28
  go_wp2_with fail
  refine (rnames_any _).mono ?_
  rintro _ W3 ⟨v1, rfl, hR1, hb3⟩
  obtain ⟨gn, cn, hv1, hgn, _, _⟩ := Kd.R_form hR1 (by decide)
  subst hv1
  have hCn := (Kd.R_reads' hR1).2.2
  have hnl : (wB namesR).length = 18 := rfl
  rw [hnl] at hCn ⊢
  obtain ⟨adn, hadn, hnm⟩ := (Kd.reads_of_C (enc := Value.string) (d := ByteArray.empty) (h1 := fun _ => rfl) hCn).2.2 (by decide)
  injection hadn with hadn
  subst hadn
  have hgn4 : gn ≠ w.heap.size + 1 := by simp at hgn; omega
  have HNM : Hid (∀ j, j < 18 → W3.cell? ⟨gn, j, none⟩ = some (.string (bx (namesR.getD j [])))) := by
    intro j hj
    have h := hnm j hj
    have hl : j < namesR.length := hj
    have e : (wB namesR).getD j ByteArray.empty = bx (namesR.getD j []) := by
      simp only [List.getD, List.getElem?_map, List.getElem?_eq_getElem hl, Option.map_some, Option.getD_some]
    rw [← e]
    rw [add_plain] at h
    exact h
  have hbw : Below w.heap.size w ((w.alloc (.cells #[.int .i64 0, .int .i64 0, .int .i64 0, .int .i64 0, .int .i64 0] 69)).alloc (.cells #[.int .i64 0, .int .i64 0, .int .i64 0, .int .i64 0, .int .i64 0] 69)) := ((Below.refl _ _).alloc (Nat.le_refl _) _).alloc (by simp) _
  have HB3 : Hid (Below w.heap.size w W3) := hbw.trans (hb3.mono (by simp; omega))
  have HX0 : Hid (W3.heap[w.heap.size]? = some (.cells (ints [0, 0, 0, 0, 0]) 69 (0, 0))) :=
    blk_below ((Below.heap_alloc _ _ _ (by simp)).trans (heap_alloc_new w _)) hb3
  have HX4 : Hid (W3.heap[w.heap.size + 1]? = some (.cells (ints [0, 0, 0, 0, 0]) 69 (0, 0))) := by
    have h := heap_alloc_new (w.alloc (.cells #[.int .i64 0, .int .i64 0, .int .i64 0, .int .i64 0, .int .i64 0] 69)) (.cells #[.int .i64 0, .int .i64 0, .int .i64 0, .int .i64 0, .int .i64 0] 69)
    rw [World.size_alloc] at h
    exact blk_below h hb3
  have HG4 := Lib.hid hgn4
  clear hb3 hR1 hCn hnm hgn hgn4 hbw hnl
  go_wp2_with fail
  go_loopg [6] 17 (fun d i W => ∃ q : Nat, q + 1 + d = 18 ∧ i = .int .i64 ((q + 1 : Nat) : Int) ∧ Hid (Ahead W3 W (w.heap.size + 1)) ∧ Hid (W.heap[w.heap.size + 1]? = some (.cells (ints [(opTo x q : Nat), 0, 0, 0, 0]) 69 (0, 0))) ∧ Hid (Below w.heap.size w W))
  case atStart => exact ⟨0, rfl, rfl, Ahead.refl _ _, HX4, HB3⟩
  case round =>
    obtain ⟨q, hqd, rfl, hA, hX, hB⟩ := hrel
    have HQ := Lib.hid hqd
    clear hqd
    by_cases hq : q < 17
    · have hcn := hA.out.cell (HNM.out (q + 1) (by omega)) (show gn ≠ _ from HG4.out)
      have hcw : wr.cell? ad = some (.string (bx x)) := by
        have h := HWD.out 0 (by omega)
        have e : ad.add 0 = ad := by cases ad; simp [Addr.add]
        rw [e] at h
        exact (hB.out.cell (World.block_lt_of_cell? w _ h)).trans h
      obtain ⟨Nm, hNm⟩ : ∃ B, B = bx (namesR.getD (q + 1) []) := ⟨_, rfl⟩
      obtain ⟨X, hX'⟩ : ∃ B, B = bx x := ⟨_, rfl⟩
      have HEQ : Hid ((Nm.toList == X.toList) = decide (namesR.getD (q + 1) [] = x)) := by
        show _ = _
        rw [hNm, hX']
        rw [bx_beq]
        by_cases h : namesR.getD (q + 1) [] = x
        · rw [h, decide_eq_true rfl]; simp
        · rw [decide_eq_false h, beq_eq_false_iff_ne]
          exact h
      rw [← hNm] at hcn
      rw [← hX'] at hcw
      have hq1 : ((q : Int) + 1) < 18 := by omega
      have hq2 : decide ((q : Int) + 1 < 18) = true := decide_eq_true hq1
      have hq0 : 0 ≤ (q : Int) + 1 := by omega
      have hwr : wrap64 ((q : Int) + 1 + 1) = ((q + 1 + 1 : Nat) : Int) := by unfold wrap64; omega
      clear hNm hX'
      by_cases hit : namesR.getD (q + 1) [] = x
      · have hbe : (Nm.toList == X.toList) = true := by rw [HEQ.out, decide_eq_true hit]
        have k0 := blk_frozen hX.out 0
        have k1 := blk_cell hX.out 0
        simp only [List.getElem?_toArray, List.map_cons, List.getElem?_cons_zero] at k1
        go_wp2_with fail
        go_quiet (fail)
        have HB2 : Hid (Below w.heap.size w ((wr.drewN nq).setCell ⟨w.heap.size + 1, 0, none⟩ (.int .i64 ((q : Int) + 1)))) := (pw_below_drewN hB.out _).setCell (p := ⟨w.heap.size + 1, 0, none⟩) (by show _ ≤ w.heap.size + 1; omega) _
        have HA2 : Hid (Ahead W3 ((wr.drewN nq).setCell ⟨w.heap.size + 1, 0, none⟩ (.int .i64 ((q : Int) + 1))) (w.heap.size + 1)) := (hA.out.drewN _).set _
        have hXd := blk_below hX.out (pw_below_drewN (Below.refl wr.heap.size wr) nq)
        have HX2 : Hid (((wr.drewN nq).setCell ⟨w.heap.size + 1, 0, none⟩ (.int .i64 ((q : Int) + 1))).heap[w.heap.size + 1]? = some (.cells (ints [(opTo x (q + 1) : Nat), 0, 0, 0, 0]) 69 (0, 0))) := by
          have h := blk_set hXd 0 (.int .i64 ((q : Int) + 1))
          have e : opTo x (q + 1) = q + 1 := by unfold opTo; rw [if_pos hit]
          rw [e]
          exact h
        clear hXd
        go_wp2_with fail
        go_roundg (17 - (q + 1))
        case measure => have := HQ.out; omega
        case rel => exact ⟨q + 1, by omega, by go_num, HA2, HX2, HB2⟩
      · have hbe : (Nm.toList == X.toList) = false := by rw [HEQ.out, decide_eq_false hit]
        go_wp2_with fail
        go_quiet (fail)
        have HB2 : Hid (Below w.heap.size w (wr.drewN nq)) := pw_below_drewN hB.out _
        have HA2 : Hid (Ahead W3 (wr.drewN nq) (w.heap.size + 1)) := hA.out.drewN _
        have HX2 : Hid ((wr.drewN nq).heap[w.heap.size + 1]? = some (.cells (ints [(opTo x (q + 1) : Nat), 0, 0, 0, 0]) 69 (0, 0))) := by
          have e : opTo x (q + 1) = opTo x q := by
            show (if _ then _ else _) = _
            rw [if_neg hit]
          rw [e]
          exact blk_below hX.out (pw_below_drewN (Below.refl wr.heap.size wr) nq)
        go_wp2_with fail
        go_roundg (17 - (q + 1))
        case measure => have := HQ.out; omega
        case rel => exact ⟨q + 1, by omega, by go_num, HA2, HX2, HB2⟩
    · have hq17 : q = 17 := by have := HQ.out; omega
      subst hq17
      have hop := opTo_named x
      have hrg := namedL_range x
      obtain ⟨o, ho⟩ : ∃ o : Nat, o = opTo x 17 := ⟨_, rfl⟩
      rw [← ho] at hop hX
      have HOP := Lib.hid hop
      have ho17 : o ≤ 17 := by omega
      have k0 := blk_cell hX.out 0
      have k1 := blk_cell hX.out 1
      have k2 := blk_cell hX.out 2
      have k3 := blk_cell hX.out 3
      have k4 := blk_cell hX.out 4
      simp only [List.getElem?_toArray, List.map_cons, List.map_nil, List.getElem?_cons_zero, List.getElem?_cons_succ] at k0 k1 k2 k3 k4
      have hx0 := hA.out.same w.heap.size (blk_lt HX0.out) (by omega)
      rw [HX0.out] at hx0
      have HX0r := Lib.hid hx0
      have r0 := blk_cell hx0 0
      have r1 := blk_cell hx0 1
      have r2 := blk_cell hx0 2
      have r3 := blk_cell hx0 3
      have r4 := blk_cell hx0 4
      have q0 := blk_frozen hx0 0
      have q1 := blk_frozen hx0 1
      have q2 := blk_frozen hx0 2
      have q3 := blk_frozen hx0 3
      have q4 := blk_frozen hx0 4
      simp only [List.getElem?_toArray, List.map_cons, List.map_nil, List.getElem?_cons_zero, List.getElem?_cons_succ] at r0 r1 r2 r3 r4
      clear hop hrg ho hx0
      by_cases h0 : o = 0
      · subst h0
        have hin : instrL (x :: ws) = none := by
          show (if 0 < namedL x then _ else _) = _
          rw [if_neg (by have := HOP.out; omega)]
        have HIN := Lib.hid hin
        clear hin
        go_wp2_with fail
        refine bodyPost_ret (results_row_t rfl _ _ w.heap.size 69 _ (0, 0) _ _ rfl rfl (set5 HX0r.out _ _ _ _ _) Tryd.underlying69 rfl (by kernel_rfl)) rfl ?_
        rw [HIN.out]
        exact ⟨_, _, _, _, _, rfl, below5 (Nat.le_refl _) hB.out _ _ _ _ _⟩
      · have h0b : (((o : Nat) : Int) == 0) = false := by rw [beq_eq_false_iff_ne]; omega
        have HIN : Hid (instrL (x :: ws) = (fieldsL (marksL (o : Int)) ws).bind fun r => if r.2 = [] then some ((o : Int), r.1) else none) := by
          show (if 0 < namedL x then (fieldsL (marksL (namedL x)) ws).bind (fun r => if r.2 = [] then some (namedL x, r.1) else none) else none) = _
          rw [← HOP.out, if_pos (by omega)]
        have HUS := Lib.hid (fun W => ruses_any o (by omega) W)
        have HSG := Lib.hid (uses_marks o (by omega) (by omega))
        have HML := Lib.hid (marksL_len (o : Int))
        generalize marksL (o : Int) = mk at HIN HSG HML
        have HUL := Lib.hid HSG.out.1
        generalize usesL o = us at HUS HSG HUL
        obtain ⟨U, hU⟩ : ∃ B, B = bx us := ⟨_, rfl⟩
        rw [← hU] at HUS
        have HU := Lib.hid hU
        have hUs : U.size = 4 := by rw [hU, bx_size]; exact HUL.out
        have HX4r := Lib.hid hX.out
        clear hU k1 k2 k3 k4 r0 r1 r2 r3 r4 q0 q1 q2 q3 q4 hX HQ hA
        go_wp2_with fail
        refine (HUS.out _).mono ?_
        rintro _ W5 ⟨rfl, hb5⟩
        have HB5 : Hid (Below w.heap.size w W5) := hB.out.trans (hb5.mono hB.out.size)
        have HX45 : Hid (W5.heap[w.heap.size + 1]? = some (.cells (ints [(o : Nat), 0, 0, 0, 0]) 69 (0, 0))) := blk_below HX4r.out hb5
        have HX05 : Hid (W5.heap[w.heap.size]? = some (.cells (ints [0, 0, 0, 0, 0]) 69 (0, 0))) := blk_below HX0r.out hb5
        clear hb5 hB HX4r HX0r k0 HUS
        go_wp2_with fail
        obtain ⟨nb, hnb⟩ : ∃ b, b = W5.heap.size := ⟨_, rfl⟩
        have HNBB : Hid (w.heap.size + 1 < nb) := by show _ < _; rw [hnb]; exact blk_lt HX45.out
        have HN0 : Hid ((W5.alloc (.cells #[.int .i64 0, .int .i64 0, .int .i64 0, .int .i64 0] 85)).heap[nb]? = some (.cells (ints (([] : List Int) ++ zerosI (4 - 0))) 85 (0, 0))) := by show _ = _; rw [hnb]; exact heap_alloc_new W5 _
        have HB6 : Hid (Below w.heap.size w (W5.alloc (.cells #[.int .i64 0, .int .i64 0, .int .i64 0, .int .i64 0] 85))) := HB5.out.alloc HB5.out.size _
        have HX46 : Hid ((W5.alloc (.cells #[.int .i64 0, .int .i64 0, .int .i64 0, .int .i64 0] 85)).heap[w.heap.size + 1]? = some (.cells (ints [(o : Nat), 0, 0, 0, 0]) 69 (0, 0))) := (Below.heap_alloc _ _ _ (blk_lt HX45.out)).trans HX45.out
        have HX06 : Hid ((W5.alloc (.cells #[.int .i64 0, .int .i64 0, .int .i64 0, .int .i64 0] 85)).heap[w.heap.size]? = some (.cells (ints [0, 0, 0, 0, 0]) 69 (0, 0))) := (Below.heap_alloc _ _ _ (blk_lt HX05.out)).trans HX05.out
        rw [← hnb]
        clear hnb
        generalize W5.alloc (.cells #[.int .i64 0, .int .i64 0, .int .i64 0, .int .i64 0] 85) = W6 at *
        go_loopg [9, 10] 4 (fun d v9 v10 W => ∃ (j k' : Nat) (rest : List (List UInt8)) (acc : List Int), v10 = .int .i64 j ∧ v9 = .int .i64 k' ∧ Hid (j + d = 4) ∧ Hid (acc.length = j) ∧ Hid (rest = (x :: ws).drop k') ∧ Hid (k' + rest.length = n) ∧ Hid (Below w.heap.size w W) ∧
          Hid (W.heap[w.heap.size + 1]? = some (.cells (ints [(o : Nat), 0, 0, 0, 0]) 69 (0, 0))) ∧ Hid (W.heap[w.heap.size]? = some (.cells (ints [0, 0, 0, 0, 0]) 69 (0, 0))) ∧ Hid (W.heap[nb]? = some (.cells (ints (acc ++ zerosI (4 - j))) 85 (0, 0))) ∧
          Hid ((fieldsL (mk.drop j) rest).map (fun r => (acc ++ r.1, r.2)) = fieldsL mk ws))
        case atStart => exact ⟨0, 1, ws, [], rfl, rfl, rfl, rfl, rfl, by show _ = _; have := HNN.out; omega, HB6, HX46, HX06, HN0, by show _ = _; simp⟩
        case round =>
          obtain ⟨j, k', rest, acc, rfl, rfl, hjd, hal, hrd, hkr, hB, hX4, hX0, hN, hSP⟩ := hrel
          by_cases hj : j < 4
          · have hjm : j < mk.length := by have := HML.out; omega
            have hju : j < us.length := by have := HUL.out; omega
            obtain ⟨m, hm⟩ : ∃ m, mk[j] = m := ⟨_, rfl⟩
            obtain ⟨uc, huc⟩ : ∃ m, us[j] = m := ⟨_, rfl⟩
            have hsg := HSG.out.2 j hj
            rw [List.getD, List.getD, List.getElem?_eq_getElem hju, List.getElem?_eq_getElem hjm, Option.getD_some, Option.getD_some, hm, huc] at hsg
            have HDR : Hid (mk.drop j = m :: mk.drop (j + 1)) := by show _ = _; rw [List.drop_eq_getElem_cons hjm, hm]
            have hbj : ∀ h : j < U.size, U[j]'h = uc := fun h => by rw [← huc]; exact bx_get us U HU.out j hju h
            have hj2 : (j : Int) < 4 := by omega
            have hj3 : decide ((j : Int) < 4) = true := decide_eq_true hj2
            have hw1 : wrap64 ((j : Int) + 1) = ((j + 1 : Nat) : Int) := by unfold wrap64; omega
            have HSGN := Lib.hid hsg
            have HZ : Hid (acc ++ zerosI (4 - j) = acc ++ [0] ++ zerosI (4 - (j + 1))) := by
              show _ = _
              rw [show 4 - j = (4 - (j + 1)) + 1 by omega]
              simp [zerosI, List.replicate_succ]
            clear hsg hm huc hjm hju
            by_cases h48 : uc = 48
            · subst h48
              have hm45 : m = 45 := sign48 HSGN.out
              subst hm45
              have HNX : Hid ((fieldsL (mk.drop (j + 1)) rest).map (fun r => (acc ++ [0] ++ r.1, r.2)) = fieldsL mk ws) := by
                show _ = _
                rw [← hSP.out, HDR.out, fieldsL_minus]
                simp [Option.map_map, Function.comp_def]
              go_wp2_with fail
              go_roundg (4 - (j + 1))
              case measure => have := hjd.out; omega
              case rel => exact ⟨j + 1, k', rest, acc ++ [0], by go_num, rfl, by show _ = _; have := hjd.out; omega, by show _ = _; rw [List.length_append, hal.out]; rfl, hrd.out, hkr.out, hB.out, hX4.out, hX0.out, by show _ = _; rw [← HZ.out]; exact hN.out, HNX.out⟩
            · have h48b : (((uc.toNat : Nat) : Int) == 48) = false := by
                rw [beq_eq_false_iff_ne]
                intro h
                exact h48 (UInt8.toNat_inj.1 (by show _ = 48; omega))
              have hm45 : m ≠ 45 := by
                intro e
                rcases sign_other HSGN.out h48 with ⟨h1, h2⟩ | h1
                · rw [e] at h2; rcases h1 with h | h | h <;> rw [h] at h2 <;> exact absurd h2 (by decide)
                · rw [e] at h1; exact absurd h1.2.2.2 (by decide)
              have k0 := blk_cell hX4.out 0
              have k1 := blk_cell hX4.out 1
              have k2 := blk_cell hX4.out 2
              have k3 := blk_cell hX4.out 3
              have k4 := blk_cell hX4.out 4
              have r0 := blk_cell hX0.out 0
              have r1 := blk_cell hX0.out 1
              have r2 := blk_cell hX0.out 2
              have r3 := blk_cell hX0.out 3
              have r4 := blk_cell hX0.out 4
              have q0 := blk_frozen hX0.out 0
              have q1 := blk_frozen hX0.out 1
              have q2 := blk_frozen hX0.out 2
              have q3 := blk_frozen hX0.out 3
              have q4 := blk_frozen hX0.out 4
              simp only [List.getElem?_toArray, List.map_cons, List.map_nil, List.getElem?_cons_zero, List.getElem?_cons_succ] at k0 k1 k2 k3 k4 r0 r1 r2 r3 r4
              cases rest with
              | nil =>
                obtain rfl : k' = n := by have := hkr.out; simpa using this
                have hno : instrL (x :: ws) = none := by
                  have h1 := hSP.out
                  rw [HDR.out, fieldsL_none m _ hm45] at h1
                  rw [HIN.out, ← h1]
                  rfl
                have HNO := Lib.hid hno
                have hge : decide ((k' : Int) ≥ (k' : Int)) = true := decide_eq_true (Int.le_refl _)
                clear hno
                go_wp2_with fail
                refine bodyPost_ret (results_row_t rfl _ _ w.heap.size 69 _ (0, 0) _ _ rfl rfl (set5 hX0.out _ _ _ _ _) Tryd.underlying69 rfl (by kernel_rfl)) rfl ?_
                rw [HNO.out]
                exact ⟨_, _, _, _, _, rfl, below5 (Nat.le_refl _) hB.out _ _ _ _ _⟩
              | cons y rest =>
                have hkn : k' + 1 + rest.length = n := by have := hkr.out; simp at this; omega
                have hk1 : (k' : Int) < (n : Int) := by omega
                have hk2 : decide ((k' : Int) ≥ (n : Int)) = false := decide_eq_false (by omega)
                have hk3 : k' ≤ 100001 := by have := HN1.out; omega
                have hget : (x :: ws).getD k' [] = y := by
                  have h := hrd.out
                  have hl : k' < (x :: ws).length := by have := HNN.out; simp; omega
                  rw [List.drop_eq_getElem_cons hl] at h
                  injection h with h _
                  rw [List.getD, List.getElem?_eq_getElem hl, Option.getD_some]
                  exact h.symm
                have HRD : Hid (rest = (x :: ws).drop (k' + 1)) := by
                  have h := hrd.out
                  have hl : k' < (x :: ws).length := by have := HNN.out; simp; omega
                  rw [List.drop_eq_getElem_cons hl] at h
                  injection h with _ h
                have hcy : wr.cell? (ad.add k') = some (.string (bx y)) := by
                  have h := HWD.out k' (by omega)
                  rw [hget] at h
                  exact (hB.out.cell (World.block_lt_of_cell? w _ h)).trans h
                have HKN := Lib.hid hkn
                clear hget hkn
                rcases sign_other HSGN.out h48 with ⟨hsel, hmu⟩ | ⟨hs1, hs2, hs3, hmu⟩
                · subst hmu
                  have ST : Hid (St28 w o nb (acc ++ zerosI (4 - j)) wr) := ⟨hB.out, hX4.out, hX0.out, hN.out⟩
                  cases y with
                  | nil =>
                    obtain ⟨Y, hY⟩ : ∃ B, B = bx [] := ⟨_, rfl⟩
                    have hYs : Y.size = 0 := by rw [hY]; rfl
                    rw [← hY] at hcy
                    have hno : instrL (x :: ws) = none := by
                      have h1 := hSP.out
                      rw [HDR.out, fieldsL_some m _ [] rest hm45] at h1
                      have h61 : ¬ m = 61 := by rcases hsel with h | h | h <;> rw [h] <;> decide
                      rw [if_neg h61, show smallL [] m = none from rfl] at h1
                      rw [HIN.out, ← h1]
                      rfl
                    have HNO := Lib.hid hno
                    clear hno hY
                    rcases hsel with rfl | rfl | rfl
                    all_goals
                      go_wp2_with fail
                      go_quiet (fail)
                      have HSD : Hid (St28 w o nb (acc ++ zerosI (4 - j)) (wr.drewN nq)) := ST.out.drawn (pw_below_drewN (Below.refl _ _) nq)
                      go_wp2_with fail
                      refine bodyPost_ret (results_row_t rfl _ _ w.heap.size 69 _ (0, 0) _ _ rfl rfl (HSD.out.end_ _ _ _ _ _) Tryd.underlying69 rfl (by kernel_rfl)) rfl ?_
                      rw [HNO.out]
                      exact ⟨_, _, _, _, _, rfl, below5 (Nat.le_refl _) HSD.out.below _ _ _ _ _⟩
                  | cons ch t =>
                    obtain ⟨Y, hY⟩ : ∃ B, B = bx (ch :: t) := ⟨_, rfl⟩
                    have hYc : ∀ h : 0 < Y.size, Y[0]'h = ch := fun h => bx_get (ch :: t) Y hY 0 (by simp) h
                    have hYs : Y.size = t.length + 1 := by rw [hY, bx_size]; rfl
                    have hYp : 0 < Y.size := by omega
                    have hYp1 : 1 ≤ Y.size := by omega
                    have hYi : (0 : Int) < (Y.size : Int) := by omega
                    have hYb : ((Y.size : Int) == 0) = false := by rw [beq_eq_false_iff_ne]; omega
                    rw [← hY] at hcy
                    have HEX : Hid (Y.extract 1 Y.size = bx t) := by
                      show _ = _
                      rw [hY, Lib.extract_from]
                      simp [bx]
                    have h61 : ¬ m = 61 := by rcases hsel with h | h | h <;> rw [h] <;> decide
                    have hspv : Hid (fieldsL mk ws = ((smallL (ch :: t) m).bind fun v => (fieldsL (mk.drop (j + 1)) rest).map fun r => (v :: r.1, r.2)).map (fun r => (acc ++ r.1, r.2))) := by
                      show _ = _
                      rw [← hSP.out, HDR.out, fieldsL_some m _ (ch :: t) rest hm45, if_neg h61]
                    clear hY hYs
                    by_cases hcm : ch = m
                    · subst hcm
                      have hsb := small_bind ch t
                      rw [hsb] at hspv
                      obtain ⟨r, hr, hnb7⟩ := rnumber_plain t
                      have HNB := Lib.hid hnb7
                      generalize plainL t = pv at hspv hr HNB
                      obtain ⟨T, hTT⟩ : ∃ B, B = bx t := ⟨_, rfl⟩
                      have hex := HEX.out
                      rw [← hTT] at HNB hex
                      have HNB5 : Hid (w.heap.size + 1 < nb) := HNBB.out
                      clear hsb hnb7 hTT k0 k1 k2 k3 k4 r0 r1 r2 r3 r4 q0 q1 q2 q3 q4
                      rcases hsel with rfl | rfl | rfl
                      · go_wp2_with fail
                        go_quiet (fail)
                        have HSD : Hid (St28 w o nb (acc ++ zerosI (4 - j)) (wr.drewN nq)) := ST.out.drawn (pw_below_drewN (Below.refl _ _) nq)
                        go_wp2_with fail
                        refine (HNB.out _).mono ?_
                        rintro _ W7 ⟨rfl, hb7⟩
                        have HS7 : Hid (St28 w o nb (acc ++ [0] ++ zerosI (4 - (j + 1))) W7) := by show St28 _ _ _ _ _; rw [← HZ.out]; exact HSD.out.drawn hb7
                        have kn7 := cell_of_blk HS7.out.n j 0 (by have := hal.out; subst this; simp)
                        have fn7 := blk_frozen HS7.out.n j
                        clear hb7
                        cases pv with
                        | none =>
                          have HNO : Hid (instrL (x :: ws) = none) := by show _ = _; rw [HIN.out, hspv.out]; rfl
                          have HSF := Lib.hid (HS7.out.put HNB5.out hal.out r)
                          have k0 := cell_of_blk HS7.out.x4 0 _ rfl
                          have k1 := cell_of_blk HS7.out.x4 1 _ rfl
                          have k2 := cell_of_blk HS7.out.x4 2 _ rfl
                          have k3 := cell_of_blk HS7.out.x4 3 _ rfl
                          have k4 := cell_of_blk HS7.out.x4 4 _ rfl
                          have r0 := cell_of_blk HS7.out.x0 0 _ rfl
                          have r1 := cell_of_blk HS7.out.x0 1 _ rfl
                          have r2 := cell_of_blk HS7.out.x0 2 _ rfl
                          have r3 := cell_of_blk HS7.out.x0 3 _ rfl
                          have r4 := cell_of_blk HS7.out.x0 4 _ rfl
                          have q0 := blk_frozen HS7.out.x0 0
                          have q1 := blk_frozen HS7.out.x0 1
                          have q2 := blk_frozen HS7.out.x0 2
                          have q3 := blk_frozen HS7.out.x0 3
                          have q4 := blk_frozen HS7.out.x0 4
                          have hn0 : ¬ w.heap.size = nb := by have := HNB5.out; omega
                          have hn1 : ¬ w.heap.size + 1 = nb := by have := HNB5.out; omega
                          have hn2 : ¬ nb = w.heap.size := by omega
                          have hn3 : ¬ nb = w.heap.size + 1 := by omega
                          go_wp2_with fail
                          refine bodyPost_ret (results_row_t rfl _ _ w.heap.size 69 _ (0, 0) _ _ rfl rfl (HSF.out.end_ _ _ _ _ _) Tryd.underlying69 rfl (by kernel_rfl)) rfl ?_
                          rw [HNO.out]
                          exact ⟨_, _, _, _, _, rfl, below5 (Nat.le_refl _) HSF.out.below _ _ _ _ _⟩
                        | some v =>
                          obtain rfl : r = v := hr v rfl
                          by_cases hin : r ≤ 255
                          · have HNX : Hid ((fieldsL (mk.drop (j + 1)) rest).map (fun q => (acc ++ [r] ++ q.1, q.2)) = fieldsL mk ws) := by
                              show _ = _
                              rw [hspv.out, Option.bind_some, if_pos hin, Option.bind_some]
                              simp [Option.map_map, Function.comp_def]
                            have HSF := Lib.hid (HS7.out.put HNB5.out hal.out r)
                            have g255 : decide (r ≤ 255) = true := decide_eq_true hin
                            go_wp2_with fail
                            go_roundg (4 - (j + 1))
                            case measure => have := hjd.out; omega
                            case rel => exact ⟨j + 1, k' + 1, rest, acc ++ [r], by go_num, by go_num, by show _ = _; have := hjd.out; omega, by show _ = _; rw [List.length_append, hal.out]; rfl, HRD.out, HKN.out, HSF.out.below, HSF.out.x4, HSF.out.x0, HSF.out.n, HNX.out⟩
                          · have HNO : Hid (instrL (x :: ws) = none) := by show _ = _; rw [HIN.out, hspv.out, Option.bind_some, if_neg hin]; rfl
                            have HSF := Lib.hid (HS7.out.put HNB5.out hal.out r)
                            have k0 := cell_of_blk HS7.out.x4 0 _ rfl
                            have k1 := cell_of_blk HS7.out.x4 1 _ rfl
                            have k2 := cell_of_blk HS7.out.x4 2 _ rfl
                            have k3 := cell_of_blk HS7.out.x4 3 _ rfl
                            have k4 := cell_of_blk HS7.out.x4 4 _ rfl
                            have r0 := cell_of_blk HS7.out.x0 0 _ rfl
                            have r1 := cell_of_blk HS7.out.x0 1 _ rfl
                            have r2 := cell_of_blk HS7.out.x0 2 _ rfl
                            have r3 := cell_of_blk HS7.out.x0 3 _ rfl
                            have r4 := cell_of_blk HS7.out.x0 4 _ rfl
                            have q0 := blk_frozen HS7.out.x0 0
                            have q1 := blk_frozen HS7.out.x0 1
                            have q2 := blk_frozen HS7.out.x0 2
                            have q3 := blk_frozen HS7.out.x0 3
                            have q4 := blk_frozen HS7.out.x0 4
                            have hn0 : ¬ w.heap.size = nb := by have := HNB5.out; omega
                            have hn1 : ¬ w.heap.size + 1 = nb := by have := HNB5.out; omega
                            have hn2 : ¬ nb = w.heap.size := by omega
                            have hn3 : ¬ nb = w.heap.size + 1 := by omega
                            have g255 : decide (r ≤ 255) = false := decide_eq_false hin
                            have g255n : (255 : Int) < r := by omega
                            go_wp2_with fail
                            refine bodyPost_ret (results_row_t rfl _ _ w.heap.size 69 _ (0, 0) _ _ rfl rfl (HSF.out.end_ _ _ _ _ _) Tryd.underlying69 rfl (by kernel_rfl)) rfl ?_
                            rw [HNO.out]
                            exact ⟨_, _, _, _, _, rfl, below5 (Nat.le_refl _) HSF.out.below _ _ _ _ _⟩
                      · go_wp2_with fail
                        go_quiet (fail)
                        have HSD : Hid (St28 w o nb (acc ++ zerosI (4 - j)) (wr.drewN nq)) := ST.out.drawn (pw_below_drewN (Below.refl _ _) nq)
                        go_wp2_with fail
                        refine (HNB.out _).mono ?_
                        rintro _ W7 ⟨rfl, hb7⟩
                        have HS7 : Hid (St28 w o nb (acc ++ [0] ++ zerosI (4 - (j + 1))) W7) := by show St28 _ _ _ _ _; rw [← HZ.out]; exact HSD.out.drawn hb7
                        have kn7 := cell_of_blk HS7.out.n j 0 (by have := hal.out; subst this; simp)
                        have fn7 := blk_frozen HS7.out.n j
                        clear hb7
                        cases pv with
                        | none =>
                          have HNO : Hid (instrL (x :: ws) = none) := by show _ = _; rw [HIN.out, hspv.out]; rfl
                          have HSF := Lib.hid (HS7.out.put HNB5.out hal.out r)
                          have k0 := cell_of_blk HS7.out.x4 0 _ rfl
                          have k1 := cell_of_blk HS7.out.x4 1 _ rfl
                          have k2 := cell_of_blk HS7.out.x4 2 _ rfl
                          have k3 := cell_of_blk HS7.out.x4 3 _ rfl
                          have k4 := cell_of_blk HS7.out.x4 4 _ rfl
                          have r0 := cell_of_blk HS7.out.x0 0 _ rfl
                          have r1 := cell_of_blk HS7.out.x0 1 _ rfl
                          have r2 := cell_of_blk HS7.out.x0 2 _ rfl
                          have r3 := cell_of_blk HS7.out.x0 3 _ rfl
                          have r4 := cell_of_blk HS7.out.x0 4 _ rfl
                          have q0 := blk_frozen HS7.out.x0 0
                          have q1 := blk_frozen HS7.out.x0 1
                          have q2 := blk_frozen HS7.out.x0 2
                          have q3 := blk_frozen HS7.out.x0 3
                          have q4 := blk_frozen HS7.out.x0 4
                          have hn0 : ¬ w.heap.size = nb := by have := HNB5.out; omega
                          have hn1 : ¬ w.heap.size + 1 = nb := by have := HNB5.out; omega
                          have hn2 : ¬ nb = w.heap.size := by omega
                          have hn3 : ¬ nb = w.heap.size + 1 := by omega
                          go_wp2_with fail
                          refine bodyPost_ret (results_row_t rfl _ _ w.heap.size 69 _ (0, 0) _ _ rfl rfl (HSF.out.end_ _ _ _ _ _) Tryd.underlying69 rfl (by kernel_rfl)) rfl ?_
                          rw [HNO.out]
                          exact ⟨_, _, _, _, _, rfl, below5 (Nat.le_refl _) HSF.out.below _ _ _ _ _⟩
                        | some v =>
                          obtain rfl : r = v := hr v rfl
                          by_cases hin : r ≤ 255
                          · have HNX : Hid ((fieldsL (mk.drop (j + 1)) rest).map (fun q => (acc ++ [r] ++ q.1, q.2)) = fieldsL mk ws) := by
                              show _ = _
                              rw [hspv.out, Option.bind_some, if_pos hin, Option.bind_some]
                              simp [Option.map_map, Function.comp_def]
                            have HSF := Lib.hid (HS7.out.put HNB5.out hal.out r)
                            have g255 : decide (r ≤ 255) = true := decide_eq_true hin
                            go_wp2_with fail
                            go_roundg (4 - (j + 1))
                            case measure => have := hjd.out; omega
                            case rel => exact ⟨j + 1, k' + 1, rest, acc ++ [r], by go_num, by go_num, by show _ = _; have := hjd.out; omega, by show _ = _; rw [List.length_append, hal.out]; rfl, HRD.out, HKN.out, HSF.out.below, HSF.out.x4, HSF.out.x0, HSF.out.n, HNX.out⟩
                          · have HNO : Hid (instrL (x :: ws) = none) := by show _ = _; rw [HIN.out, hspv.out, Option.bind_some, if_neg hin]; rfl
                            have HSF := Lib.hid (HS7.out.put HNB5.out hal.out r)
                            have k0 := cell_of_blk HS7.out.x4 0 _ rfl
                            have k1 := cell_of_blk HS7.out.x4 1 _ rfl
                            have k2 := cell_of_blk HS7.out.x4 2 _ rfl
                            have k3 := cell_of_blk HS7.out.x4 3 _ rfl
                            have k4 := cell_of_blk HS7.out.x4 4 _ rfl
                            have r0 := cell_of_blk HS7.out.x0 0 _ rfl
                            have r1 := cell_of_blk HS7.out.x0 1 _ rfl
                            have r2 := cell_of_blk HS7.out.x0 2 _ rfl
                            have r3 := cell_of_blk HS7.out.x0 3 _ rfl
                            have r4 := cell_of_blk HS7.out.x0 4 _ rfl
                            have q0 := blk_frozen HS7.out.x0 0
                            have q1 := blk_frozen HS7.out.x0 1
                            have q2 := blk_frozen HS7.out.x0 2
                            have q3 := blk_frozen HS7.out.x0 3
                            have q4 := blk_frozen HS7.out.x0 4
                            have hn0 : ¬ w.heap.size = nb := by have := HNB5.out; omega
                            have hn1 : ¬ w.heap.size + 1 = nb := by have := HNB5.out; omega
                            have hn2 : ¬ nb = w.heap.size := by omega
                            have hn3 : ¬ nb = w.heap.size + 1 := by omega
                            have g255 : decide (r ≤ 255) = false := decide_eq_false hin
                            have g255n : (255 : Int) < r := by omega
                            go_wp2_with fail
                            refine bodyPost_ret (results_row_t rfl _ _ w.heap.size 69 _ (0, 0) _ _ rfl rfl (HSF.out.end_ _ _ _ _ _) Tryd.underlying69 rfl (by kernel_rfl)) rfl ?_
                            rw [HNO.out]
                            exact ⟨_, _, _, _, _, rfl, below5 (Nat.le_refl _) HSF.out.below _ _ _ _ _⟩
                      · go_wp2_with fail
                        go_quiet (fail)
                        have HSD : Hid (St28 w o nb (acc ++ zerosI (4 - j)) (wr.drewN nq)) := ST.out.drawn (pw_below_drewN (Below.refl _ _) nq)
                        go_wp2_with fail
                        refine (HNB.out _).mono ?_
                        rintro _ W7 ⟨rfl, hb7⟩
                        have HS7 : Hid (St28 w o nb (acc ++ [0] ++ zerosI (4 - (j + 1))) W7) := by show St28 _ _ _ _ _; rw [← HZ.out]; exact HSD.out.drawn hb7
                        have kn7 := cell_of_blk HS7.out.n j 0 (by have := hal.out; subst this; simp)
                        have fn7 := blk_frozen HS7.out.n j
                        clear hb7
                        cases pv with
                        | none =>
                          have HNO : Hid (instrL (x :: ws) = none) := by show _ = _; rw [HIN.out, hspv.out]; rfl
                          have HSF := Lib.hid (HS7.out.put HNB5.out hal.out r)
                          have k0 := cell_of_blk HS7.out.x4 0 _ rfl
                          have k1 := cell_of_blk HS7.out.x4 1 _ rfl
                          have k2 := cell_of_blk HS7.out.x4 2 _ rfl
                          have k3 := cell_of_blk HS7.out.x4 3 _ rfl
                          have k4 := cell_of_blk HS7.out.x4 4 _ rfl
                          have r0 := cell_of_blk HS7.out.x0 0 _ rfl
                          have r1 := cell_of_blk HS7.out.x0 1 _ rfl
                          have r2 := cell_of_blk HS7.out.x0 2 _ rfl
                          have r3 := cell_of_blk HS7.out.x0 3 _ rfl
                          have r4 := cell_of_blk HS7.out.x0 4 _ rfl
                          have q0 := blk_frozen HS7.out.x0 0
                          have q1 := blk_frozen HS7.out.x0 1
                          have q2 := blk_frozen HS7.out.x0 2
                          have q3 := blk_frozen HS7.out.x0 3
                          have q4 := blk_frozen HS7.out.x0 4
                          have hn0 : ¬ w.heap.size = nb := by have := HNB5.out; omega
                          have hn1 : ¬ w.heap.size + 1 = nb := by have := HNB5.out; omega
                          have hn2 : ¬ nb = w.heap.size := by omega
                          have hn3 : ¬ nb = w.heap.size + 1 := by omega
                          go_wp2_with fail
                          refine bodyPost_ret (results_row_t rfl _ _ w.heap.size 69 _ (0, 0) _ _ rfl rfl (HSF.out.end_ _ _ _ _ _) Tryd.underlying69 rfl (by kernel_rfl)) rfl ?_
                          rw [HNO.out]
                          exact ⟨_, _, _, _, _, rfl, below5 (Nat.le_refl _) HSF.out.below _ _ _ _ _⟩
                        | some v =>
                          obtain rfl : r = v := hr v rfl
                          by_cases hin : r ≤ 255
                          · have HNX : Hid ((fieldsL (mk.drop (j + 1)) rest).map (fun q => (acc ++ [r] ++ q.1, q.2)) = fieldsL mk ws) := by
                              show _ = _
                              rw [hspv.out, Option.bind_some, if_pos hin, Option.bind_some]
                              simp [Option.map_map, Function.comp_def]
                            have HSF := Lib.hid (HS7.out.put HNB5.out hal.out r)
                            have g255 : decide (r ≤ 255) = true := decide_eq_true hin
                            go_wp2_with fail
                            go_roundg (4 - (j + 1))
                            case measure => have := hjd.out; omega
                            case rel => exact ⟨j + 1, k' + 1, rest, acc ++ [r], by go_num, by go_num, by show _ = _; have := hjd.out; omega, by show _ = _; rw [List.length_append, hal.out]; rfl, HRD.out, HKN.out, HSF.out.below, HSF.out.x4, HSF.out.x0, HSF.out.n, HNX.out⟩
                          · have HNO : Hid (instrL (x :: ws) = none) := by show _ = _; rw [HIN.out, hspv.out, Option.bind_some, if_neg hin]; rfl
                            have HSF := Lib.hid (HS7.out.put HNB5.out hal.out r)
                            have k0 := cell_of_blk HS7.out.x4 0 _ rfl
                            have k1 := cell_of_blk HS7.out.x4 1 _ rfl
                            have k2 := cell_of_blk HS7.out.x4 2 _ rfl
                            have k3 := cell_of_blk HS7.out.x4 3 _ rfl
                            have k4 := cell_of_blk HS7.out.x4 4 _ rfl
                            have r0 := cell_of_blk HS7.out.x0 0 _ rfl
                            have r1 := cell_of_blk HS7.out.x0 1 _ rfl
                            have r2 := cell_of_blk HS7.out.x0 2 _ rfl
                            have r3 := cell_of_blk HS7.out.x0 3 _ rfl
                            have r4 := cell_of_blk HS7.out.x0 4 _ rfl
                            have q0 := blk_frozen HS7.out.x0 0
                            have q1 := blk_frozen HS7.out.x0 1
                            have q2 := blk_frozen HS7.out.x0 2
                            have q3 := blk_frozen HS7.out.x0 3
                            have q4 := blk_frozen HS7.out.x0 4
                            have hn0 : ¬ w.heap.size = nb := by have := HNB5.out; omega
                            have hn1 : ¬ w.heap.size + 1 = nb := by have := HNB5.out; omega
                            have hn2 : ¬ nb = w.heap.size := by omega
                            have hn3 : ¬ nb = w.heap.size + 1 := by omega
                            have g255 : decide (r ≤ 255) = false := decide_eq_false hin
                            have g255n : (255 : Int) < r := by omega
                            go_wp2_with fail
                            refine bodyPost_ret (results_row_t rfl _ _ w.heap.size 69 _ (0, 0) _ _ rfl rfl (HSF.out.end_ _ _ _ _ _) Tryd.underlying69 rfl (by kernel_rfl)) rfl ?_
                            rw [HNO.out]
                            exact ⟨_, _, _, _, _, rfl, below5 (Nat.le_refl _) HSF.out.below _ _ _ _ _⟩
                    · have hno : instrL (x :: ws) = none := by
                        rw [HIN.out, hspv.out, small_ne ch m t hcm]
                        rfl
                      have HNO := Lib.hid hno
                      have hne : ∀ v : Int, v = ((m.toNat : Nat) : Int) → (((ch.toNat : Nat) : Int) != v) = true := by
                        intro v hv
                        rw [hv, bne_iff_ne]
                        intro h
                        exact hcm (UInt8.toNat_inj.1 (by omega))
                      clear hno
                      rcases hsel with rfl | rfl | rfl
                      · have hcb : (((ch.toNat : Nat) : Int) != 114) = true := hne 114 rfl
                        go_wp2_with fail
                        go_quiet (fail)
                        have HSD : Hid (St28 w o nb (acc ++ zerosI (4 - j)) (wr.drewN nq)) := ST.out.drawn (pw_below_drewN (Below.refl _ _) nq)
                        go_wp2_with fail
                        refine bodyPost_ret (results_row_t rfl _ _ w.heap.size 69 _ (0, 0) _ _ rfl rfl (HSD.out.end_ _ _ _ _ _) Tryd.underlying69 rfl (by kernel_rfl)) rfl ?_
                        rw [HNO.out]
                        exact ⟨_, _, _, _, _, rfl, below5 (Nat.le_refl _) HSD.out.below _ _ _ _ _⟩
                      · have hcb : (((ch.toNat : Nat) : Int) != 104) = true := hne 104 rfl
                        go_wp2_with fail
                        go_quiet (fail)
                        have HSD : Hid (St28 w o nb (acc ++ zerosI (4 - j)) (wr.drewN nq)) := ST.out.drawn (pw_below_drewN (Below.refl _ _) nq)
                        go_wp2_with fail
                        refine bodyPost_ret (results_row_t rfl _ _ w.heap.size 69 _ (0, 0) _ _ rfl rfl (HSD.out.end_ _ _ _ _ _) Tryd.underlying69 rfl (by kernel_rfl)) rfl ?_
                        rw [HNO.out]
                        exact ⟨_, _, _, _, _, rfl, below5 (Nat.le_refl _) HSD.out.below _ _ _ _ _⟩
                      · have hcb : (((ch.toNat : Nat) : Int) != 102) = true := hne 102 rfl
                        go_wp2_with fail
                        go_quiet (fail)
                        have HSD : Hid (St28 w o nb (acc ++ zerosI (4 - j)) (wr.drewN nq)) := ST.out.drawn (pw_below_drewN (Below.refl _ _) nq)
                        go_wp2_with fail
                        refine bodyPost_ret (results_row_t rfl _ _ w.heap.size 69 _ (0, 0) _ _ rfl rfl (HSD.out.end_ _ _ _ _ _) Tryd.underlying69 rfl (by kernel_rfl)) rfl ?_
                        rw [HNO.out]
                        exact ⟨_, _, _, _, _, rfl, below5 (Nat.le_refl _) HSD.out.below _ _ _ _ _⟩
                · subst hmu
                  have ST : Hid (St28 w o nb (acc ++ zerosI (4 - j)) wr) := ⟨hB.out, hX4.out, hX0.out, hN.out⟩
                  have hb1 : (((uc.toNat : Nat) : Int) == 114) = false := by
                    rw [beq_eq_false_iff_ne]
                    intro h
                    exact hs1 (UInt8.toNat_inj.1 (by show _ = 114; omega))
                  have hb2 : (((uc.toNat : Nat) : Int) == 104) = false := by
                    rw [beq_eq_false_iff_ne]
                    intro h
                    exact hs2 (UInt8.toNat_inj.1 (by show _ = 104; omega))
                  have hb3 : (((uc.toNat : Nat) : Int) == 102) = false := by
                    rw [beq_eq_false_iff_ne]
                    intro h
                    exact hs3 (UInt8.toNat_inj.1 (by show _ = 102; omega))
                  have hspv : Hid (fieldsL mk ws = (((numS y).bind fun n => if -2147483648 ≤ n ∧ n ≤ 2147483647 then some n else none).bind fun v => (fieldsL (mk.drop (j + 1)) rest).map fun r => (v :: r.1, r.2)).map (fun r => (acc ++ r.1, r.2))) := by
                    show _ = _
                    rw [← hSP.out, HDR.out, fieldsL_some 61 _ y rest hm45, if_pos rfl, signedL_numS]
                  obtain ⟨r, hr, hnb7⟩ := rnumber_signed y
                  have HNB := Lib.hid hnb7
                  generalize numS y = pv at hspv hr HNB
                  obtain ⟨Y, hY⟩ : ∃ B, B = bx y := ⟨_, rfl⟩
                  rw [← hY] at hcy HNB
                  have HNB5 : Hid (w.heap.size + 1 < nb) := HNBB.out
                  clear hY hnb7 k0 k1 k2 k3 k4 r0 r1 r2 r3 r4 q0 q1 q2 q3 q4
                  go_wp2_with fail
                  refine (HNB.out _).mono ?_
                  rintro _ W7 ⟨rfl, hb7⟩
                  have HS7 : Hid (St28 w o nb (acc ++ [0] ++ zerosI (4 - (j + 1))) W7) := by show St28 _ _ _ _ _; rw [← HZ.out]; exact ST.out.drawn hb7
                  have kn7 := cell_of_blk HS7.out.n j 0 (by have := hal.out; subst this; simp)
                  have fn7 := blk_frozen HS7.out.n j
                  clear hb7
                  cases pv with
                  | none =>
                    have HNO : Hid (instrL (x :: ws) = none) := by show _ = _; rw [HIN.out, hspv.out]; rfl
                    have HSF := Lib.hid (HS7.out.put HNB5.out hal.out r)
                    have k0 := cell_of_blk HS7.out.x4 0 _ rfl
                    have k1 := cell_of_blk HS7.out.x4 1 _ rfl
                    have k2 := cell_of_blk HS7.out.x4 2 _ rfl
                    have k3 := cell_of_blk HS7.out.x4 3 _ rfl
                    have k4 := cell_of_blk HS7.out.x4 4 _ rfl
                    have r0 := cell_of_blk HS7.out.x0 0 _ rfl
                    have r1 := cell_of_blk HS7.out.x0 1 _ rfl
                    have r2 := cell_of_blk HS7.out.x0 2 _ rfl
                    have r3 := cell_of_blk HS7.out.x0 3 _ rfl
                    have r4 := cell_of_blk HS7.out.x0 4 _ rfl
                    have q0 := blk_frozen HS7.out.x0 0
                    have q1 := blk_frozen HS7.out.x0 1
                    have q2 := blk_frozen HS7.out.x0 2
                    have q3 := blk_frozen HS7.out.x0 3
                    have q4 := blk_frozen HS7.out.x0 4
                    have hn0 : ¬ w.heap.size = nb := by have := HNB5.out; omega
                    have hn1 : ¬ w.heap.size + 1 = nb := by have := HNB5.out; omega
                    have hn2 : ¬ nb = w.heap.size := by omega
                    have hn3 : ¬ nb = w.heap.size + 1 := by omega
                    go_wp2_with fail
                    refine bodyPost_ret (results_row_t rfl _ _ w.heap.size 69 _ (0, 0) _ _ rfl rfl (HSF.out.end_ _ _ _ _ _) Tryd.underlying69 rfl (by kernel_rfl)) rfl ?_
                    rw [HNO.out]
                    exact ⟨_, _, _, _, _, rfl, below5 (Nat.le_refl _) HSF.out.below _ _ _ _ _⟩
                  | some v =>
                    obtain rfl : r = v := hr v rfl
                    by_cases hin : -2147483648 ≤ r ∧ r ≤ 2147483647
                    · have HNX : Hid ((fieldsL (mk.drop (j + 1)) rest).map (fun q => (acc ++ [r] ++ q.1, q.2)) = fieldsL mk ws) := by
                        show _ = _
                        rw [hspv.out, Option.bind_some, if_pos hin, Option.bind_some]
                        simp [Option.map_map, Function.comp_def]
                      have HSF := Lib.hid (HS7.out.put HNB5.out hal.out r)
                      have ga : decide (r ≥ -2147483648) = true := decide_eq_true hin.1
                      have gb : decide (r ≤ 2147483647) = true := decide_eq_true hin.2
                      clear hin
                      go_wp2_with fail
                      go_roundg (4 - (j + 1))
                      case measure => have := hjd.out; omega
                      case rel => exact ⟨j + 1, k' + 1, rest, acc ++ [r], by go_num, by go_num, by show _ = _; have := hjd.out; omega, by show _ = _; rw [List.length_append, hal.out]; rfl, HRD.out, HKN.out, HSF.out.below, HSF.out.x4, HSF.out.x0, HSF.out.n, HNX.out⟩
                    · have HNO : Hid (instrL (x :: ws) = none) := by show _ = _; rw [HIN.out, hspv.out, Option.bind_some, if_neg hin]; rfl
                      have HSF := Lib.hid (HS7.out.put HNB5.out hal.out r)
                      have k0 := cell_of_blk HS7.out.x4 0 _ rfl
                      have k1 := cell_of_blk HS7.out.x4 1 _ rfl
                      have k2 := cell_of_blk HS7.out.x4 2 _ rfl
                      have k3 := cell_of_blk HS7.out.x4 3 _ rfl
                      have k4 := cell_of_blk HS7.out.x4 4 _ rfl
                      have r0 := cell_of_blk HS7.out.x0 0 _ rfl
                      have r1 := cell_of_blk HS7.out.x0 1 _ rfl
                      have r2 := cell_of_blk HS7.out.x0 2 _ rfl
                      have r3 := cell_of_blk HS7.out.x0 3 _ rfl
                      have r4 := cell_of_blk HS7.out.x0 4 _ rfl
                      have q0 := blk_frozen HS7.out.x0 0
                      have q1 := blk_frozen HS7.out.x0 1
                      have q2 := blk_frozen HS7.out.x0 2
                      have q3 := blk_frozen HS7.out.x0 3
                      have q4 := blk_frozen HS7.out.x0 4
                      have hn0 : ¬ w.heap.size = nb := by have := HNB5.out; omega
                      have hn1 : ¬ w.heap.size + 1 = nb := by have := HNB5.out; omega
                      have hn2 : ¬ nb = w.heap.size := by omega
                      have hn3 : ¬ nb = w.heap.size + 1 := by omega
                      by_cases hlo : -2147483648 ≤ r
                      · have ga : decide (r ≥ -2147483648) = true := decide_eq_true hlo
                        have gbn : 2147483647 < r := by omega
                        have gb : decide (r ≤ 2147483647) = false := decide_eq_false (by omega)
                        clear hin
                        go_wp2_with fail
                        refine bodyPost_ret (results_row_t rfl _ _ w.heap.size 69 _ (0, 0) _ _ rfl rfl (HSF.out.end_ _ _ _ _ _) Tryd.underlying69 rfl (by kernel_rfl)) rfl ?_
                        rw [HNO.out]
                        exact ⟨_, _, _, _, _, rfl, below5 (Nat.le_refl _) HSF.out.below _ _ _ _ _⟩
                      · have ga : decide (r ≥ -2147483648) = false := decide_eq_false (by omega)
                        have gan : r < -2147483648 := by omega
                        clear hin
                        go_wp2_with fail
                        refine bodyPost_ret (results_row_t rfl _ _ w.heap.size 69 _ (0, 0) _ _ rfl rfl (HSF.out.end_ _ _ _ _ _) Tryd.underlying69 rfl (by kernel_rfl)) rfl ?_
                        rw [HNO.out]
                        exact ⟨_, _, _, _, _, rfl, below5 (Nat.le_refl _) HSF.out.below _ _ _ _ _⟩
          · obtain ⟨a0, a1, a2, a3, rfl⟩ : ∃ a0 a1 a2 a3, acc = [a0, a1, a2, a3] := by
              have h : acc.length = 4 := by have := hjd.out; have := hal.out; omega
              match acc, h with
              | [a, b, c, d], _ => exact ⟨a, b, c, d, rfl⟩
            have HRS : Hid (instrL (x :: ws) = if rest = [] then some ((o : Int), [a0, a1, a2, a3]) else none) := by
              have h := hSP.out
              rw [List.drop_eq_nil_of_le (by have := HML.out; have := hjd.out; omega)] at h
              show _ = _
              rw [HIN.out, ← h]
              simp [fieldsL]
            have hz : zerosI (4 - j) = [] := by rw [show 4 - j = 0 by omega]; rfl
            have HSX : Hid (St28x w [(o : Int), 0, 0, 0, 0] nb [a0, a1, a2, a3] wr) := ⟨hB.out, hX4.out, hX0.out, by have h := hN.out; rw [hz, List.append_nil] at h; exact h⟩
            have hj2 : ¬ (j : Int) < 4 := by omega
            have hj3 : decide ((j : Int) < 4) = false := decide_eq_false hj2
            have HJ4 : Hid (j = 4) := by show _ = _; have := hjd.out; omega
            have HN5 : Hid (w.heap.size + 1 < nb) := HNBB.out
            have HKR := Lib.hid hkr.out
            clear hz hSP hX4 hX0 hN hB hrd hkr hal hjd
            go_wp2_with fail
            refine Reg.wp_region_phase (by kernel_rfl) [9, 11, 13, 15] (fun i => match i with | 0 => fun v => v = .pointer (some ⟨nb, 0, none⟩) | 1 => fun v => v = .int .i64 a0 | 2 => fun v => v = .pointer (some ⟨nb, 1, none⟩) | 3 => fun v => v = .int .i64 a1 | 4 => fun v => v = .pointer (some ⟨nb, 2, none⟩) | 5 => fun v => v = .int .i64 a2 | 6 => fun v => v = .pointer (some ⟨nb, 3, none⟩) | 7 => fun v => v = .int .i64 a3 | 8 => fun v => v = .pointer (some ⟨w.heap.size + 1, 1, none⟩) | 10 => fun v => v = .pointer (some ⟨w.heap.size + 1, 2, none⟩) | 12 => fun v => v = .pointer (some ⟨w.heap.size + 1, 3, none⟩) | 14 => fun v => v = .pointer (some ⟨w.heap.size + 1, 4, none⟩) | _ => fun _ => True) (fun k _ Wx => St28x w (xrow o a0 a1 a2 a3 k) nb [a0, a1, a2, a3] Wx) (by kernel_rfl) (by kernel_rfl) (by decide) (by decide) ?hJ ?h0 ?pure ?act ?fin
            case hJ => intro k f f' W h hj; exact hj
            case h0 => exact HSX.out.drew
            case pure =>
              intro i o k a w_ ho hE hk hmc hf hst hkn hj
              have hi : i < 16 := (Array.getElem?_eq_some_iff.1 ho).1
              obtain rfl | rfl | rfl | rfl | rfl | rfl | rfl | rfl | rfl | rfl | rfl | rfl : i = 0 ∨ i = 1 ∨ i = 2 ∨ i = 3 ∨ i = 4 ∨ i = 5 ∨ i = 6 ∨ i = 7 ∨ i = 8 ∨ i = 10 ∨ i = 12 ∨ i = 14 := by
                simp only [List.mem_cons, List.not_mem_nil, or_false, not_or] at hE
                omega
              · skip
                obtain rfl := Reg.oper_eq ho rfl
                have e8 : a.eval (.tmp 8) = .pointer (some ⟨nb, 0, none⟩) := (hf.eval 8 (by kernel_rfl)).trans rfl
                have g8 := Reg.eval_getD e8
                exact Reg.op_value rfl rfl (by simp only [List.getElem_toArray, List.getElem_cons_zero, List.getElem_cons_succ, execOp, e8]; go_simp) ⟨_, rfl, rfl, hj⟩
              · skip
                obtain rfl := Reg.oper_eq ho rfl
                have e123 : a.eval (.tmp 123) = .pointer (some ⟨nb, 0, none⟩) := hkn.eval 0 123 (by kernel_rfl) (by kernel_rfl)
                have g123 := Reg.eval_getD e123
                have kk := cell_of_blk hj.n 0 _ rfl
                exact Reg.op_value rfl rfl (by simp only [List.getElem_toArray, List.getElem_cons_zero, List.getElem_cons_succ, execOp, e123]; go_simp) ⟨_, rfl, rfl, hj⟩
              · skip
                obtain rfl := Reg.oper_eq ho rfl
                have e8 : a.eval (.tmp 8) = .pointer (some ⟨nb, 0, none⟩) := (hf.eval 8 (by kernel_rfl)).trans rfl
                have g8 := Reg.eval_getD e8
                exact Reg.op_value rfl rfl (by simp only [List.getElem_toArray, List.getElem_cons_zero, List.getElem_cons_succ, execOp, e8]; go_simp) ⟨_, rfl, rfl, hj⟩
              · skip
                obtain rfl := Reg.oper_eq ho rfl
                have e125 : a.eval (.tmp 125) = .pointer (some ⟨nb, 1, none⟩) := hkn.eval 2 125 (by kernel_rfl) (by kernel_rfl)
                have g125 := Reg.eval_getD e125
                have kk := cell_of_blk hj.n 1 _ rfl
                exact Reg.op_value rfl rfl (by simp only [List.getElem_toArray, List.getElem_cons_zero, List.getElem_cons_succ, execOp, e125]; go_simp) ⟨_, rfl, rfl, hj⟩
              · skip
                obtain rfl := Reg.oper_eq ho rfl
                have e8 : a.eval (.tmp 8) = .pointer (some ⟨nb, 0, none⟩) := (hf.eval 8 (by kernel_rfl)).trans rfl
                have g8 := Reg.eval_getD e8
                exact Reg.op_value rfl rfl (by simp only [List.getElem_toArray, List.getElem_cons_zero, List.getElem_cons_succ, execOp, e8]; go_simp) ⟨_, rfl, rfl, hj⟩
              · skip
                obtain rfl := Reg.oper_eq ho rfl
                have e127 : a.eval (.tmp 127) = .pointer (some ⟨nb, 2, none⟩) := hkn.eval 4 127 (by kernel_rfl) (by kernel_rfl)
                have g127 := Reg.eval_getD e127
                have kk := cell_of_blk hj.n 2 _ rfl
                exact Reg.op_value rfl rfl (by simp only [List.getElem_toArray, List.getElem_cons_zero, List.getElem_cons_succ, execOp, e127]; go_simp) ⟨_, rfl, rfl, hj⟩
              · skip
                obtain rfl := Reg.oper_eq ho rfl
                have e8 : a.eval (.tmp 8) = .pointer (some ⟨nb, 0, none⟩) := (hf.eval 8 (by kernel_rfl)).trans rfl
                have g8 := Reg.eval_getD e8
                exact Reg.op_value rfl rfl (by simp only [List.getElem_toArray, List.getElem_cons_zero, List.getElem_cons_succ, execOp, e8]; go_simp) ⟨_, rfl, rfl, hj⟩
              · skip
                obtain rfl := Reg.oper_eq ho rfl
                have e129 : a.eval (.tmp 129) = .pointer (some ⟨nb, 3, none⟩) := hkn.eval 6 129 (by kernel_rfl) (by kernel_rfl)
                have g129 := Reg.eval_getD e129
                have kk := cell_of_blk hj.n 3 _ rfl
                exact Reg.op_value rfl rfl (by simp only [List.getElem_toArray, List.getElem_cons_zero, List.getElem_cons_succ, execOp, e129]; go_simp) ⟨_, rfl, rfl, hj⟩
              · skip
                obtain rfl := Reg.oper_eq ho rfl
                have e4 : a.eval (.tmp 4) = .pointer (some ⟨w.heap.size + 1, 0, none⟩) := (hf.eval 4 (by kernel_rfl)).trans rfl
                have g4 := Reg.eval_getD e4
                exact Reg.op_value rfl rfl (by simp only [List.getElem_toArray, List.getElem_cons_zero, List.getElem_cons_succ, execOp, e4]; go_simp) ⟨_, rfl, rfl, hj⟩
              · skip
                obtain rfl := Reg.oper_eq ho rfl
                have e4 : a.eval (.tmp 4) = .pointer (some ⟨w.heap.size + 1, 0, none⟩) := (hf.eval 4 (by kernel_rfl)).trans rfl
                have g4 := Reg.eval_getD e4
                exact Reg.op_value rfl rfl (by simp only [List.getElem_toArray, List.getElem_cons_zero, List.getElem_cons_succ, execOp, e4]; go_simp) ⟨_, rfl, rfl, hj⟩
              · skip
                obtain rfl := Reg.oper_eq ho rfl
                have e4 : a.eval (.tmp 4) = .pointer (some ⟨w.heap.size + 1, 0, none⟩) := (hf.eval 4 (by kernel_rfl)).trans rfl
                have g4 := Reg.eval_getD e4
                exact Reg.op_value rfl rfl (by simp only [List.getElem_toArray, List.getElem_cons_zero, List.getElem_cons_succ, execOp, e4]; go_simp) ⟨_, rfl, rfl, hj⟩
              · skip
                obtain rfl := Reg.oper_eq ho rfl
                have e4 : a.eval (.tmp 4) = .pointer (some ⟨w.heap.size + 1, 0, none⟩) := (hf.eval 4 (by kernel_rfl)).trans rfl
                have g4 := Reg.eval_getD e4
                exact Reg.op_value rfl rfl (by simp only [List.getElem_toArray, List.getElem_cons_zero, List.getElem_cons_succ, execOp, e4]; go_simp) ⟨_, rfl, rfl, hj⟩
            case act =>
              intro k o a w_ hk ho hf hst hkn hj
              obtain rfl | rfl | rfl | rfl : k = 0 ∨ k = 1 ∨ k = 2 ∨ k = 3 := by simp only [List.length_cons, List.length_nil] at hk; omega
              · skip
                obtain rfl := Reg.oper_eq ho rfl
                have e131 : a.eval (.tmp 131) = .pointer (some ⟨w.heap.size + 1, 1, none⟩) := hkn.eval 8 131 (by kernel_rfl) (by kernel_rfl)
                have e124 : a.eval (.tmp 124) = .int .i64 a0 := hkn.eval 1 124 (by kernel_rfl) (by kernel_rfl)
                have g131 := Reg.eval_getD e131
                have g124 := Reg.eval_getD e124
                have kk := cell_of_blk hj.x4 1 0 rfl
                have qq := blk_frozen hj.x4 1
                refine Reg.op_unit (w' := w_.setCell ⟨w.heap.size + 1, 1, none⟩ (.int .i64 a0)) rfl rfl (by simp only [List.getElem_toArray, List.getElem_cons_zero, List.getElem_cons_succ, execOp, e131, e124]; go_simp) ⟨_, rfl, trivial, ?_⟩
                exact hj.putx (show xrow o a0 a1 a2 a3 1 = (xrow o a0 a1 a2 a3 0).set 1 a0 from rfl) HN5.out
              · skip
                obtain rfl := Reg.oper_eq ho rfl
                have e132 : a.eval (.tmp 132) = .pointer (some ⟨w.heap.size + 1, 2, none⟩) := hkn.eval 10 132 (by kernel_rfl) (by kernel_rfl)
                have e126 : a.eval (.tmp 126) = .int .i64 a1 := hkn.eval 3 126 (by kernel_rfl) (by kernel_rfl)
                have g132 := Reg.eval_getD e132
                have g126 := Reg.eval_getD e126
                have kk := cell_of_blk hj.x4 2 0 rfl
                have qq := blk_frozen hj.x4 2
                refine Reg.op_unit (w' := w_.setCell ⟨w.heap.size + 1, 2, none⟩ (.int .i64 a1)) rfl rfl (by simp only [List.getElem_toArray, List.getElem_cons_zero, List.getElem_cons_succ, execOp, e132, e126]; go_simp) ⟨_, rfl, trivial, ?_⟩
                exact hj.putx (show xrow o a0 a1 a2 a3 2 = (xrow o a0 a1 a2 a3 1).set 2 a1 from rfl) HN5.out
              · skip
                obtain rfl := Reg.oper_eq ho rfl
                have e133 : a.eval (.tmp 133) = .pointer (some ⟨w.heap.size + 1, 3, none⟩) := hkn.eval 12 133 (by kernel_rfl) (by kernel_rfl)
                have e128 : a.eval (.tmp 128) = .int .i64 a2 := hkn.eval 5 128 (by kernel_rfl) (by kernel_rfl)
                have g133 := Reg.eval_getD e133
                have g128 := Reg.eval_getD e128
                have kk := cell_of_blk hj.x4 3 0 rfl
                have qq := blk_frozen hj.x4 3
                refine Reg.op_unit (w' := w_.setCell ⟨w.heap.size + 1, 3, none⟩ (.int .i64 a2)) rfl rfl (by simp only [List.getElem_toArray, List.getElem_cons_zero, List.getElem_cons_succ, execOp, e133, e128]; go_simp) ⟨_, rfl, trivial, ?_⟩
                exact hj.putx (show xrow o a0 a1 a2 a3 3 = (xrow o a0 a1 a2 a3 2).set 3 a2 from rfl) HN5.out
              · skip
                obtain rfl := Reg.oper_eq ho rfl
                have e134 : a.eval (.tmp 134) = .pointer (some ⟨w.heap.size + 1, 4, none⟩) := hkn.eval 14 134 (by kernel_rfl) (by kernel_rfl)
                have e130 : a.eval (.tmp 130) = .int .i64 a3 := hkn.eval 7 130 (by kernel_rfl) (by kernel_rfl)
                have g134 := Reg.eval_getD e134
                have g130 := Reg.eval_getD e130
                have kk := cell_of_blk hj.x4 4 0 rfl
                have qq := blk_frozen hj.x4 4
                refine Reg.op_unit (w' := w_.setCell ⟨w.heap.size + 1, 4, none⟩ (.int .i64 a3)) rfl rfl (by simp only [List.getElem_toArray, List.getElem_cons_zero, List.getElem_cons_succ, execOp, e134, e130]; go_simp) ⟨_, rfl, trivial, ?_⟩
                exact hj.putx (show xrow o a0 a1 a2 a3 4 = (xrow o a0 a1 a2 a3 3).set 4 a3 from rfl) HN5.out
            case fin =>
              intro a w_ hf hkn hj
              have e123 : Reg.val a 123 = _ := hkn 0 123 (by show _ < _; decide) (by kernel_rfl)
              have e124 : Reg.val a 124 = _ := hkn 1 124 (by show _ < _; decide) (by kernel_rfl)
              have e125 : Reg.val a 125 = _ := hkn 2 125 (by show _ < _; decide) (by kernel_rfl)
              have e126 : Reg.val a 126 = _ := hkn 3 126 (by show _ < _; decide) (by kernel_rfl)
              have e127 : Reg.val a 127 = _ := hkn 4 127 (by show _ < _; decide) (by kernel_rfl)
              have e128 : Reg.val a 128 = _ := hkn 5 128 (by show _ < _; decide) (by kernel_rfl)
              have e129 : Reg.val a 129 = _ := hkn 6 129 (by show _ < _; decide) (by kernel_rfl)
              have e130 : Reg.val a 130 = _ := hkn 7 130 (by show _ < _; decide) (by kernel_rfl)
              have e131 : Reg.val a 131 = _ := hkn 8 131 (by show _ < _; decide) (by kernel_rfl)
              have e132 : Reg.val a 132 = _ := hkn 10 132 (by show _ < _; decide) (by kernel_rfl)
              have e133 : Reg.val a 133 = _ := hkn 12 133 (by show _ < _; decide) (by kernel_rfl)
              have e134 : Reg.val a 134 = _ := hkn 14 134 (by show _ < _; decide) (by kernel_rfl)
              rw [Reg.frm_fold hf [123, 124, 125, 126, 127, 128, 129, 130, 131, 132, 133, 134] (by kernel_rfl) (by kernel_rfl)]
              simp only [List.foldl_cons, List.foldl_nil, Act.put, List.setIfInBounds_toArray, List.set_cons_zero, List.set_cons_succ, e123, e124, e125, e126, e127, e128, e129, e130, e131, e132, e133, e134]
              clear hkn hf e123 e124 e125 e126 e127 e128 e129 e130 e131 e132 e133 e134
              have HSY : Hid (St28x w [(o : Int), a0, a1, a2, a3] nb [a0, a1, a2, a3] w_) := hj
              clear hj
              have k0 := cell_of_blk HSY.out.x4 0 _ rfl
              have k1 := cell_of_blk HSY.out.x4 1 _ rfl
              have k2 := cell_of_blk HSY.out.x4 2 _ rfl
              have k3 := cell_of_blk HSY.out.x4 3 _ rfl
              have k4 := cell_of_blk HSY.out.x4 4 _ rfl
              have r0 := cell_of_blk HSY.out.x0 0 _ rfl
              have r1 := cell_of_blk HSY.out.x0 1 _ rfl
              have r2 := cell_of_blk HSY.out.x0 2 _ rfl
              have r3 := cell_of_blk HSY.out.x0 3 _ rfl
              have r4 := cell_of_blk HSY.out.x0 4 _ rfl
              have q0 := blk_frozen HSY.out.x0 0
              have q1 := blk_frozen HSY.out.x0 1
              have q2 := blk_frozen HSY.out.x0 2
              have q3 := blk_frozen HSY.out.x0 3
              have q4 := blk_frozen HSY.out.x0 4
              go_wp2_with fail
              refine bodyPost_ret (results_row_t rfl _ _ w.heap.size 69 _ (0, 0) _ _ rfl rfl (set5 HSY.out.x0 _ _ _ _ _) Tryd.underlying69 rfl (by kernel_rfl)) rfl ?_
              rw [HRS.out]
              by_cases hr : rest = []
              · rw [if_pos hr]
                have hk : ((k' : Int) == (n : Int)) = true := by rw [beq_iff_eq]; have := HKR.out; rw [hr] at this; simp at this; omega
                rw [hk]
                exact ⟨rfl, below5 (Nat.le_refl _) HSY.out.below _ _ _ _ _⟩
              · rw [if_neg hr]
                have hk : ((k' : Int) == (n : Int)) = false := by
                  rw [beq_eq_false_iff_ne]
                  have := HKR.out
                  have := List.length_pos_iff.2 hr
                  omega
                rw [hk]
                exact ⟨_, _, _, _, _, rfl, below5 (Nat.le_refl _) HSY.out.below _ _ _ _ _⟩
end Go.Proofs.YtcchoeomeklgmaaDoor.Core
