/- strings.Builder: what its writes do; its row lies above a base of its own. -/
import Derived.Test.YtbiajfkencamiaaGreatDoorF8
/-! Bu -/
namespace Go.Proofs.YtbiajfkencamiaaGreatDoor.SH
open Go.RowKit Go.Shelf Go.Proofs.YtbiajfkencamiaaGreatDoorW.PrintWords Go.Proofs.YtbiajfkencamiaaGreatDoorW.PrintMore Go.Proofs.YtbiajfkencamiaaGreatDoor Go.Proofs.YtbiajfkencamiaaGreatDoor.Core Go.Proofs.YtbiajfkencamiaaGreatDoor.Rf
open Go.Proofs.YtbiajfkencamiaaGreatDoor.EV (Kq)
set_option linter.unusedVariables false
set_option linter.unusedSimpArgs false
theorem infoBu : (Tryz.prog.info? 51).map (·.size) = some 2 := by kernel_rfl
set_option maxRecDepth 100000 in
set_option maxHeartbeats 1000000 in
theorem copyCheck_used (b : Nat) (w : World) (h0 : w.cell? ⟨b, 0, none⟩ = some (.pointer (some ⟨b, 0, none⟩))) :
    Calls Tryz.prog 36 #[.pointer (some ⟨b, 0, none⟩)] w fun e w' => e = .returned (.tuple #[]) ∧ w' = w := by
  obtain ⟨j, hj, _⟩ := Option.map_eq_some_iff.1 infoBu
  go_enter Tryz.func36, Tryz.ntmps36
  go_wp2_with fail
  rw [Lib.run_neq_ptr_same w _ Tryz.underlying49 hj]
  go_wp2_with fail
  go_end0
  exact ⟨rfl, rfl⟩
set_option maxRecDepth 100000 in
set_option maxHeartbeats 1000000 in
theorem copyCheck_fresh (b : Nat) (w : World) (h0 : w.cell? ⟨b, 0, none⟩ = some (.pointer none)) (hsh : w.shape? b = some (51, 2)) (hfz : w.frozen? ⟨b, 0, none⟩ = false) :
    Calls Tryz.prog 36 #[.pointer (some ⟨b, 0, none⟩)] w fun e w' => e = .returned (.tuple #[]) ∧ w' = w.setCell ⟨b, 0, none⟩ (.pointer (some ⟨b, 0, none⟩)) := by
  obtain ⟨j, hj, hjs⟩ := Option.map_eq_some_iff.1 infoBu
  go_enter Tryz.func36, Tryz.ntmps36
  go_wp2
  rw [Lib.run_to_unsafe w ⟨b, 0, none⟩ Tryz.underlying49 Tryz.underlying109 hj (by rw [hjs]; decide) hsh (Nat.zero_lt_succ 1)]
  simp only [Result.andThen]
  rw [Oper.upon_value]
  go_wp2
  rw [run_callFunc_extern Tryz.func58 (by kernel_rfl) (by kernel_rfl) (by kernel_rfl) (e := Extern.AbiNoEscape.same) (by kernel_rfl)]
  rw [Lib.run_noEscape]
  simp only [Result.andThen]
  rw [Oper.upon_value]
  go_wp2
  rw [Lib.run_from_unsafe w ⟨b, 0, none⟩ Tryz.underlying109 Tryz.underlying49 hj hsh (by kernel_rfl)]
  simp only [Result.andThen]
  rw [Oper.upon_value]
  go_wp2
  go_end0
  exact ⟨rfl, rfl⟩
/-- A builder at b, its row above B. -/
def BldR (b B : Nat) (l : List UInt8) (W : World) : Prop := b < B ∧ B ≤ W.heap.size ∧ ∃ p v, (p = Value.pointer none ∨ p = .pointer (some ⟨b, 0, none⟩)) ∧ W.heap[b]? = some (.cells #[p, v] 51 (0, 0)) ∧ W.ownsRow B 5 1 v l.length (Lib.byteCells l)
theorem bl_len (l : List UInt8) : (Lib.byteCells l).length = l.length := by simp [Lib.byteCells]
theorem BldR.is {b B : Nat} {l : List UInt8} {W : World} (h : BldR b B l W) : Lib.IsBuilder 51 5 b b (Lib.byteCells l) W := by
  obtain ⟨hb, hB, p, v, hp, hk, ho⟩ := h
  have hne : v.ownBlock ≠ some b := fun e => by have := own_base ho b e; omega
  rcases hp with rfl | rfl
  · exact .inl ⟨Nat.le_refl _, v, hk, by rw [bl_len]; exact own_mono (by omega) ho, hne⟩
  · exact .inr ⟨Nat.le_refl _, v, hk, by rw [bl_len]; exact own_mono (by omega) ho, hne⟩
theorem BldR.kq {b B : Nat} {l : List UInt8} {W W' : World} (h : BldR b B l W) {ts : List Nat} (hk : Kq ts W W') (h1 : 51 ∉ ts) (h2 : 5 ∉ ts) : BldR b B l W' := by
  obtain ⟨hb, hB, p, v, hp, hbk, ho⟩ := h
  exact ⟨hb, Nat.le_trans hB hk.1, p, v, hp, hk.get hbk h1, hk.own ho h2⟩
theorem infoB : (Tryz.prog.info? 5).map (fun i => (i.zero, i.size, i.bytes)) = some (some (.int .u8 0), 1, 1) := by kernel_rfl
theorem copyCheck_any (b B : Nat) (l : List UInt8) (w : World) (h : BldR b B l w) :
    Calls Tryz.prog 36 #[.pointer (some ⟨b, 0, none⟩)] w fun e w' => e = .returned (.tuple #[]) ∧ (∃ v, w'.heap[b]? = some (.cells #[.pointer (some ⟨b, 0, none⟩), v] 51 (0, 0)) ∧ w'.ownsRow B 5 1 v l.length (Lib.byteCells l)) ∧ Kq [51, 5] w w' ∧ Below b w w' ∧ ∀ k, k ≠ b → w'.heap[k]? = w.heap[k]? := by
  obtain ⟨hb, hB, p, v, hp, hk, ho⟩ := h
  rcases hp with rfl | rfl
  · have hi : Lib.BuilderAt 51 5 b b (.pointer none) (Lib.byteCells l) w := ⟨Nat.le_refl _, v, hk, by rw [bl_len]; exact own_mono (by omega) ho, fun e => by have := own_base ho b e; omega⟩
    refine (copyCheck_fresh b w hi.cell0 hi.shape hi.frozen0).mono ?_
    rintro e w' ⟨rfl, rfl⟩
    have hq : Kq [51] w (w.setCell ⟨b, 0, none⟩ (.pointer (some ⟨b, 0, none⟩))) := Kq.set hk (by simp) 0 _
    exact ⟨rfl, ⟨v, by rw [blk_set hk 0]; rfl, hq.own ho (by decide)⟩, hq.more (by intro t ht; simp at ht; subst ht; simp), (Below.refl _ _).setCell (p := ⟨b, 0, none⟩) (Nat.le_refl _) _, fun k hk => Below.heap_setCell w ⟨b, 0, none⟩ _ k hk⟩
  · refine (copyCheck_used b w ((blk_cell hk 0).trans rfl)).mono ?_
    rintro e w' ⟨rfl, rfl⟩
    exact ⟨rfl, ⟨v, hk, ho⟩, Kq.refl _ _, Below.refl _ _, fun k _ => rfl⟩
set_option maxRecDepth 100000 in
set_option maxHeartbeats 2000000 in
theorem write_any (b B : Nat) (l t : List UInt8) (w : World) (h : BldR b B l w) (hlen : l.length + t.length ≤ 100000000000) :
    Calls Tryz.prog 16 #[.pointer (some ⟨b, 0, none⟩), .string ⟨t.toArray⟩] w fun e w' => e = .returned (.tuple #[.int .i64 t.length, .nilIface]) ∧ BldR b B (l ++ t) w' ∧ Below b w w' ∧ Kq [51, 5] w w' ∧ ∀ k, k < B → k ≠ b → w'.heap[k]? = w.heap[k]? := by
  have hl := bl_len l
  have hts : (⟨t.toArray⟩ : ByteArray).size = t.length := by simp [ByteArray.size]
  obtain ⟨i0, hi, hz0, hz1, hz2⟩ := info_parts infoB
  obtain ⟨T, hT⟩ : ∃ T : ByteArray, T = ⟨t.toArray⟩ := ⟨_, rfl⟩
  rw [← hT] at hts ⊢
  have hcells : Lib.byteCells l ++ Lib.strCells T = Lib.byteCells (l ++ t) := by
    rw [hT]
    simp [Lib.strCells, Lib.byteCells]
  have HBB := Lib.hid (And.intro h.1 h.2.1)
  clear hT
  go_enter Tryz.func16, Tryz.ntmps16
  go_wp2_with fail
  refine (copyCheck_any b B l _ h).mono ?_
  rintro e w1 ⟨rfl, ⟨v, hbk, hown⟩, hk1, hb1, hs1⟩
  have HS1 := Lib.hid hs1
  clear hs1
  have HK1 := Lib.hid hk1
  have HB1 := Lib.hid hb1
  have hBw : B ≤ w1.heap.size := Nat.le_trans HBB.out.2 hk1.1
  have c0 : w1.cell? ⟨b, 0, none⟩ = some (.pointer (some ⟨b, 0, none⟩)) := by rw [Lib.cell_of_heap hbk]; rfl
  have c1 : w1.cell? ⟨b, 1, none⟩ = some v := by rw [Lib.cell_of_heap hbk]; rfl
  clear hk1 hb1 h
  go_wp2_with (at_builtin; refine Lib.wpList_append_own_string _ rfl _ _ 32 9 rfl B 5 i0 Tryz.underlying32 Tryz.underlying9 hi hz0 hz1 hz2 _ _ _ rfl hown T rfl ?c3 ?c4 ?c5 ?_)
  case c3 => unfold maxLen; omega
  case c4 => omega
  case c5 => exact hBw
  intro v' w2 hown' hgrow _
  have hlt : b < w1.heap.size := blk_lt hbk
  have hne : v.ownBlock ≠ some b := fun e => by have h1 := own_base hown b e; have h2 := HBB.out.1; omega
  have hb2 : w2.heap[b]? = some (.cells #[.pointer (some ⟨b, 0, none⟩), v] 51 (0, 0)) := by
    rw [hgrow.block b hlt (fun e => hne e.symm)]
    exact hbk
  have d0 : w2.cell? ⟨b, 0, none⟩ = some (.pointer (some ⟨b, 0, none⟩)) := by rw [Lib.cell_of_heap hb2]; rfl
  have d1 : w2.cell? ⟨b, 1, none⟩ = some v := by rw [Lib.cell_of_heap hb2]; rfl
  have f1 : w2.frozen? ⟨b, 1, none⟩ = false := Lib.frozen_of_heap hb2 1
  obtain ⟨ao, n', cap, rfl⟩ : ∃ ao n' cap, v' = .slice ao n' cap := by
    rcases hown'.2 with ⟨hv, _⟩ | ⟨g, cap, cur, hv, _⟩
    · exact ⟨_, _, _, hv⟩
    · exact ⟨_, _, _, hv⟩
  have hk2 : Kq [51, 5] w w2 := HK1.out.trans ((Kq.row (ts := [5]) hown (by simp) hgrow.size hgrow).more (by intro t ht; simp at ht; subst ht; simp))
  have hb3 : Below b w w2 := HB1.out.grown hgrow (Nat.le_of_lt hlt) (fun k e => by have h1 := own_base hown k e; have h2 := HBB.out.1; omega)
  have HS2 : Hid (∀ k, k < B → k ≠ b → w2.heap[k]? = w.heap[k]?) := fun k h1 h2 => (hgrow.block k (by omega) (fun e => by have h3 := own_base hown k e.symm; omega)).trans (HS1.out k h2)
  have HK2 := Lib.hid hk2
  have HB3 := Lib.hid hb3
  have HO2 := Lib.hid hown'
  have HH2 := Lib.hid hb2
  have HSZ2 : Hid (B ≤ w2.heap.size) := Nat.le_trans hBw hgrow.size
  clear hk2 hb3 hown hown' hgrow hbk hb2 hne hlt hBw
  go_wp2
  go_ret2
  have hs : Kq [51] w2 (w2.setCell ⟨b, 1, none⟩ (.slice ao n' cap)) := Kq.set HH2.out (by simp) 1 _
  refine ⟨rfl, ⟨HBB.out.1, Nat.le_trans HSZ2.out hs.1, .pointer (some ⟨b, 0, none⟩), .slice ao n' cap, .inr rfl, ?_, ?_⟩, HB3.out.setCell (p := ⟨b, 1, none⟩) (Nat.le_refl _) _, HK2.out.trans (hs.more (by intro t ht; simp at ht; subst ht; simp)), fun k h1 h2 => (Below.heap_setCell w2 ⟨b, 1, none⟩ _ k h2).trans (HS2.out k h1 h2)⟩
  · rw [blk_set HH2.out 1]
    rfl
  · have h9 := hs.own HO2.out (by decide)
    rw [List.length_append]
    exact h9
end Go.Proofs.YtbiajfkencamiaaGreatDoor.SH
