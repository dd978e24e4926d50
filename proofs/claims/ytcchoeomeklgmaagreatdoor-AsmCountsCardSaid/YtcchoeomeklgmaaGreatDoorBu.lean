/- strings.Builder: what its writes do. -/
import Derived.Test.YtcchoeomeklgmaaGreatDoorAB
namespace Go.Proofs.YtcchoeomeklgmaaGreatDoor.Core
open Go.RowKit Go.Shelf Go.Proofs.YtcchoeomeklgmaaGreatDoorW.PrintWords Go.Proofs.YtcchoeomeklgmaaGreatDoorW.PrintMore Go.Proofs.YtcchoeomeklgmaaGreatDoor
set_option linter.unusedVariables false
set_option linter.unusedSimpArgs false
theorem info46 : (Tryz.prog.info? 46).map (·.size) = some 2 := by kernel_rfl
set_option maxRecDepth 100000 in
set_option maxHeartbeats 1000000 in
theorem copyCheck_used (b : Nat) (w : World) (h0 : w.cell? ⟨b, 0, none⟩ = some (.pointer (some ⟨b, 0, none⟩))) :
    Calls Tryz.prog 27 #[.pointer (some ⟨b, 0, none⟩)] w fun e w' => e = .returned (.tuple #[]) ∧ w' = w := by
  obtain ⟨j, hj, _⟩ := Option.map_eq_some_iff.1 info46
  go_enter Tryz.func27, Tryz.ntmps27
  go_wp2_with fail
  rw [Lib.run_neq_ptr_same w _ Tryz.underlying43 hj]
  go_wp2_with fail
  go_end0
  exact ⟨rfl, rfl⟩
set_option maxRecDepth 100000 in
set_option maxHeartbeats 1000000 in
theorem copyCheck_fresh (b : Nat) (w : World) (h0 : w.cell? ⟨b, 0, none⟩ = some (.pointer none)) (hsh : w.shape? b = some (46, 2)) (hfz : w.frozen? ⟨b, 0, none⟩ = false) :
    Calls Tryz.prog 27 #[.pointer (some ⟨b, 0, none⟩)] w fun e w' => e = .returned (.tuple #[]) ∧ w' = w.setCell ⟨b, 0, none⟩ (.pointer (some ⟨b, 0, none⟩)) := by
  obtain ⟨j, hj, hjs⟩ := Option.map_eq_some_iff.1 info46
  go_enter Tryz.func27, Tryz.ntmps27
  go_wp2
  rw [Lib.run_to_unsafe w ⟨b, 0, none⟩ Tryz.underlying43 Tryz.underlying96 hj (by rw [hjs]; decide) hsh (Nat.zero_lt_succ 1)]
  simp only [Result.andThen]
  rw [Oper.upon_value]
  go_wp2
  rw [run_callFunc_extern Tryz.func42 (by kernel_rfl) (by kernel_rfl) (by kernel_rfl) (e := Extern.AbiNoEscape.same) (by kernel_rfl)]
  rw [Lib.run_noEscape]
  simp only [Result.andThen]
  rw [Oper.upon_value]
  go_wp2
  rw [Lib.run_from_unsafe w ⟨b, 0, none⟩ Tryz.underlying96 Tryz.underlying43 hj hsh (by kernel_rfl)]
  simp only [Result.andThen]
  rw [Oper.upon_value]
  go_wp2
  go_end0
  exact ⟨rfl, rfl⟩
/-- What is neither a builder's block nor a row of bytes stays as it is. -/
def KeepsW (w w' : World) : Prop := ∀ (g : Nat) (cs : Array Value) (t : Nat) (fr : Nat × Nat), w.heap[g]? = some (Obj.cells cs t fr) → t ≠ 46 → t ≠ 5 → w'.heap[g]? = some (Obj.cells cs t fr)
theorem KeepsW.set {w : World} {b j : Nat} {cb : Array Value} (hb : w.heap[b]? = some (.cells cb 46 (0, 0))) (v : Value) : KeepsW w (w.setCell ⟨b, j, none⟩ v) := fun g cs t fr h h1 _ => by
  have hne : g ≠ b := fun e => by
    rw [e, hb] at h
    injection h with h
    injection h with _ h
    exact h1 h.symm
  rw [Below.heap_setCell w ⟨b, j, none⟩ v g hne]
  exact h
theorem copyCheck_any (B b : Nat) (bs : List Value) (w : World) (h : Lib.IsBuilder 46 5 B b bs w) :
    Calls Tryz.prog 27 #[.pointer (some ⟨b, 0, none⟩)] w fun e w' => e = .returned (.tuple #[]) ∧ Lib.BuilderAt 46 5 B b (.pointer (some ⟨b, 0, none⟩)) bs w' ∧ Below B w w' ∧ KeepsW w w' := by
  rcases h with h | h
  · refine (copyCheck_fresh b w h.cell0 h.shape h.frozen0).mono ?_
    rintro e w' ⟨rfl, rfl⟩
    obtain ⟨_, v, hv, _⟩ := id h
    exact ⟨rfl, h.used _, (Below.refl B w).setCell (p := ⟨b, 0, none⟩) h.1 _, KeepsW.set hv _⟩
  · refine (copyCheck_used b w h.cell0).mono ?_
    rintro e w' ⟨rfl, rfl⟩
    exact ⟨rfl, h, Below.refl B _, fun _ _ _ _ h _ _ => h⟩
theorem infoB : (Tryz.prog.info? 5).map (fun i => (i.zero, i.size, i.bytes)) = some (some (.int .u8 0), 1, 1) := by kernel_rfl
set_option maxRecDepth 100000 in
set_option maxHeartbeats 2000000 in
theorem write_any (B b : Nat) (l t : List UInt8) (w : World) (h : Lib.IsBuilder 46 5 B b (Lib.byteCells l) w) (hlen : l.length + t.length ≤ 1000000) (hBw : B ≤ w.heap.size) :
    Calls Tryz.prog 15 #[.pointer (some ⟨b, 0, none⟩), .string ⟨t.toArray⟩] w fun e w' => e = .returned (.tuple #[.int .i64 t.length, .nilIface]) ∧ Lib.IsBuilder 46 5 B b (Lib.byteCells (l ++ t)) w' ∧ Below B w w' ∧ KeepsW w w' := by
  have hl : (Lib.byteCells l).length = l.length := by simp [Lib.byteCells]
  have hts : (⟨t.toArray⟩ : ByteArray).size = t.length := by simp [ByteArray.size]
  obtain ⟨i0, hi, hz0, hz1, hz2⟩ := info_parts infoB
  obtain ⟨T, hT⟩ : ∃ T : ByteArray, T = ⟨t.toArray⟩ := ⟨_, rfl⟩
  rw [← hT] at hts ⊢
  have hcells : Lib.byteCells l ++ Lib.strCells T = Lib.byteCells (l ++ t) := by
    rw [hT]
    simp [Lib.strCells, Lib.byteCells]
  clear hT
  go_enter Tryz.func15, Tryz.ntmps15
  go_wp2_with fail
  refine (copyCheck_any B b _ _ h).mono ?_
  rintro e w1 ⟨rfl, h1, hb1, hk1⟩
  have HK1 := Lib.hid hk1
  clear hk1
  obtain ⟨hB, v, hbk, hown, hne⟩ := h1
  have c0 : w1.cell? ⟨b, 0, none⟩ = some (.pointer (some ⟨b, 0, none⟩)) := by rw [Lib.cell_of_heap hbk]; rfl
  have c1 : w1.cell? ⟨b, 1, none⟩ = some v := by rw [Lib.cell_of_heap hbk]; rfl
  go_wp2_with (at_builtin; refine Lib.wpList_append_own_string _ rfl _ _ 44 9 rfl B 5 i0 Tryz.underlying44 Tryz.underlying9 hi hz0 hz1 hz2 _ _ _ rfl hown T rfl ?c3 ?c4 ?c5 ?_)
  case c3 => unfold maxLen; omega
  case c4 => omega
  case c5 => have := hb1.size; omega
  intro v' w2 hown' hgrow _
  have hlt : b < w1.heap.size := blk_lt hbk
  have hb2 : w2.heap[b]? = some (.cells #[.pointer (some ⟨b, 0, none⟩), v] 46 (0, 0)) := by
    rw [hgrow.block b hlt (fun e => hne e.symm)]
    exact hbk
  have d0 : w2.cell? ⟨b, 0, none⟩ = some (.pointer (some ⟨b, 0, none⟩)) := by rw [Lib.cell_of_heap hb2]; rfl
  have d1 : w2.cell? ⟨b, 1, none⟩ = some v := by rw [Lib.cell_of_heap hb2]; rfl
  have f1 : w2.frozen? ⟨b, 1, none⟩ = false := Lib.frozen_of_heap hb2 1
  obtain ⟨ao, n', cap, rfl⟩ : ∃ ao n' cap, v' = .slice ao n' cap := by
    rcases hown'.2 with ⟨hv, _⟩ | ⟨g, cap, cur, hv, _⟩
    · exact ⟨_, _, _, hv⟩
    · exact ⟨_, _, _, hv⟩
  go_wp2
  go_ret2
  refine ⟨rfl, .inr ?_, ?_, ?_⟩
  · exact Lib.BuilderAt.put (T := 46) (e := 5) hB hb2 (bs' := Lib.byteCells (l ++ t)) (by rw [show (Lib.byteCells (l ++ t)).length = l.length + t.length by simp [Lib.byteCells]]; exact hown') (by decide)
  · exact (hb1.grown hgrow (by have := hb1.size; omega) (fun k hk => (hown.lt k hk).1)).setCell (p := ⟨b, 1, none⟩) hB _
  · intro g cs t fr h h46 h5
    refine KeepsW.set hb2 _ g cs t fr ?_ h46 h5
    have hg := HK1.out g cs t fr h h46 h5
    rw [hgrow.block g (Array.getElem?_eq_some_iff.1 hg).1 (fun e => ?_)]
    · exact hg
    · rcases hown.2 with ⟨hv, _⟩ | ⟨g', cap, cur, hv, _, hc, _⟩
      · rw [hv] at e; simp [Value.ownBlock] at e
      · rw [hv] at e
        have : g = g' := by simpa [Value.ownBlock] using e
        rw [this, hc] at hg
        injection hg with hg
        injection hg with _ hg
        exact h5 hg.symm
end Go.Proofs.YtcchoeomeklgmaaGreatDoor.Core
