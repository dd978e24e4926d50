/- asm.line: an instruction's line: the walk. Printed by gen_a1.py. -/
import Derived.Test.YtcchoeomeklgmaaGreatDoorR3
namespace Go.Proofs.YtcchoeomeklgmaaGreatDoor.Core
open Go.RowKit Go.Shelf Go.Proofs.YtcchoeomeklgmaaGreatDoorW.PrintWords Go.Proofs.YtcchoeomeklgmaaGreatDoorW.PrintMore Go.Proofs.YtcchoeomeklgmaaGreatDoor.P1 Go.Proofs.YtcchoeomeklgmaaGreatDoor
open Go.Proofs.YtcchoeomeklgmaaGreatDoor.PAsmPrints (S56 k56 z56 S49 k49 z49 at_T49 at_T56 rd_T49 rd_T56 S59 k59 z59 S39 k39 z39 at_T39 at_T59 rd_T39 rd_T59)
set_option linter.unusedVariables false
set_option linter.unusedSimpArgs false
/-- strconv's table, as it was laid. -/
def TabP (w : World) : Prop := Lib.TabIs Tryz.prog w "internal/strconv.uint64pow10" .u64 Lib.pow10Tab
theorem TabP.below {w w' : World} (h : TabP w) (hb : Below w.heap.size w w') : TabP w' := TabIs_below (g := 0) (by kernel_rfl) h hb
theorem itoa_any (v : Int) (h0 : -2147483648 ≤ v) (h1 : v ≤ 2147483647) (w : World) (ht : TabP w) : Calls Tryz.prog 16 #[.int .i64 v] w fun e w' => e = .returned (.string (bx (Lib.itoa v))) ∧ Below w.heap.size w w' := by
  refine (Tryz.strconv_Itoa v (by omega) (by omega) w ht).mono ?_
  rintro e w' ⟨rfl, k, os, rfl⟩
  exact ⟨rfl, Lib.below_grow _ _ (Nat.le_refl _) _ _⟩
theorem conv_at (m : UInt8) (g : Nat) (W : World) (h : W.heap[g]? = some (.cells #[.int .u8 m.toNat] 5 (0, 0))) : (convert 44 9 (.slice (some ⟨g, 0, none⟩) 1 1)).run Tryz.prog W = .ok (.string ⟨#[m]⟩) W := by
  have hr : ReadsOf (Value.int .u8) (0 : Int) W (some ⟨g, 0, none⟩) 1 [(m.toNat : Int)] := ⟨rfl, by omega, fun _ => ⟨_, rfl, fun j hj => by
    obtain rfl : j = 0 := by simpa using hj
    rw [add_plain]
    simp [World.cell?, h]⟩⟩
  have hc := Kd.C_string (P := Tryz.prog) (src := 44) (dst := 9) (c := 1) Tryz.underlying44 Tryz.underlying5 Tryz.underlying9 (Kd.C_of_reads (enc := Value.int .u8) (d := (0 : Int)) (h1 := fun _ => rfl) hr)
  rw [hc]
  simp [strOfNums]
theorem name_cell (o : Int) (h1 : 1 ≤ o) (h2 : o ≤ 17) (w : World) : (w.alloc namesO).cell? ⟨w.heap.size, o.toNat - 1, none⟩ = some (.string (bx (nameT o))) := by
  have h : (w.alloc namesO).heap[w.heap.size]? = some namesO := heap_alloc_new w namesO
  unfold World.cell?
  rw [h]
  have h3 : ∀ j : Fin 18, 1 ≤ j.val → ((namesL.map fun l => Value.string ⟨l.toArray⟩).toArray)[j.val - 1]? = some (.string (bx (nameT (j.val : Int)))) := by
    intro ⟨j, hj⟩
    rcases j with _ | _ | _ | _ | _ | _ | _ | _ | _ | _ | _ | _ | _ | _ | _ | _ | _ | _ | j
    all_goals first | (intro h; exact absurd h (by decide)) | (intro _; rfl) | omega
  have := h3 ⟨o.toNat, by omega⟩ (by show 1 ≤ o.toNat; omega)
  rw [show ((o.toNat : Nat) : Int) = o by omega] at this
  simpa [namesO] using this
set_option maxRecDepth 100000 in
theorem name_any (o : Int) (h1 : 1 ≤ o) (h2 : o ≤ 17) (w : World) (ht : Tab2 w) : Calls Tryz.prog 29 #[.int .i64 o] w fun e w' => e = .returned (.string (bx (nameT o))) ∧ Below w.heap.size w w' := by
  have HN := Lib.hid (names_any w ht)
  have hc := name_cell o h1 h2 w
  have hb : Below w.heap.size w (w.alloc namesO) := (Below.refl _ _).alloc (Nat.le_refl _) _
  obtain ⟨NM, hNM⟩ : ∃ B, B = bx (nameT o) := ⟨_, rfl⟩
  rw [← hNM] at hc ⊢
  have HB := Lib.hid hb
  have g1 : decide (o < 1) = false := decide_eq_false (by omega)
  have g2 : decide (o > 17) = false := decide_eq_false (by omega)
  have g3 : 0 ≤ o - 1 := by omega
  have g4 : o - 1 < 17 := by omega
  have g5 : wrap64 (o - 1) = o - 1 := by unfold wrap64; omega
  have g6 : IntKind.i64.wrap (o - 1) = o - 1 := by rw [IntKind.wrap_i64]; omega
  have g7 : (o - 1).toNat = o.toNat - 1 := by omega
  obtain ⟨W1, hW1⟩ : ∃ W1, W1 = w.alloc namesO := ⟨_, rfl⟩
  rw [← hW1] at hc HB HN
  clear hNM hb ht h1 h2 hW1
  go_enter Tryz.func29, Tryz.ntmps29
  go_wp2_with fail
  refine HN.out.mono ?_
  rintro _ w1 ⟨rfl, rfl⟩
  go_wp2_with fail
  go_ret
  exact ⟨rfl, HB.out⟩
theorem row_one (W : World) (s : ByteArray) : Kd.N Kd.string 9 (W.alloc (.cells #[.string s] 9)) W.heap.size (fun _ => True) (.slice (some ⟨W.heap.size, 0, none⟩) 1 1) [s] := by
  refine Kd.R_N ⟨fun _ _ => trivial, [.string s], ?_, ?_⟩
  · have h2 := World.ownsRow_lit (base := W.heap.size) (e := 9) (size := 1) W #[.string s] 1 (Nat.le_refl _) (by decide) (by simp)
    change (W.alloc _).ownsRow W.heap.size 9 1 _ _ _
    simpa using h2
  · exact Reps.one (show Kd.M Kd.string _ _ _ s [.string s] from rfl) (Reps.none _ _)
/-- The instruction in a block. -/
structure RJ (w : World) (is : List Int) (W : World) : Prop where
  below : Below w.heap.size w W
  i : W.heap[w.heap.size]? = some (.cells (ints is) 56 (0, 0))
theorem RJ.drawn {w : World} {is : List Int} {W W' : World} (h : RJ w is W) (hb : Below W.heap.size W W') : RJ w is W' := ⟨h.below.trans (hb.mono h.below.size), blk_below h.i hb⟩
/-- What asm.line holds while it goes on: the words, the fields, the signs. -/
structure LW (w : World) (F : List Int) (nb gb : Nat) (OB : Obj) (W : World) (vr : Value) (ws : List ByteArray) : Prop where
  below : Below w.heap.size w W
  row : Kd.N Kd.string 9 W w.heap.size (fun _ => True) vr ws
  f : W.heap[nb]? = some (.cells (ints F) 75 (0, 0))
  m : W.heap[gb]? = some OB
theorem LW.drawn {w : World} {F : List Int} {nb gb : Nat} {OB : Obj} {W W' : World} {vr : Value} {ws : List ByteArray} (h : LW w F nb gb OB W vr ws) (hb : Below W.heap.size W W') : LW w F nb gb OB W' vr ws :=
  ⟨h.below.trans (hb.mono h.below.size), Kd.N_below h.row hb, blk_below h.f hb, (hb.block gb (Array.getElem?_eq_some_iff.1 h.m).1).trans h.m⟩
theorem LW.app {w : World} {F : List Int} {nb gb : Nat} {OB : Obj} {W W' : World} {vr vr' : Value} {ws ws' : List ByteArray} (h : LW w F nb gb OB W vr ws) (hO : ∃ cb fr, OB = .cells cb 5 fr) (hN : Kd.N Kd.string 9 W' w.heap.size (fun _ => True) vr' ws') (hB : Below w.heap.size w W') (hg : W.grownBy W' vr.ownBlock) : LW w F nb gb OB W' vr' ws' := by
  refine ⟨hB, hN, ?_, ?_⟩
  · rw [hg.block nb (blk_lt h.f) (fun e => ?_)]
    · exact h.f
    · obtain ⟨cells, hc⟩ := Kd.N_typed h.row nb e.symm
      rw [h.f] at hc
      injection hc with hc
      injection hc with _ hc
      exact absurd hc (by decide)
  · rw [hg.block gb (Array.getElem?_eq_some_iff.1 h.m).1 (fun e => ?_)]
    · exact h.m
    · obtain ⟨cells, hc⟩ := Kd.N_typed h.row gb e.symm
      obtain ⟨cb, fr, rfl⟩ := hO
      rw [h.m] at hc
      injection hc with hc
      injection hc with _ hc
      exact absurd hc (by decide)
theorem infoS : (Tryz.prog.info? 9).map (fun i => (i.zero, i.size, i.bytes)) = some (some (.string ByteArray.empty), 1, 16) := by kernel_rfl
theorem fieldWords_snoc : ∀ (ms : List UInt8) (vs : List Int) (m : UInt8) (v : Int), ms.length = vs.length → fieldWords (ms ++ [m]) (vs ++ [v]) = fieldWords ms vs ++ (if m = 45 then [] else [if m = 61 then Lib.itoa v else m :: Lib.itoa v])
  | [], [], m, v, _ => by
    show fieldWords [m] [v] = _
    rw [fieldWords]
    by_cases h : m = 45
    · rw [if_pos h, if_pos h]; rfl
    · rw [if_neg h, if_neg h]; rfl
  | x :: ms, y :: vs, m, v, h => by
    have ih := fieldWords_snoc ms vs m v (by simpa using h)
    show fieldWords (x :: (ms ++ [m])) (y :: (vs ++ [v])) = _
    rw [fieldWords, fieldWords, ih]
    by_cases hx : x = 45
    · rw [if_pos hx, if_pos hx]
    · rw [if_neg hx, if_neg hx]; rfl
  | [], y :: vs, m, v, h => by simp at h
  | x :: ms, [], m, v, h => by simp at h
theorem fieldWords_le : ∀ (ms : List UInt8) (vs : List Int), (fieldWords ms vs).length ≤ ms.length
  | [], _ => by simp [fieldWords]
  | m :: ms, [] => by simp [fieldWords]
  | m :: ms, v :: vs => by
    have := fieldWords_le ms vs
    rw [fieldWords]
    split <;> simp <;> omega
theorem fw_step (mk : List UInt8) (F : List Int) (j : Nat) (h1 : j < mk.length) (h2 : mk.length = F.length) : fieldWords (mk.take (j + 1)) (F.take (j + 1)) = fieldWords (mk.take j) (F.take j) ++ (if mk.getD j 0 = 45 then [] else [if mk.getD j 0 = 61 then Lib.itoa (F.getD j 0) else mk.getD j 0 :: Lib.itoa (F.getD j 0)]) := by
  have h3 : j < F.length := by omega
  rw [List.take_succ_eq_append_getElem h1, List.take_succ_eq_append_getElem h3, fieldWords_snoc _ _ _ _ (by simp; omega)]
  simp [List.getD, List.getElem?_eq_getElem h1, List.getElem?_eq_getElem h3]
theorem bytes_block (w3 : World) (M : ByteArray) : ∃ cb fr, (Lib.bytesWorld w3 5 M).heap[w3.heap.size]? = some (.cells cb 5 fr) := by
  unfold Lib.bytesWorld
  simp [World.freeze, World.alloc, World.drew, Array.getElem_modify, -World.alloc_eq, -World.drew_eq]
theorem join_spaced (x : List UInt8) (r : List (List UInt8)) : Lib.join (x :: r) [32] = x ++ spaced r := by
  rw [Lib.join_cons]
  simp [Lib.joinTail, spaced, List.flatMap]
set_option maxRecDepth 100000 in
set_option maxHeartbeats 16000000 in
theorem line_any (o a1 a2 a3 a4 : Int) (hg : GoodI (o, [a1, a2, a3, a4])) (w : World) (ht : Tab2 w) (htp : TabP w) :
    Calls Tryz.prog 17 #[.agg #[.int .i64 o, .int .i64 a1, .int .i64 a2, .int .i64 a3, .int .i64 a4]] w fun e w' => e = .returned (.string (bx (lineT (o, [a1, a2, a3, a4]) ++ [10]))) ∧ Below w.heap.size w w' := by
  have hLO := lineT_ok _ hg
  obtain ⟨ho1, ho2, hfs⟩ := hg
  simp only at ho1 ho2 hfs
  obtain ⟨L, hL⟩ : ∃ L, L = lineT (o, [a1, a2, a3, a4]) := ⟨_, rfl⟩
  rw [← hL] at hLO ⊢
  unfold lineT at hL
  simp only at hL
  obtain ⟨nm, hnm⟩ : ∃ nm, nm = nameT o := ⟨_, rfl⟩
  rw [← hnm] at hL
  have hna := fun W (h : Below w.heap.size w W) => name_any o ho1 ho2 W (ht.below h)
  rw [← hnm] at hna
  have hml : (marksL o).length = 4 := marksL_len o
  have hmk := fun W => marks_any o.toNat (by omega) W
  rw [show ((o.toNat : Nat) : Int) = o by omega] at hmk
  obtain ⟨mk, hmke⟩ : ∃ mk, marksL o = mk := ⟨_, rfl⟩
  rw [hmke] at hfs hL hml hmk
  obtain ⟨F, hF⟩ : ∃ P : List Int, P = [a1, a2, a3, a4] := ⟨_, rfl⟩
  rw [← hF] at hfs hL
  obtain ⟨M, hM⟩ : ∃ M : ByteArray, M = ⟨mk.toArray⟩ := ⟨_, rfl⟩
  rw [← hM] at hmk
  have hMs : M.size = 4 := by rw [hM]; simpa [ByteArray.size] using hml
  have hcv := fun W => print_bytes (P := Tryz.prog) 9 44 5 Tryz.underlying9 Tryz.underlying44 Tryz.underlying5 M W
  rw [hMs] at hcv
  obtain ⟨NM, hNM⟩ : ∃ B, B = bx nm := ⟨_, rfl⟩
  have HNA : Hid (∀ W, Below w.heap.size w W → Calls Tryz.prog 29 #[.int .i64 o] W fun e w' => e = .returned (.string NM) ∧ Below W.heap.size W w') := by rw [hNM]; exact hna
  have HMK := Lib.hid hmk
  have HFS := Lib.hid hfs
  have HFF := Lib.hid hF
  have HL := Lib.hid hL
  have HML := Lib.hid hml
  have HMM := Lib.hid hM
  have HNM := Lib.hid hNM
  have HLO := Lib.hid hLO
  have HTP := Lib.hid htp
  have HCV := Lib.hid hcv
  clear hfs hF hL hml hM hNM hna hmk hLO ht htp ho1 ho2 hnm hmke hcv
  have HI0 : Hid (RJ w [o, a1, a2, a3, a4] (w.alloc (.cells #[.int .i64 o, .int .i64 a1, .int .i64 a2, .int .i64 a3, .int .i64 a4] 56))) := ⟨(Below.refl _ _).alloc (Nat.le_refl _) _, heap_alloc_new _ _⟩
  go_enter Tryz.func17, Tryz.ntmps17
  go_wp2_with fail
  refine (HNA.out _ HI0.out.below).mono ?_
  rintro _ w2 ⟨rfl, hb2⟩
  have HI2 : Hid (RJ w [o, a1, a2, a3, a4] (w2.alloc (.cells #[.string NM] 9))) := (HI0.out.drawn hb2).drawn ((Below.refl _ _).alloc (Nat.le_refl _) _)
  have HR2 := Lib.hid (row_one w2 NM)
  have hgl : w.heap.size < w2.heap.size := blk_lt (HI0.out.drawn hb2).i
  have HGL := Lib.hid hgl
  have k0 := cell_ints HI2.out.i 0 _ rfl
  have k1 := cell_ints HI2.out.i 1 _ rfl
  have k2 := cell_ints HI2.out.i 2 _ rfl
  have k3 := cell_ints HI2.out.i 3 _ rfl
  have k4 := cell_ints HI2.out.i 4 _ rfl
  have q0 := cell_ints (HI0.out.drawn hb2).i 0 _ rfl
  clear hb2 HNA
  have hcv := HCV.out
  go_wp2_with fail
  have HB4 : Hid (Below w.heap.size w ((w2.alloc (.cells #[.string NM] 9)).alloc (.cells #[.int .i64 a1, .int .i64 a2, .int .i64 a3, .int .i64 a4] 75))) := HI2.out.below.alloc (by simp; omega) _
  have HR4 : Hid (Kd.N Kd.string 9 ((w2.alloc (.cells #[.string NM] 9)).alloc (.cells #[.int .i64 a1, .int .i64 a2, .int .i64 a3, .int .i64 a4] 75)) w.heap.size (fun _ => True) (.slice (some ⟨w2.heap.size, 0, none⟩) 1 1) [NM]) := Kd.N_lower (Kd.N_alloc HR2.out _) (Nat.le_of_lt hgl)
  have HF4 : Hid (((w2.alloc (.cells #[.string NM] 9)).alloc (.cells #[.int .i64 a1, .int .i64 a2, .int .i64 a3, .int .i64 a4] 75)).heap[w2.heap.size + 1]? = some (.cells (ints F) 75 (0, 0))) := by
    have h := heap_alloc_new (w2.alloc (.cells #[.string NM] 9)) (.cells (ints F) 75)
    rw [World.size_alloc] at h
    rw [HFF.out] at h ⊢
    exact h
  clear k0 k1 k2 k3 k4 q0 hcv hgl
  refine (HMK.out _).mono ?_
  rintro _ w3 ⟨rfl, hb3⟩
  have hcv := HCV.out
  have HS3 : Hid (w.heap.size ≤ w3.heap.size) := Nat.le_trans HB4.out.size hb3.size
  have hw34 : Below w3.heap.size w3 (Lib.bytesWorld w3 5 M) := bytes_below (Below.refl _ _) (Nat.le_refl _) 5 M
  obtain ⟨cb, fr, hOB⟩ := bytes_block w3 M
  have hMC : ∀ W : World, W.heap[w3.heap.size]? = some (.cells cb 5 fr) → ∀ j, j < 4 → W.cell? ⟨w3.heap.size, j, none⟩ = some (.int .u8 ((mk.getD j 0).toNat : Int)) := fun W hW j hj => by
    have hr := bytes_reads w3 5 M (by rw [hMs]; omega)
    obtain ⟨a2, ea2, hcc⟩ := hr.2.2 (by rw [hMs]; omega)
    injection ea2 with ea2
    subst ea2
    have hc := hcc j (by rw [hMs]; exact hj)
    rw [add_plain] at hc
    have hjm : j < mk.length := by rw [HML.out]; exact hj
    have hbt : bt M j = ((mk.getD j 0).toNat : Int) := by rw [HMM.out, bt_bx mk j hjm, List.getD, List.getElem?_eq_getElem hjm]; rfl
    rw [← hbt]
    have h2 : (Lib.bytesWorld w3 5 M).cell? ⟨w3.heap.size, j, none⟩ = some (.int .u8 (bt M j)) := by rw [hc, ← rd_bytesOf]; rfl
    rw [← h2]
    unfold World.cell?
    rw [hW, hOB]
  have HMC := Lib.hid hMC
  have HV0 : Hid (LW w F (w2.heap.size + 1) w3.heap.size (.cells cb 5 fr) (Lib.bytesWorld w3 5 M) (.slice (some ⟨w2.heap.size, 0, none⟩) 1 1) [NM]) :=
    ⟨HB4.out.trans ((hb3.trans (hw34.mono hb3.size)).mono HB4.out.size), Kd.N_below (Kd.N_below HR4.out hb3) hw34, blk_below (blk_below HF4.out hb3) hw34, hOB⟩
  clear hw34 hOB hMC hb3 HB4 HR4 HF4 HR2 HI2 HI0
  go_wp2_with fail
  generalize Lib.bytesWorld w3 5 M = W4 at *
  generalize grownCap w3 4 0 5 = gc at *
  generalize w3.heap.size = gb at *
  generalize w2.heap.size + 1 = nb at *
  obtain ⟨OB, hOBe⟩ : ∃ OB, OB = Obj.cells cb 5 fr := ⟨_, rfl⟩
  have HOB : Hid (∃ cb fr, OB = .cells cb 5 fr) := ⟨cb, fr, hOBe⟩
  rw [← hOBe] at HMC HV0
  clear hOBe hcv
  go_loopg [3, 25] 4 (fun d vr i W => ∃ (j : Nat) (ws : List ByteArray), j + d = 4 ∧ i = .int .i64 j ∧ Hid (LW w F nb gb OB W vr ws) ∧ Hid (ws = wB (nm :: fieldWords (mk.take j) (F.take j))))
  case atStart => exact ⟨0, [NM], rfl, rfl, HV0.out, by show _ = _; rw [HNM.out]; simp [fieldWords]⟩
  case round =>
    obtain ⟨j, ws, hjd, rfl, hV, hW⟩ := hrel
    have HJD := Lib.hid hjd
    have HWL : Hid (ws.length ≤ 10) := by
      show _ ≤ _
      rw [hW.out, List.length_map, List.length_cons]
      have := fieldWords_le (mk.take j) (F.take j)
      rw [List.length_take] at this
      have := HML.out
      omega
    by_cases hj4 : j < 4
    · have hj1 : (j : Int) < 4 := by omega
      have hj2 : decide ((j : Int) < 4) = true := decide_eq_true hj1
      have hj0 : (0 : Int) ≤ (j : Int) := by omega
      have hjw : wrap64 ((j : Int) + 1) = ((j + 1 : Nat) : Int) := by unfold wrap64; omega
      obtain ⟨_, hvj0⟩ := getD4 HFF.out hj4
      have hfl := (fieldsOk_at mk F HFS.out).1
      have hfo := (fieldsOk_at mk F HFS.out).2 j (by rw [HML.out]; exact hj4)
      have hps := fw_step mk F j (by rw [HML.out]; exact hj4) hfl
      have kb := HMC.out _ hV.out.m j hj4
      obtain ⟨vj, hvj⟩ : ∃ x, F.getD j 0 = x := ⟨_, rfl⟩
      obtain ⟨m, hm⟩ : ∃ x, mk.getD j 0 = x := ⟨_, rfl⟩
      rw [hvj] at hvj0 hps hfo
      rw [hm] at hps hfo kb
      have kf : wr.cell? ⟨nb, j, none⟩ = some (.int .i64 vj) := cell_ints hV.out.f j vj hvj0
      have HVJ := Lib.hid hvj0
      have HPS := Lib.hid hps
      have HFO := Lib.hid hfo
      have HWW : Hid (∀ x, x = (if m = 45 then ([] : List (List UInt8)) else [if m = 61 then Lib.itoa vj else m :: Lib.itoa vj]) → ws ++ wB x = wB (nm :: fieldWords (mk.take (j + 1)) (F.take (j + 1)))) := fun x hx => by
        rw [hW.out, HPS.out, hx]
        simp
      clear hjd hvj0 hfo hps hvj hm hfl
      by_cases h45 : m = 45
      · have HX2 : Hid (ws = wB (nm :: fieldWords (mk.take (j + 1)) (F.take (j + 1)))) := by
          have := HWW.out [] (by rw [if_pos h45])
          show _ = _
          simpa using this
        subst h45
        have kb2 : wr.cell? ⟨gb, j, none⟩ = some (.int .u8 45) := kb
        clear kf kb
        go_wp2_with fail
        go_roundg (4 - (j + 1))
        case measure => exact step_lt HJD.out hj4
        case rel => exact ⟨j + 1, ws, step_eq hj4, by go_num, hV.out, HX2.out⟩
      · have n45 : (((m.toNat : Nat) : Int) == 45) = false := u8_nek (by decide) h45
        by_cases h61 : m = 61
        · have hv : -2147483648 ≤ vj ∧ vj ≤ 2147483647 := by
            have h := HFO.out
            unfold fieldOk at h
            rwa [if_neg h45, if_pos h61] at h
          have hit := fun W (h : Below w.heap.size w W) => itoa_any vj hv.1 hv.2 W (HTP.out.below h)
          obtain ⟨D, hD⟩ : ∃ B, B = bx (Lib.itoa vj) := ⟨_, rfl⟩
          rw [← hD] at hit
          have HIT := Lib.hid hit
          have HX2 : Hid (ws ++ [D] = wB (nm :: fieldWords (mk.take (j + 1)) (F.take (j + 1)))) := by
            have := HWW.out [Lib.itoa vj] (by rw [if_neg h45, if_pos h61])
            rw [hD]
            exact this
          subst h61
          have kb2 : wr.cell? ⟨gb, j, none⟩ = some (.int .u8 61) := kb
          clear hv hit hD kb n45 h45
          go_wp2_with fail
          refine (HIT.out _ hV.out.below).mono ?_
          rintro _ w6 ⟨rfl, hb6⟩
          have HV6 := Lib.hid (hV.out.drawn hb6)
          clear hb6 kf kb2
          go_wp2_with ((with_reducible refine gate_builtin (b := .append) (xs := #[.tmp 46, .tmp 51]) rfl ?_); at_builtin; refine Kd.N_append Kd.string (w0 := w) w.heap.size rfl (.tmp 46) (.tmp 51) 74 9 (.string ByteArray.empty) 16 rfl Tryz.underlying74 infoS rfl (by decide) (by decide) _ ws D [.string D] (fun _ => True) (fun _ => False) rfl rfl (fun _ _ => rfl) (fun _ h => h.elim) (fun _ _ => trivial) HV6.out.row HV6.out.below HV6.out.below.size (by have := HWL.out; omega) ?_; intro v1 w7 hN hB hg hat; have HV7 := Lib.hid (HV6.out.app HOB.out hN hB hg); clear hN hB hg hat)
          go_roundg (4 - (j + 1))
          case measure => exact step_lt HJD.out hj4
          case rel => exact ⟨j + 1, _, step_eq hj4, by go_num, HV7.out, HX2.out⟩
        · have n61 : (((m.toNat : Nat) : Int) == 61) = false := u8_nek (by decide) h61
          have hv : 0 ≤ vj ∧ vj ≤ 255 := by
            have h := HFO.out
            unfold fieldOk at h
            rwa [if_neg h45, if_neg h61] at h
          have hit := fun W (h : Below w.heap.size w W) => itoa_any vj (by omega) (by omega) W (HTP.out.below h)
          have hdl := (itoa_word vj (by omega) (by omega)).2
          obtain ⟨D, hD⟩ : ∃ B, B = bx (Lib.itoa vj) := ⟨_, rfl⟩
          have hDs : D.size ≤ 100 := by rw [hD, bx_size]; omega
          rw [← hD] at hit
          have HIT := Lib.hid hit
          obtain ⟨M1, hM1⟩ : ∃ B : ByteArray, B = ⟨#[m]⟩ := ⟨_, rfl⟩
          obtain ⟨X3, hX3⟩ : ∃ B, M1 ++ D = B := ⟨_, rfl⟩
          have hM1s : M1.size = 1 := by rw [hM1]; rfl
          have HCO : Hid (∀ g W, W.heap[g]? = some (.cells #[.int .u8 (m.toNat : Int)] 5 (0, 0)) → (convert 44 9 (.slice (some ⟨g, 0, none⟩) 1 1)).run Tryz.prog W = .ok (.string M1) W) := fun g W h => by rw [hM1]; exact conv_at m g W h
          have HZ3 : Hid (M1.size + D.size ≤ 9223372036854775807) := by show _ ≤ _; omega
          have HE3 := Lib.hid hX3
          have HX2 : Hid (ws ++ [X3] = wB (nm :: fieldWords (mk.take (j + 1)) (F.take (j + 1)))) := by
            have := HWW.out [m :: Lib.itoa vj] (by rw [if_neg h45, if_neg h61])
            rw [← hX3, hM1, hD, show (⟨#[m]⟩ : ByteArray) = bx [m] from rfl, bx_app]
            exact this
          have HWX := HX2
          clear hv hit hD hdl hDs hM1 hM1s hX3 h45 h61
          go_wp2_with fail
          refine Reg.wp_region_float (by kernel_rfl) [2, 9, 10, 11] 7 (fun i => match i with | 0 => fun v => v = u3 | 1 => fun v => v = .int .u8 (m.toNat : Int) | 3 => fun v => v = .string M1 | 4 => fun v => v = .int .i64 (j : Int) | 5 => fun v => v = .pointer (some ⟨nb, j, none⟩) | 6 => fun v => v = .int .i64 vj | 7 => fun v => v = .string D | 8 => fun v => v = .string X3 | _ => fun _ => True) (fun k b f Wx => match k with | 0 => LW w F nb gb OB Wx u3 ws | 1 => LW w F nb gb OB Wx u3 ws ∧ ∃ g, f 33 = .slice (some ⟨g, 0, none⟩) 1 1 ∧ Wx.heap[g]? = some (.cells #[.int .u8 (m.toNat : Int)] 5 (0, 0)) | 2 => ∃ W9, Wx = W9.alloc (.cells #[.string X3] 9) ∧ f 40 = .slice (some ⟨W9.heap.size, 0, none⟩) 1 1 ∧ LW w F nb gb OB W9 u3 ws | 3 => LW w F nb gb OB Wx (f 41) (ws ++ [X3]) | _ => LW w F nb gb OB Wx (f 3) (ws ++ [X3])) (by kernel_rfl) (by kernel_rfl) (by decide) (by decide) (by decide) (by decide) ?hJ ?h0 ?pure ?flo ?act ?fin
          case hJ => (intro k b f f' W h hb hj; match k, hj with
    | 0, hj => exact hj
    | 1, hj => (obtain ⟨h1, g, h2, h3⟩ := hj; exact ⟨h1, g, (h 0 (by omega) (by decide) 33 (by kernel_rfl)).symm.trans h2, h3⟩)
    | 2, hj => (obtain ⟨W9, h1, h2, h3⟩ := hj; exact ⟨W9, h1, (h 1 (by omega) (by decide) 40 (by kernel_rfl)).symm.trans h2, h3⟩)
    | 3, hj => (rw [h 2 (by omega) (by decide) 41 (by kernel_rfl)] at hj; exact hj)
    | k + 4, hj => (rw [h 3 (by omega) (by decide) 3 (by kernel_rfl)] at hj; exact hj))
          case h0 => exact (show LW w F nb gb OB (World.drew _) u3 ws from hV.out.drawn (pw_below_drewN (Below.refl _ _) 1))
          case pure =>
            intro i o k bq a w_ ho hE hne hk hmc hf hst hkn hj
            have hi : i < 12 := (Array.getElem?_eq_some_iff.1 ho).1
            obtain rfl | rfl | rfl | rfl | rfl | rfl | rfl : i = 0 ∨ i = 1 ∨ i = 3 ∨ i = 4 ∨ i = 5 ∨ i = 6 ∨ i = 8 := by
              simp only [List.mem_cons, List.not_mem_nil, or_false, not_or] at hE
              omega
            · skip
              obtain rfl := Reg.oper_eq ho rfl
              have e3 : a.eval (.tmp 3) = u3 := (hst.eval 11 3 (by kernel_rfl) (by kernel_rfl)).trans rfl
              have g3 := Reg.eval_getD e3
              exact Reg.op_value rfl rfl (by simp only [List.getElem_toArray, List.getElem_cons_zero, List.getElem_cons_succ, execOp, e3]; go_simp) ⟨_, rfl, rfl, hj⟩
            · skip
              obtain rfl := Reg.oper_eq ho rfl
              have e6 : a.eval (.tmp 6) = .int .u8 (m.toNat : Int) := (hf.eval 6 (by kernel_rfl)).trans rfl
              have g6 := Reg.eval_getD e6
              exact Reg.op_value rfl rfl (by simp only [List.getElem_toArray, List.getElem_cons_zero, List.getElem_cons_succ, execOp, e6]; go_simp) ⟨_, rfl, rfl, hj⟩
            · skip
              obtain rfl := Reg.oper_eq ho rfl
              obtain ⟨g, e33, hgb⟩ : ∃ g, Reg.val a 33 = .slice (some ⟨g, 0, none⟩) 1 1 ∧ w_.heap[g]? = some (.cells #[.int .u8 (m.toNat : Int)] 5 (0, 0)) := by
                have hk2 : k = 0 ∨ k = 1 ∨ k = 2 ∨ k = 3 ∨ k = 4 := by simp only [List.length_cons, List.length_nil] at hk; omega
                rcases hk2 with rfl | rfl | rfl | rfl | rfl
                · exact Bool.noConfusion (hmc.symm.trans (show Reg.mayComeB _ _ _ _ = false from by kernel_rfl))
                · obtain ⟨h1, g, h2, h3⟩ := hj
                  exact ⟨g, h2, h3⟩
                · exact Bool.noConfusion (hmc.symm.trans (show Reg.mayComeB _ _ _ _ = false from by kernel_rfl))
                · exact Bool.noConfusion (hmc.symm.trans (show Reg.mayComeB _ _ _ _ = false from by kernel_rfl))
                · exact Bool.noConfusion (hmc.symm.trans (show Reg.mayComeB _ _ _ _ = false from by kernel_rfl))
              have e33' : a.eval (.tmp 33) = .slice (some ⟨g, 0, none⟩) 1 1 := (Reg.eval_val a 33).trans e33
              have g33 := Reg.eval_getD e33'
              have hcv := HCO.out g w_ hgb
              exact Reg.op_value rfl rfl (by simp only [List.getElem_toArray, List.getElem_cons_zero, List.getElem_cons_succ, execOp]; go_simp) ⟨_, rfl, rfl, hj⟩
            · skip
              obtain rfl := Reg.oper_eq ho rfl
              have e5 : a.eval (.tmp 5) = .int .i64 (j : Int) := (hf.eval 5 (by kernel_rfl)).trans rfl
              have g5 := Reg.eval_getD e5
              exact Reg.op_value rfl rfl (by simp only [List.getElem_toArray, List.getElem_cons_zero, List.getElem_cons_succ, execOp, e5]; go_simp) ⟨_, rfl, rfl, hj⟩
            · skip
              obtain rfl := Reg.oper_eq ho rfl
              have e4 : a.eval (.tmp 4) = .pointer (some ⟨nb, 0, none⟩) := (hf.eval 4 (by kernel_rfl)).trans rfl
              have e35 : a.eval (.tmp 35) = .int .i64 (j : Int) := hkn.eval 4 35 (by kernel_rfl) (by kernel_rfl)
              have g4 := Reg.eval_getD e4
              have g35 := Reg.eval_getD e35
              exact Reg.op_value rfl rfl (by simp only [List.getElem_toArray, List.getElem_cons_zero, List.getElem_cons_succ, execOp, e4, e35]; go_simp) ⟨_, rfl, rfl, hj⟩
            · skip
              obtain rfl := Reg.oper_eq ho rfl
              have e36 : a.eval (.tmp 36) = .pointer (some ⟨nb, j, none⟩) := hkn.eval 5 36 (by kernel_rfl) (by kernel_rfl)
              have g36 := Reg.eval_getD e36
              have hkf : w_.cell? ⟨nb, j, none⟩ = some (.int .i64 vj) := by
                have hk2 : k = 0 ∨ k = 1 ∨ k = 2 ∨ k = 3 ∨ k = 4 := by simp only [List.length_cons, List.length_nil] at hk; omega
                rcases hk2 with rfl | rfl | rfl | rfl | rfl
                · exact cell_ints (show LW w F nb gb OB w_ u3 ws from hj).f j vj HVJ.out
                · exact cell_ints (show LW w F nb gb OB w_ u3 ws from hj.1).f j vj HVJ.out
                · exact Bool.noConfusion (hmc.symm.trans (show Reg.mayComeB _ _ _ _ = false from by kernel_rfl))
                · exact Bool.noConfusion (hmc.symm.trans (show Reg.mayComeB _ _ _ _ = false from by kernel_rfl))
                · exact Bool.noConfusion (hmc.symm.trans (show Reg.mayComeB _ _ _ _ = false from by kernel_rfl))
              exact Reg.op_value rfl rfl (by simp only [List.getElem_toArray, List.getElem_cons_zero, List.getElem_cons_succ, execOp, e36]; go_simp) ⟨_, rfl, rfl, hj⟩
            · skip
              obtain rfl := Reg.oper_eq ho rfl
              have e34 : a.eval (.tmp 34) = .string M1 := hkn.eval 3 34 (by kernel_rfl) (by kernel_rfl)
              have e38 : a.eval (.tmp 38) = .string D := hkn.eval 7 38 (by kernel_rfl) (by kernel_rfl)
              have g34 := Reg.eval_getD e34
              have g38 := Reg.eval_getD e38
              have h1 := HE3.out
              have h2 := HZ3.out
              exact Reg.op_value rfl rfl (by simp only [List.getElem_toArray, List.getElem_cons_zero, List.getElem_cons_succ, execOp, e34, e38]; go_simp) ⟨_, rfl, rfl, hj⟩
          case flo =>
            intro o k a w_ ho hk hmc hf hst hkn hj
            · skip
              obtain rfl := Reg.oper_eq ho rfl
              have e37 : a.eval (.tmp 37) = .int .i64 vj := hkn.eval 6 37 (by kernel_rfl) (by kernel_rfl)
              have g37 := Reg.eval_getD e37
              have hcall : ∀ Wx, LW w F nb gb OB Wx u3 ws → Calls Tryz.prog 16 #[.int .i64 vj] Wx fun e w' => e = .returned (.string D) ∧ Below Wx.heap.size Wx w' := fun Wx h => HIT.out Wx h.below
              match k, hj, hmc with
              | 0, hj, hmc =>
                refine Reg.op_call (f := 16) (args := #[.int .i64 vj]) (w' := w_) rfl rfl (by simp only [List.getElem_toArray, List.getElem_cons_zero, List.getElem_cons_succ, execOp, e37]; go_simp) ((hcall w_ hj).mono ?_)
                rintro e W3 ⟨rfl, hb3⟩
                exact .inl ⟨_, rfl, _, rfl, rfl, LW.drawn hj hb3⟩
              | 1, hj, hmc =>
                obtain ⟨h1, g, h2, h3⟩ := hj
                refine Reg.op_call (f := 16) (args := #[.int .i64 vj]) (w' := w_) rfl rfl (by simp only [List.getElem_toArray, List.getElem_cons_zero, List.getElem_cons_succ, execOp, e37]; go_simp) ((hcall w_ h1).mono ?_)
                rintro e W3 ⟨rfl, hb3⟩
                exact .inl ⟨_, rfl, _, rfl, rfl, h1.drawn hb3, g, (Reg.val_put_ne _ _ _ _ (by decide)).trans h2, blk_below h3 hb3⟩
              | k + 2, hj, hmc => exact absurd hmc (by simp only [List.length_cons, List.length_nil] at hk; obtain rfl | rfl | rfl : k = 0 ∨ k = 1 ∨ k = 2 := (by omega) <;> exact Bool.eq_false_iff.1 (by kernel_rfl))
          case act =>
            intro k bq o a w_ hk ho hbf hf hst hkn hj
            obtain rfl | rfl | rfl | rfl : k = 0 ∨ k = 1 ∨ k = 2 ∨ k = 3 := by simp only [List.length_cons, List.length_nil] at hk; omega
            · skip
              obtain rfl := Reg.oper_eq ho rfl
              have e32 : a.eval (.tmp 32) = .int .u8 (m.toNat : Int) := hkn.eval 1 32 (by kernel_rfl) (by kernel_rfl)
              have g32 := Reg.eval_getD e32
              refine Reg.op_value (v := .slice (some ⟨w_.heap.size, 0, none⟩) 1 1) (w' := w_.alloc (.cells #[.int .u8 (m.toNat : Int)] 5)) rfl rfl (by simp only [List.getElem_toArray, List.getElem_cons_zero, List.getElem_cons_succ, execOp, e32]; go_simp) ⟨_, rfl, trivial, LW.drawn hj ((Below.refl _ _).alloc (Nat.le_refl _) _), w_.heap.size, Reg.val_put_in hf (by kernel_rfl), heap_alloc_new _ _⟩
            · skip
              obtain rfl := Reg.oper_eq ho rfl
              have e39 : a.eval (.tmp 39) = .string X3 := hkn.eval 8 39 (by kernel_rfl) (by kernel_rfl)
              have g39 := Reg.eval_getD e39
              obtain ⟨h1, g, h2, h3⟩ := hj
              refine Reg.op_value (v := .slice (some ⟨w_.heap.size, 0, none⟩) 1 1) (w' := w_.alloc (.cells #[.string X3] 9)) rfl rfl (by simp only [List.getElem_toArray, List.getElem_cons_zero, List.getElem_cons_succ, execOp, e39]; go_simp) ⟨_, rfl, trivial, w_, rfl, Reg.val_put_in hf (by kernel_rfl), h1⟩
            · skip
              obtain rfl := Reg.oper_eq ho rfl
              have e31 : a.eval (.tmp 31) = u3 := hkn.eval 0 31 (by kernel_rfl) (by kernel_rfl)
              have g31 := Reg.eval_getD e31
              obtain ⟨W9, rfl, e40, hL9⟩ := hj
              refine Reg.op_wp rfl rfl ?_
              refine Kd.N_append_step Kd.string (w0 := w) w.heap.size rfl (.tmp 31) (.tmp 40) 74 9 (.string ByteArray.empty) 16 rfl Tryz.underlying74 infoS rfl (by decide) (by decide) u3 ws X3 [.string X3] (fun _ => True) (fun _ => False) e31 ((Reg.eval_val a 40).trans e40) (fun _ _ => rfl) (fun _ h => h.elim) (fun _ _ => trivial) hL9.row hL9.below hL9.below.size (by have := HWL.out; omega) ?_
              intro v1 w1 hN hB hg hat
              refine ⟨_, rfl, trivial, ?_⟩
              show LW w F nb gb OB w1 (Reg.val (a.put (some 41) v1) 41) (ws ++ [X3])
              rw [Reg.val_put_in hf (by kernel_rfl)]
              exact hL9.app HOB.out hN hB hg
            · skip
              obtain rfl := Reg.oper_eq ho rfl
              have e41' : a.eval (.tmp 41) = Reg.val a 41 := Reg.eval_val a 41
              have g41 := Reg.eval_getD e41'
              refine Reg.op_value (v := Reg.val a 41) (w' := w_) rfl rfl (by simp only [List.getElem_toArray, List.getElem_cons_zero, List.getElem_cons_succ, execOp, e41']; go_simp) ⟨_, rfl, trivial, ?_⟩
              show LW w F nb gb OB w_ (Reg.val (a.put (some 3) (Reg.val a 41)) 3) (ws ++ [X3])
              rw [Reg.val_put_in hf (d := 3) (by kernel_rfl)]
              exact hj
          case fin =>
            intro a w_ hf hkn hj
            have e31 : Reg.val a 31 = _ := hkn 0 31 (by show _ < _; decide) (by kernel_rfl)
            have e32 : Reg.val a 32 = _ := hkn 1 32 (by show _ < _; decide) (by kernel_rfl)
            have e34 : Reg.val a 34 = _ := hkn 3 34 (by show _ < _; decide) (by kernel_rfl)
            have e35 : Reg.val a 35 = _ := hkn 4 35 (by show _ < _; decide) (by kernel_rfl)
            have e36 : Reg.val a 36 = _ := hkn 5 36 (by show _ < _; decide) (by kernel_rfl)
            have e37 : Reg.val a 37 = _ := hkn 6 37 (by show _ < _; decide) (by kernel_rfl)
            have e38 : Reg.val a 38 = _ := hkn 7 38 (by show _ < _; decide) (by kernel_rfl)
            have e39 : Reg.val a 39 = _ := hkn 8 39 (by show _ < _; decide) (by kernel_rfl)
            rw [Reg.frm_fold hf [31, 32, 33, 34, 35, 36, 37, 38, 39, 40, 41, 3] (by kernel_rfl) (by kernel_rfl)]
            simp only [List.foldl_cons, List.foldl_nil, Act.put, List.setIfInBounds_toArray, List.set_cons_zero, List.set_cons_succ, e31, e32, e34, e35, e36, e37, e38, e39]
            generalize Reg.val a 33 = v33_ at *
            generalize Reg.val a 40 = v40_ at *
            generalize Reg.val a 41 = v41_ at *
            generalize Reg.val a 3 = v3_ at *
            clear hkn hf e31 e32 e34 e35 e36 e37 e38 e39
            have HV6 : Hid (LW w F nb gb OB w_ v3_ (ws ++ [X3])) := hj
            clear hj
            go_wp2_with fail
            go_roundg (4 - (j + 1))
            case measure => exact step_lt HJD.out hj4
            case rel => exact ⟨j + 1, _, step_eq hj4, by go_num, HV6.out, HWX.out⟩
    · have hj1 : ¬ (j : Int) < 4 := by omega
      have hj2 : decide ((j : Int) < 4) = false := decide_eq_false hj1
      obtain rfl : j = 4 := by omega
      have hfl := (fieldsOk_at mk F HFS.out).1
      have hwe : ws = wB (nm :: fieldWords mk F) := by
        have h := hW.out
        rwa [List.take_of_length_le (by rw [HML.out]; omega), List.take_of_length_le (by rw [← hfl, HML.out]; omega)] at h
      have hjl : Lib.join (ws.map (·.data.toList)) [32] = L := by
        rw [hwe, HL.out, ← join_spaced]
        simp [Function.comp_def]
      have hw0 : 0 < ws.length := by rw [hwe]; simp
      obtain ⟨g, cp, hvr, hg1, hg2, _⟩ := Kd.N_form hV.out.row hw0
      subst hvr
      obtain ⟨_, hcap, hCs⟩ := Kd.N_reads' hV.out.row
      obtain ⟨ad, had, hcs⟩ := (Kd.reads_of_C (enc := Value.string) (d := ByteArray.empty) (h1 := fun _ => rfl) hCs).2.2 hw0
      injection had with had
      subst had
      have hcells : ∀ (j : Nat) x, ws[j]? = some x → wr.cell? ⟨g, 0 + j, none⟩ = some (.string x) := fun j x hx => by
        have hjl : j < ws.length := (List.getElem?_eq_some_iff.1 hx).1
        have h := hcs j hjl
        rw [add_plain] at h
        rw [Nat.zero_add, h, List.getD, hx]
        rfl
      have hJ := Tryz.strings_Join g 0 cp ws ⟨#[32]⟩ wr hcells hg2 (by have := HWL.out; omega) hcap (by
        show (Lib.join (ws.map (·.data.toList)) [32]).length ≤ _
        rw [hjl]
        have := HLO.out.2
        omega)
      change Calls Tryz.prog 31 _ wr (fun e w' => e = .returned (.string ⟨(Lib.join (ws.map (·.data.toList)) [32]).toArray⟩) ∧ _) at hJ
      rw [hjl] at hJ
      obtain ⟨LB, hLB⟩ : ∃ B, B = bx L := ⟨_, rfl⟩
      change Calls Tryz.prog 31 _ wr (fun e w' => e = .returned (.string (bx L)) ∧ _) at hJ
      rw [← hLB] at hJ
      have HJ := Lib.hid hJ
      have hLs : LB.size ≤ 60 := by rw [hLB, bx_size]; have := HLO.out.2; omega
      have HLL : Hid (LB ++ ⟨#[10]⟩ = bx (L ++ [10])) := by
        show _ = _
        rw [hLB, show (⟨#[10]⟩ : ByteArray) = bx [10] from rfl, bx_app]
      have hz1 : LB.size + (⟨#[10]⟩ : ByteArray).size ≤ 9223372036854775807 := by have : (⟨#[10]⟩ : ByteArray).size = 1 := rfl; omega
      have hz2 : LB.size + 1 ≤ 9223372036854775807 := by omega
      clear hjd HJD hwe hjl hw0 hcap hCs hcs hcells hJ hLB hLs hg1 hg2 hfl
      go_wp2_with fail
      refine HJ.out.mono ?_
      rintro _ w9 ⟨rfl, hb9⟩
      have HB9 : Hid (Below w.heap.size w w9) := (hV.out.drawn hb9).below
      clear hb9
      go_wp2_with fail
      go_ret
      exact ⟨by rw [HLL.out]; rfl, HB9.out⟩
end Go.Proofs.YtcchoeomeklgmaaGreatDoor.Core
