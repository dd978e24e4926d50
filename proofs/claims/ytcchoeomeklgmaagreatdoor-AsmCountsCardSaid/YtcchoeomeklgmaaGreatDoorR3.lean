/- The document's line of an instruction: the walk. Printed by gen_r3.py. -/
import Derived.Test.YtcchoeomeklgmaaGreatDoorR2
import Derived.Test.YtcchoeomeklgmaaGreatDoorGP
namespace Go.Proofs.YtcchoeomeklgmaaGreatDoor.Core
open Go.RowKit Go.Shelf Go.Proofs.YtcchoeomeklgmaaGreatDoorW.PrintWords Go.Proofs.YtcchoeomeklgmaaGreatDoorW.PrintMore Go.Proofs.YtcchoeomeklgmaaGreatDoor.P1 Go.Proofs.YtcchoeomeklgmaaGreatDoor
open Go.Proofs.YtcchoeomeklgmaaGreatDoor.PAsmPrints (S56 k56 z56 S49 k49 z49 at_T49 at_T56 rd_T49 rd_T56 S59 k59 z59 S39 k39 z39 at_T39 at_T59 rd_T39 rd_T59)
set_option linter.unusedVariables false
set_option linter.unusedSimpArgs false
theorem dig_ext (d : Nat) (h : d < 10) : ((⟨#[48, 49, 50, 51, 52, 53, 54, 55, 56, 57]⟩ : ByteArray).extract d (d + 1)) = bx [UInt8.ofNat (48 + d)] := by
  have h2 : ∀ n : Fin 10, ((⟨#[48, 49, 50, 51, 52, 53, 54, 55, 56, 57]⟩ : ByteArray).extract n.val (n.val + 1)) = bx [UInt8.ofNat (48 + n.val)] := by decide +kernel
  exact h2 ⟨d, h⟩
theorem bx_app (a b : List UInt8) : bx a ++ bx b = bx (a ++ b) := by
  apply ByteArray.ext
  apply Array.ext'
  simp [bx]
theorem digits_f : ∀ (k n : Nat), n < 10 ^ k → k ≤ 1000 → n < 9223372036854775808 → haymowref04_Digits.f k (n : Int) = some (bx (Lib.decDigits n)) ∧ (Lib.decDigits n).length ≤ k ∨ k = 0
  | 0, n, h, _, _ => .inr rfl
  | k + 1, n, h, hk, h63 => by
    left
    have e1 : ∀ m : Nat, m < 10 → wrap64 ((m : Int) + 1) = ((m + 1 : Nat) : Int) := fun m hm => by rw [show wrap64 ((m : Int) + 1) = (m : Int) + 1 by unfold wrap64; omega]; rfl
    rw [haymowref04_Digits.f.eq_2, if_neg (by omega)]
    by_cases h10 : n < 10
    · rw [if_pos (by omega), if_pos (by omega), e1 n h10, if_pos (by omega), if_pos (by omega)]
      have : Lib.decDigits n = [UInt8.ofNat (48 + n)] := by rw [Lib.decDigits, dif_pos h10]
      rw [this]
      refine ⟨?_, by simp⟩
      congr 1
      exact dig_ext n h10
    · rw [if_neg (by omega)]
      have ed : wrap64 (Int.tdiv (n : Int) 10) = ((n / 10 : Nat) : Int) := by
        rw [show Int.tdiv (n : Int) 10 = ((n / 10 : Nat) : Int) from (Int.ofNat_tdiv n 10).symm]
        unfold wrap64; omega
      have em : Int.tmod (n : Int) 10 = ((n % 10 : Nat) : Int) := (Int.ofNat_tmod n 10).symm
      have hk0 : k ≠ 0 := by
        rintro rfl
        simp at h
        omega
      obtain ⟨ih, il⟩ := (digits_f k (n / 10) (by rw [Nat.pow_succ] at h; omega) (by omega) (by omega)).resolve_right hk0
      rw [ed, em, ih, e1 _ (by omega)]
      rw [Option.bind_some, if_pos (by omega), if_pos (by omega), if_pos (by omega)]
      have e2 : (⟨#[48, 49, 50, 51, 52, 53, 54, 55, 56, 57]⟩ : ByteArray).extract (((n % 10 : Nat) : Int)).toNat (((n % 10 + 1 : Nat) : Int)).toNat = bx [UInt8.ofNat (48 + n % 10)] := dig_ext (n % 10) (by omega)
      rw [e2, bx_size, bx_size]
      have e3 : Lib.decDigits n = Lib.decDigits (n / 10) ++ [UInt8.ofNat (48 + n % 10)] := by rw [Lib.decDigits, dif_neg h10]
      rw [if_pos (by simp; omega), bx_app, e3]
      exact ⟨rfl, by rw [List.length_append]; simp; omega⟩
theorem digits_v (v : Int) (h0 : -2147483648 ≤ v) (h1 : v ≤ 2147483647) : ∃ k, haymowref04_Digits.f k v = some (bx (Lib.itoa v)) := by
  by_cases hv : 0 ≤ v
  · obtain ⟨n, rfl⟩ := Int.eq_ofNat_of_zero_le hv
    rw [itoa_nat]
    exact ⟨20, ((digits_f 20 n (by omega) (by omega) (by omega)).resolve_right (by omega)).1⟩
  · obtain ⟨n, rfl⟩ : ∃ n : Nat, v = -(n : Int) := ⟨(-v).toNat, by omega⟩
    rw [itoa_neg n (by omega)]
    obtain ⟨d1, d2⟩ := (digits_f 20 n (by omega) (by omega) (by omega)).resolve_right (by omega)
    refine ⟨21, ?_⟩
    rw [haymowref04_Digits.f.eq_2, if_pos (by omega), show wrap64 (- -(n : Int)) = (n : Int) by unfold wrap64; omega, d1, Option.bind_some, bx_size, if_pos (by omega)]
    exact congrArg some (bx_app [45] _)
theorem rdigits_any (v : Int) (h0 : -2147483648 ≤ v) (h1 : v ≤ 2147483647) (w : World) : Calls Tryz.prog 20 #[.int .i64 v] w fun e w' => e = .returned (.string (bx (Lib.itoa v))) ∧ Below w.heap.size w w' := by
  obtain ⟨k, hk⟩ := digits_v v h0 h1
  exact haymowref04_Digits.calls k v _ w hk
/-- The document's names: the one of no operation first. -/
def namesR : List (List UInt8) := [] :: namesL
theorem names_f : haymowref02_Names.f = some (wB namesR) := rfl
theorem rnames_any (w : World) : Calls Tryz.prog 33 #[] w fun e w' => ∃ v : Value, e = .returned v ∧ Kd.R Kd.string 9 w' w.heap.size (fun _ => True) v (wB namesR) ∧ Below w.heap.size w w' := haymowref02_Names.calls _ w names_f
theorem rnames_at (w : World) : Calls Tryz.prog 33 #[] w fun e w' => ∃ gn cn, e = .returned (.slice (some ⟨gn, 0, none⟩) 18 cn) ∧ w.heap.size ≤ gn ∧ Below w.heap.size w w' ∧ ∀ j, j < 18 → w'.cell? ⟨gn, j, none⟩ = some (.string (bx (namesR.getD j []))) := by
  refine (rnames_any w).mono ?_
  rintro _ W3 ⟨v1, rfl, hR1, hb3⟩
  obtain ⟨gn, cn, hv1, hgn, _, _⟩ := Kd.R_form hR1 (by decide)
  subst hv1
  have hCn := (Kd.R_reads' hR1).2.2
  have hnl : (wB namesR).length = 18 := rfl
  rw [hnl] at hCn ⊢
  obtain ⟨adn, hadn, hnm⟩ := (Kd.reads_of_C (enc := Value.string) (d := ByteArray.empty) (h1 := fun _ => rfl) hCn).2.2 (by decide)
  injection hadn with hadn
  subst hadn
  refine ⟨gn, cn, rfl, hgn, hb3, fun j hj => ?_⟩
  have h := hnm j hj
  have hl : j < namesR.length := hj
  have e : (wB namesR).getD j ByteArray.empty = bx (namesR.getD j []) := by
    simp only [List.getD, List.getElem?_map, List.getElem?_eq_getElem hl, Option.map_some, Option.getD_some]
  rw [← e]
  rw [add_plain] at h
  exact h
theorem name_at (o : Int) (h1 : 1 ≤ o) (h2 : o ≤ 17) : namesR.getD o.toNat [] = nameT o := by
  have h3 : ∀ j : Fin 18, 1 ≤ j.val → namesR.getD j.val [] = nameT (j.val : Int) := by decide +kernel
  have := h3 ⟨o.toNat, by omega⟩ (by show 1 ≤ o.toNat; omega)
  rwa [show ((o.toNat : Nat) : Int) = o by omega] at this
/-- A field's piece of a line. -/
def pieceT (m : UInt8) (v : Int) : List UInt8 := if m = 45 then [] else 32 :: (if m = 61 then Lib.itoa v else m :: Lib.itoa v)
theorem spaced_pieces : ∀ (ms : List UInt8) (vs : List Int), ms.length = vs.length → spaced (fieldWords ms vs) = ((ms.zip vs).map fun x => pieceT x.1 x.2).flatten
  | [], [], _ => rfl
  | m :: ms, v :: vs, h => by
    have ih := spaced_pieces ms vs (by simpa using h)
    by_cases h45 : m = 45
    · subst h45
      rw [fieldWords, if_pos rfl, ih]
      simp [pieceT]
    · rw [fieldWords, if_neg h45]
      simp only [List.zip_cons_cons, List.map_cons, List.flatten_cons, ← ih]
      simp [spaced, pieceT, h45]
  | [], v :: vs, h => by simp at h
  | m :: ms, [], h => by simp at h
/-- A field's sign, by the document and by the program. -/
def signOk (u m : UInt8) : Bool := (u == 48 && m == 45) || ((u == 114 || u == 104 || u == 102) && m == u) || (u != 48 && u != 114 && u != 104 && u != 102 && m == 61)
theorem uses_marks (op : Nat) (h1 : 1 ≤ op) (h2 : op < 18) : (usesL op).length = 4 ∧ ∀ j, j < 4 → signOk ((usesL op).getD j 0) ((marksL (op : Int)).getD j 0) = true := by
  have h3 : ∀ o : Fin 18, 1 ≤ o.val → (usesL o.val).length = 4 ∧ ∀ j : Fin 4, signOk ((usesL o.val).getD j.val 0) ((marksL ((o.val : Nat) : Int)).getD j.val 0) = true := by decide +kernel
  obtain ⟨a, b⟩ := h3 ⟨op, h2⟩ h1
  exact ⟨a, fun j hj => b ⟨j, hj⟩⟩
theorem sign_iff (u m : UInt8) : signOk u m = true ↔ (u = 48 ∧ m = 45) ∨ ((u = 114 ∨ u = 104 ∨ u = 102) ∧ m = u) ∨ (u ≠ 48 ∧ u ≠ 114 ∧ u ≠ 104 ∧ u ≠ 102 ∧ m = 61) := by
  unfold signOk
  simp only [Bool.or_eq_true, Bool.and_eq_true, beq_iff_eq, bne_iff_ne, or_assoc, and_assoc, ne_eq]
theorem piece_len (m : UInt8) (v : Int) (h : fieldOk m v) : (pieceT m v).length ≤ 13 := by
  unfold fieldOk at h
  unfold pieceT
  by_cases h45 : m = 45
  · rw [if_pos h45]; simp
  · rw [if_neg h45] at h ⊢
    by_cases h61 : m = 61
    · rw [if_pos h61] at h ⊢
      have := (itoa_word v h.1 h.2).2
      simp; omega
    · rw [if_neg h61] at h ⊢
      have := (itoa_word v (by omega) (by omega)).2
      simp; omega
/-- The pieces of the first fields. -/
def preT (ms : List UInt8) (vs : List Int) (j : Nat) : List UInt8 := (((ms.zip vs).take j).map fun x => pieceT x.1 x.2).flatten
theorem preT_succ (ms : List UInt8) (vs : List Int) (j : Nat) (h1 : j < ms.length) (h2 : j < vs.length) : preT ms vs (j + 1) = preT ms vs j ++ pieceT (ms.getD j 0) (vs.getD j 0) := by
  unfold preT
  have h : j < (ms.zip vs).length := by simp; omega
  rw [List.take_succ_eq_append_getElem h, List.map_append, List.flatten_append]
  simp [List.getElem_zip, List.getElem?_eq_getElem h1, List.getElem?_eq_getElem h2]
theorem preT_all (ms : List UInt8) (vs : List Int) (n : Nat) (h1 : ms.length = n) (h2 : vs.length = n) : preT ms vs n = spaced (fieldWords ms vs) := by
  rw [spaced_pieces ms vs (by omega)]
  unfold preT
  rw [List.take_of_length_le (by simp; omega)]
theorem fieldsOk_at : ∀ (ms : List UInt8) (vs : List Int), fieldsOk ms vs → ms.length = vs.length ∧ ∀ j, j < ms.length → fieldOk (ms.getD j 0) (vs.getD j 0)
  | [], [], _ => ⟨rfl, fun j h => absurd h (by simp)⟩
  | m :: ms, v :: vs, h => by
    obtain ⟨i1, i2⟩ := fieldsOk_at ms vs h.2
    refine ⟨by simp [i1], fun j hj => ?_⟩
    cases j with
    | zero => exact h.1
    | succ j => exact i2 j (by simpa using hj)
  | [], v :: vs, h => h.elim
  | m :: ms, [], h => h.elim
theorem preT_len (ms : List UInt8) (vs : List Int) (h : fieldsOk ms vs) : ∀ j, j ≤ ms.length → (preT ms vs j).length ≤ 13 * j
  | 0, _ => by simp [preT]
  | j + 1, hj => by
    obtain ⟨h1, h2⟩ := fieldsOk_at ms vs h
    rw [preT_succ ms vs j (by omega) (by omega), List.length_append]
    have := preT_len ms vs h j (by omega)
    have := piece_len _ _ (h2 j (by omega))
    omega
theorem ext_one (U : ByteArray) (j : Nat) (hj : j < U.size) (c : UInt8) (h : U[j]'hj = c) : U.extract j (j + 1) = bx [c] := by
  apply ByteArray.ext
  apply Array.ext'
  rw [ext_list]
  have hj' : j < U.data.toList.length := by simpa using hj
  have e : j + 1 - j = 1 := by omega
  rw [e, List.drop_eq_getElem_cons hj', List.take_succ_cons, List.take_zero]
  show _ = [c]
  rw [← h]
  rfl
theorem u8_nek {c : UInt8} {k : Nat} (hk : k < 256) (h : c ≠ UInt8.ofNat k) : (((c.toNat : Nat) : Int) == (k : Int)) = false := by
  rw [beq_eq_false_iff_ne]
  intro e
  refine h (UInt8.toNat_inj.1 ?_)
  rw [UInt8.toNat_ofNat_of_lt' (by simpa using hk)]
  omega
/-- The instruction in a block. -/
structure RI (w : World) (is : List Int) (W : World) : Prop where
  below : Below w.heap.size w W
  i : W.heap[w.heap.size]? = some (.cells (ints is) 59 (0, 0))
theorem RI.drawn {w : World} {is : List Int} {W W' : World} (h : RI w is W) (hb : Below W.heap.size W W') : RI w is W' := ⟨h.below.trans (hb.mono h.below.size), blk_below h.i hb⟩
set_option maxRecDepth 100000 in
set_option maxHeartbeats 16000000 in
theorem rline_any (o a1 a2 a3 a4 : Int) (hg : GoodI (o, [a1, a2, a3, a4])) (w : World) :
    Calls Tryz.prog 21 #[.agg #[.int .i64 o, .int .i64 a1, .int .i64 a2, .int .i64 a3, .int .i64 a4]] w fun e w' => e = .returned (.string (bx (lineT (o, [a1, a2, a3, a4]) ++ [10]))) ∧ Below w.heap.size w w' := by
  obtain ⟨ho1, ho2, hfs⟩ := hg
  simp only at ho1 ho2 hfs
  obtain ⟨L, hL⟩ : ∃ L, L = lineT (o, [a1, a2, a3, a4]) := ⟨_, rfl⟩
  rw [← hL]
  unfold lineT at hL
  simp only at hL
  obtain ⟨nm, hnm⟩ : ∃ nm, nm = nameT o := ⟨_, rfl⟩
  have hnl := (name_word o ho1 ho2).2.2.2
  rw [← hnm] at hL hnl
  have hna := name_at o ho1 ho2
  rw [← hnm] at hna
  have hml : (marksL o).length = 4 := marksL_len o
  obtain ⟨hul, hum⟩ := uses_marks o.toNat (by omega) (by omega)
  have hru := fun W => ruses_any o.toNat (by omega) W
  rw [show ((o.toNat : Nat) : Int) = o by omega] at hum hru
  obtain ⟨mk, hmk⟩ : ∃ mk, marksL o = mk := ⟨_, rfl⟩
  rw [hmk] at hfs hL hml hum
  obtain ⟨us, hus⟩ : ∃ us, usesL o.toNat = us := ⟨_, rfl⟩
  rw [hus] at hul hum hru
  obtain ⟨F, hF⟩ : ∃ P : List Int, P = [a1, a2, a3, a4] := ⟨_, rfl⟩
  rw [← hF] at hfs hL
  obtain ⟨U, hU⟩ : ∃ B, B = bx us := ⟨_, rfl⟩
  rw [← hU] at hru
  have hUs : U.size = 4 := by rw [hU, bx_size]; exact hul
  have HU := Lib.hid hU
  have HRU := Lib.hid hru
  have HUM := Lib.hid hum
  have HUL := Lib.hid hul
  have HML := Lib.hid hml
  have HFS := Lib.hid hfs
  have HFF := Lib.hid hF
  have HL := Lib.hid hL
  have HNA := Lib.hid hna
  have HNL := Lib.hid hnl
  have HO : Hid (1 ≤ o ∧ o ≤ 17) := ⟨ho1, ho2⟩
  obtain ⟨NM, hNM⟩ : ∃ B, B = bx nm := ⟨_, rfl⟩
  have HNM := Lib.hid hNM
  clear hU hru hum hul hml hfs hF hL hna hnl hnm hmk hus hNM
  go_enter Tryz.func21, Tryz.ntmps21
  go_wp2_with fail
  have HI0 : Hid (RI w [o, a1, a2, a3, a4] (w.alloc (.cells #[.int .i64 o, .int .i64 a1, .int .i64 a2, .int .i64 a3, .int .i64 a4] 59))) := ⟨(Below.refl _ _).alloc (Nat.le_refl _) _, heap_alloc_new _ _⟩
  refine Reg.wp_region_phase (by kernel_rfl) [0, 3, 4, 5] (fun i => match i with | 1 => fun v => v = .pointer (some ⟨w.heap.size, 0, none⟩) | 2 => fun v => v = .int .i64 o | _ => fun _ => True) (fun k f Wx => RI w [o, a1, a2, a3, a4] Wx ∧ (1 ≤ k → ∃ gn cn, f 7 = .slice (some ⟨gn, 0, none⟩) 18 cn ∧ Wx.cell? ⟨gn, o.toNat, none⟩ = some (.string NM) ∧ (2 ≤ k → f 10 = .pointer (some ⟨gn, o.toNat, none⟩)) ∧ (3 ≤ k → f 11 = .string NM) ∧ (4 ≤ k → f 3 = .string NM))) (by kernel_rfl) (by kernel_rfl) (by decide) (by decide) ?hJ ?h0 ?pure ?act ?fin
  case hJ => intro k f f' W h hj; exact ⟨hj.1, fun h1 => by obtain ⟨gn, cn, e7, hc, e10, e11, e3⟩ := hj.2 h1; exact ⟨gn, cn, (h 0 (by omega) (by decide) 7 (by kernel_rfl)).symm.trans e7, hc, fun h2 => (h 1 (by omega) (by decide) 10 (by kernel_rfl)).symm.trans (e10 h2), fun h2 => (h 2 (by omega) (by decide) 11 (by kernel_rfl)).symm.trans (e11 h2), fun h2 => (h 3 (by omega) (by decide) 3 (by kernel_rfl)).symm.trans (e3 h2)⟩⟩
  case h0 => exact ⟨(show RI w _ (World.drew _) from (HI0.out.drawn (pw_below_drewN (Below.refl _ _) 1))), fun h => absurd h (by decide)⟩
  case pure =>
    intro i o k a w_ ho hE hk hmc hf hst hkn hj
    have hi : i < 6 := (Array.getElem?_eq_some_iff.1 ho).1
    obtain rfl | rfl : i = 1 ∨ i = 2 := by
      simp only [List.mem_cons, List.not_mem_nil, or_false, not_or] at hE
      omega
    · skip
      obtain rfl := Reg.oper_eq ho rfl
      have e1 : a.eval (.tmp 1) = .pointer (some ⟨w.heap.size, 0, none⟩) := (hf.eval 1 (by kernel_rfl)).trans rfl
      have g1 := Reg.eval_getD e1
      exact Reg.op_value rfl rfl (by simp only [List.getElem_toArray, List.getElem_cons_zero, List.getElem_cons_succ, execOp, e1]; go_simp) ⟨_, rfl, rfl, hj⟩
    · skip
      obtain rfl := Reg.oper_eq ho rfl
      have e8 : a.eval (.tmp 8) = .pointer (some ⟨w.heap.size, 0, none⟩) := hkn.eval 1 8 (by kernel_rfl) (by kernel_rfl)
      have g8 := Reg.eval_getD e8
      have kk := cell_ints hj.1.i 0 _ rfl
      exact Reg.op_value rfl rfl (by simp only [List.getElem_toArray, List.getElem_cons_zero, List.getElem_cons_succ, execOp, e8]; go_simp) ⟨_, rfl, rfl, hj⟩
  case act =>
    intro k o a w_ hk ho hf hst hkn hj
    obtain rfl | rfl | rfl | rfl : k = 0 ∨ k = 1 ∨ k = 2 ∨ k = 3 := by simp only [List.length_cons, List.length_nil] at hk; omega
    · skip
      obtain rfl := Reg.oper_eq ho rfl
      refine Reg.op_call (f := 33) (args := #[]) (w' := w_) rfl rfl (by simp only [List.getElem_toArray, List.getElem_cons_zero, List.getElem_cons_succ, execOp]; go_simp) ((rnames_at w_).mono ?_)
      rintro e W3 ⟨gn, cn, rfl, hgn, hb3, hnm⟩
      refine .inl ⟨_, rfl, _, rfl, trivial, hj.1.drawn hb3, fun _ => ⟨gn, cn, Reg.val_put_in hf (by kernel_rfl), ?_, fun h => absurd h (by decide), fun h => absurd h (by decide), fun h => absurd h (by decide)⟩⟩
      rw [hnm o.toNat (by have := HO.out; omega), HNA.out, HNM.out]
    · skip
      obtain rfl := Reg.oper_eq ho rfl
      have e9 : a.eval (.tmp 9) = .int .i64 o := hkn.eval 2 9 (by kernel_rfl) (by kernel_rfl)
      have g9 := Reg.eval_getD e9
      obtain ⟨hI, hJ1⟩ := hj
      obtain ⟨gn, cn, e7, hc, _, _, _⟩ := hJ1 (by decide)
      have e7' : a.eval (.tmp 7) = .slice (some ⟨gn, 0, none⟩) 18 cn := (Reg.eval_val a 7).trans e7
      have g7 := Reg.eval_getD e7'
      have ho1 := HO.out.1
      have ho2 := HO.out.2
      have hoz : 0 ≤ o := by omega
      have hol : o < 18 := by omega
      refine Reg.op_value (v := .pointer (some ⟨gn, o.toNat, none⟩)) (w' := w_) rfl rfl (by simp only [List.getElem_toArray, List.getElem_cons_zero, List.getElem_cons_succ, execOp, e7', e9]; go_simp) ⟨_, rfl, trivial, hI, fun _ => ⟨gn, cn, (Reg.val_put_ne _ _ _ _ (by decide)).trans e7, hc, fun _ => Reg.val_put_in hf (by kernel_rfl), fun h => absurd h (by decide), fun h => absurd h (by decide)⟩⟩
    · skip
      obtain rfl := Reg.oper_eq ho rfl
      obtain ⟨hI, hJ1⟩ := hj
      obtain ⟨gn, cn, e7, hc, e10, _, _⟩ := hJ1 (by decide)
      have e10' : a.eval (.tmp 10) = .pointer (some ⟨gn, o.toNat, none⟩) := (Reg.eval_val a 10).trans (e10 (by decide))
      have g10 := Reg.eval_getD e10'
      refine Reg.op_value (v := .string NM) (w' := w_) rfl rfl (by simp only [List.getElem_toArray, List.getElem_cons_zero, List.getElem_cons_succ, execOp, e10']; go_simp) ⟨_, rfl, trivial, hI, fun _ => ⟨gn, cn, (Reg.val_put_ne _ _ _ _ (by decide)).trans e7, hc, fun _ => (Reg.val_put_ne _ _ _ _ (by decide)).trans (e10 (by decide)), fun _ => Reg.val_put_in hf (by kernel_rfl), fun h => absurd h (by decide)⟩⟩
    · skip
      obtain rfl := Reg.oper_eq ho rfl
      obtain ⟨hI, hJ1⟩ := hj
      obtain ⟨gn, cn, e7, hc, e10, e11, _⟩ := hJ1 (by decide)
      have e11' : a.eval (.tmp 11) = .string NM := (Reg.eval_val a 11).trans (e11 (by decide))
      have g11 := Reg.eval_getD e11'
      refine Reg.op_value (v := .string NM) (w' := w_) rfl rfl (by simp only [List.getElem_toArray, List.getElem_cons_zero, List.getElem_cons_succ, execOp, e11']; go_simp) ⟨_, rfl, trivial, hI, fun _ => ⟨gn, cn, (Reg.val_put_ne _ _ _ _ (by decide)).trans e7, hc, fun _ => (Reg.val_put_ne _ _ _ _ (by decide)).trans (e10 (by decide)), fun _ => (Reg.val_put_ne _ _ _ _ (by decide)).trans (e11 (by decide)), fun _ => Reg.val_put_in hf (by kernel_rfl)⟩⟩
  case fin =>
    intro a w_ hf hkn hj
    have e8 : Reg.val a 8 = _ := hkn 1 8 (by show _ < _; decide) (by kernel_rfl)
    have e9 : Reg.val a 9 = _ := hkn 2 9 (by show _ < _; decide) (by kernel_rfl)
    rw [Reg.frm_fold hf [7, 8, 9, 10, 11, 3] (by kernel_rfl) (by kernel_rfl)]
    simp only [List.foldl_cons, List.foldl_nil, Act.put, List.setIfInBounds_toArray, List.set_cons_zero, List.set_cons_succ, e8, e9]
    generalize Reg.val a 7 = v7_ at *
    generalize Reg.val a 10 = v10_ at *
    generalize Reg.val a 11 = v11_ at *
    generalize Reg.val a 3 = v3_ at *
    clear hkn hf e8 e9
    obtain ⟨hI, hJ1⟩ := hj
    obtain ⟨gn, cn, e7, hc, e10, e11, e3⟩ := hJ1 (by decide)
    have e3' := e3 (by decide)
    have HI1 : Hid (RI w [o, a1, a2, a3, a4] w_) := hI
    subst e3'
    clear hI hJ1 e7 hc e10 e11 e3
    have k0 := cell_ints HI1.out.i 0 _ rfl
    go_wp2_with fail
    refine (HRU.out _).mono ?_
    rintro _ W5 ⟨rfl, hb5⟩
    have HI5 := Lib.hid (HI1.out.drawn hb5)
    clear k0 hb5
    have k1 := cell_ints HI5.out.i 1 _ rfl
    have k2 := cell_ints HI5.out.i 2 _ rfl
    have k3 := cell_ints HI5.out.i 3 _ rfl
    have k4 := cell_ints HI5.out.i 4 _ rfl
    have HR0 : Hid (RX w [o, a1, a2, a3, a4] F W5.heap.size (W5.alloc (.cells #[.int .i64 a1, .int .i64 a2, .int .i64 a3, .int .i64 a4] 3))) := ⟨HI5.out.below.alloc HI5.out.below.size _, (Below.heap_alloc _ _ _ (blk_lt HI5.out.i)).trans HI5.out.i, by rw [HFF.out]; exact heap_alloc_new W5 _⟩
    go_wp2_with fail
    generalize W5.heap.size = nb at *
    generalize W5.alloc (.cells #[.int .i64 a1, .int .i64 a2, .int .i64 a3, .int .i64 a4] 3) = W6 at *
    clear k1 k2 k3 k4
    obtain ⟨G, hG⟩ : ∃ G, G = NM := ⟨_, rfl⟩
    go_loopg [3, 6] 4 (fun d s i W => ∃ (j : Nat) (X : ByteArray), j + d = 4 ∧ i = .int .i64 j ∧ s = .string X ∧ Hid (X = bx (nm ++ preT mk F j)) ∧ Hid (RX w [o, a1, a2, a3, a4] F nb W))
    case atStart => exact ⟨0, NM, rfl, rfl, rfl, by show _ = _; rw [HNM.out]; simp [preT], HR0.out⟩
    case round =>
      obtain ⟨j, X, hjd, rfl, rfl, hX, hV⟩ := hrel
      have HJD := Lib.hid hjd
      have hXs : X.size ≤ 1000 := by
        rw [hX.out, bx_size, List.length_append]
        have := preT_len mk F HFS.out j (by rw [HML.out]; omega)
        have := HNL.out
        omega
      by_cases hj4 : j < 4
      · have hj1 : (j : Int) < 4 := by omega
        have hj2 : decide ((j : Int) < 4) = true := decide_eq_true hj1
        have hj0 : (0 : Int) ≤ (j : Int) := by omega
        have hjw : wrap64 ((j : Int) + 1) = ((j + 1 : Nat) : Int) := by unfold wrap64; omega
        have hjw2 : IntKind.i64.wrap ((j : Int) + 1) = ((j + 1 : Nat) : Int) := by rw [IntKind.wrap_i64]; omega
        obtain ⟨_, hvj0⟩ := getD4 HFF.out hj4
        have hfo := (fieldsOk_at mk F HFS.out).2 j (by rw [HML.out]; exact hj4)
        have hsg := HUM.out j hj4
        have hps := preT_succ mk F j (by rw [HML.out]; exact hj4) (by rw [← (fieldsOk_at mk F HFS.out).1, HML.out]; exact hj4)
        have hch : ∀ h : j < U.size, U[j]'h = us.getD j 0 := fun h => by rw [bx_get us U HU.out j (by rw [HUL.out]; exact hj4) h, List.getD, List.getElem?_eq_getElem (by rw [HUL.out]; exact hj4)]; rfl
        obtain ⟨vj, hvj⟩ : ∃ x, F.getD j 0 = x := ⟨_, rfl⟩
        obtain ⟨m, hm⟩ : ∃ x, mk.getD j 0 = x := ⟨_, rfl⟩
        obtain ⟨uc, huc⟩ : ∃ x, us.getD j 0 = x := ⟨_, rfl⟩
        rw [hvj] at hvj0 hps hfo
        rw [hm] at hsg hps hfo
        rw [huc] at hsg hch
        have kf : wr.cell? ⟨nb, j, none⟩ = some (.int .i64 vj) := cell_ints hV.out.f j vj hvj0
        have HVJ := Lib.hid hvj0
        have HPS := Lib.hid hps
        have HSG := Lib.hid hsg
        have HFO := Lib.hid hfo
        clear hjd hvj0 hfo hsg hps hvj hm huc
        rcases (sign_iff uc m).1 HSG.out with ⟨rfl, rfl⟩ | ⟨hsel, rfl⟩ | ⟨h48, h114, h104, h102, rfl⟩
        · have HX2 : Hid (X = bx (nm ++ preT mk F (j + 1))) := by show _ = _; rw [HPS.out, hX.out]; simp [pieceT]
          clear kf
          go_wp2_with fail
          go_roundg (4 - (j + 1))
          case measure => exact step_lt HJD.out hj4
          case rel => exact ⟨j + 1, X, step_eq hj4, by go_num, rfl, HX2.out, hV.out⟩
        · have hv : 0 ≤ vj ∧ vj ≤ 255 := by
            have h := HFO.out
            unfold fieldOk at h
            rwa [if_neg (by rcases hsel with rfl | rfl | rfl <;> decide), if_neg (by rcases hsel with rfl | rfl | rfl <;> decide)] at h
          have HD := Lib.hid (fun W => rdigits_any vj (by omega) (by omega) W)
          have hdl := (itoa_word vj (by omega) (by omega)).2
          obtain ⟨D, hD⟩ : ∃ B, B = bx (Lib.itoa vj) := ⟨_, rfl⟩
          have hDs : D.size ≤ 100 := by rw [hD, bx_size]; omega
          rw [← hD] at HD
          obtain ⟨X1, hX1⟩ : ∃ B, U.extract j (j + 1) = B := ⟨_, rfl⟩
          obtain ⟨X2, hX2⟩ : ∃ B, (⟨#[32]⟩ : ByteArray) ++ X1 = B := ⟨_, rfl⟩
          obtain ⟨X3, hX3⟩ : ∃ B, X2 ++ D = B := ⟨_, rfl⟩
          obtain ⟨X4, hX4⟩ : ∃ B, X ++ X3 = B := ⟨_, rfl⟩
          have hX1' : X1 = bx [m] := by
            rw [← hX1]
            exact ext_one U j (by rw [hUs]; exact hj4) m (hch (by rw [hUs]; exact hj4))
          have hX1s : X1.size = 1 := by rw [hX1']; rfl
          have hX2s : X2.size = 2 := by rw [← hX2, ByteArray.size_append, hX1s]; rfl
          have hX3s : X3.size ≤ 102 := by rw [← hX3, ByteArray.size_append, hX2s]; omega
          have HX2 : Hid (X4 = bx (nm ++ preT mk F (j + 1))) := by
            show _ = _
            rw [HPS.out, ← hX4, ← hX3, ← hX2, hX1', hD, hX.out, show (⟨#[32]⟩ : ByteArray) = bx [32] from rfl, bx_app, bx_app, bx_app]
            have e : pieceT m vj = 32 :: m :: Lib.itoa vj := by
              unfold pieceT
              rw [if_neg (by rcases hsel with rfl | rfl | rfl <;> decide), if_neg (by rcases hsel with rfl | rfl | rfl <;> decide)]
            rw [e]
            simp
          have hz2 : (⟨#[32]⟩ : ByteArray).size + X1.size ≤ 9223372036854775807 := by rw [hX1s]; decide
          have hz3 : X2.size + D.size ≤ 9223372036854775807 := by omega
          have hz4 : X.size + X3.size ≤ 9223372036854775807 := by omega
          have HZ2 := Lib.hid hz2
          have HZ3 := Lib.hid hz3
          have HZ4 := Lib.hid hz4
          have HE1 := Lib.hid hX1
          have HE2 := Lib.hid hX2
          have HE3 := Lib.hid hX3
          have HE4 := Lib.hid hX4
          have HCH := Lib.hid hch
          clear hD hdl hX1 hX2 hX3 hX4 hX1' hX1s hX2s hX3s hz2 hz3 hz4 hv hDs
          rcases hsel with rfl | rfl | rfl
          · go_wp2_with fail
            refine Reg.wp_region_phase (by kernel_rfl) [11] (fun i => match i with | 0 => fun v => v = .string X | 1 => fun v => v = .string U | 2 => fun v => v = .int .i64 (j : Int) | 3 => fun v => v = .int .i64 (j : Int) | 4 => fun v => v = .int .i64 ((j + 1 : Nat) : Int) | 5 => fun v => v = .string X1 | 6 => fun v => v = .string X2 | 7 => fun v => v = .slice (some ⟨nb, 0, none⟩) 4 4 | 8 => fun v => v = .int .i64 (j : Int) | 9 => fun v => v = .pointer (some ⟨nb, j, none⟩) | 10 => fun v => v = .int .i64 vj | 11 => fun v => v = .string D | 12 => fun v => v = .string X3 | 13 => fun v => v = .string X4 | 14 => fun v => v = .string X4 | _ => fun _ => True) (fun k f Wx => RX w [o, a1, a2, a3, a4] F nb Wx) (by kernel_rfl) (by kernel_rfl) (by decide) (by decide) ?hJ ?h0 ?pure ?act ?fin
            case hJ => intro k f f' W h hj; exact hj
            case h0 => exact hV.out.drawn (pw_below_drewN (Below.refl _ _) 1)
            case pure =>
              intro i o k a w_ ho hE hk hmc hf hst hkn hj
              have hi : i < 15 := (Array.getElem?_eq_some_iff.1 ho).1
              obtain rfl | rfl | rfl | rfl | rfl | rfl | rfl | rfl | rfl | rfl | rfl | rfl | rfl | rfl : i = 0 ∨ i = 1 ∨ i = 2 ∨ i = 3 ∨ i = 4 ∨ i = 5 ∨ i = 6 ∨ i = 7 ∨ i = 8 ∨ i = 9 ∨ i = 10 ∨ i = 12 ∨ i = 13 ∨ i = 14 := by
                simp only [List.mem_cons, List.not_mem_nil, or_false, not_or] at hE
                omega
              · skip
                obtain rfl := Reg.oper_eq ho rfl
                have e3 : a.eval (.tmp 3) = .string X := (hst.eval 14 3 (by kernel_rfl) (by kernel_rfl)).trans rfl
                have g3 := Reg.eval_getD e3
                exact Reg.op_value rfl rfl (by simp only [List.getElem_toArray, List.getElem_cons_zero, List.getElem_cons_succ, execOp, e3]; go_simp) ⟨_, rfl, rfl, hj⟩
              · skip
                obtain rfl := Reg.oper_eq ho rfl
                have e4 : a.eval (.tmp 4) = .string U := (hf.eval 4 (by kernel_rfl)).trans rfl
                have g4 := Reg.eval_getD e4
                exact Reg.op_value rfl rfl (by simp only [List.getElem_toArray, List.getElem_cons_zero, List.getElem_cons_succ, execOp, e4]; go_simp) ⟨_, rfl, rfl, hj⟩
              · skip
                obtain rfl := Reg.oper_eq ho rfl
                have e6 : a.eval (.tmp 6) = .int .i64 (j : Int) := (hf.eval 6 (by kernel_rfl)).trans rfl
                have g6 := Reg.eval_getD e6
                exact Reg.op_value rfl rfl (by simp only [List.getElem_toArray, List.getElem_cons_zero, List.getElem_cons_succ, execOp, e6]; go_simp) ⟨_, rfl, rfl, hj⟩
              · skip
                obtain rfl := Reg.oper_eq ho rfl
                have e6 : a.eval (.tmp 6) = .int .i64 (j : Int) := (hf.eval 6 (by kernel_rfl)).trans rfl
                have g6 := Reg.eval_getD e6
                exact Reg.op_value rfl rfl (by simp only [List.getElem_toArray, List.getElem_cons_zero, List.getElem_cons_succ, execOp, e6]; go_simp) ⟨_, rfl, rfl, hj⟩
              · skip
                obtain rfl := Reg.oper_eq ho rfl
                have e48 : a.eval (.tmp 48) = .int .i64 (j : Int) := hkn.eval 3 48 (by kernel_rfl) (by kernel_rfl)
                have g48 := Reg.eval_getD e48
                exact Reg.op_value rfl rfl (by simp only [List.getElem_toArray, List.getElem_cons_zero, List.getElem_cons_succ, execOp, e48]; go_simp) ⟨_, rfl, rfl, hj⟩
              · skip
                obtain rfl := Reg.oper_eq ho rfl
                have e46 : a.eval (.tmp 46) = .string U := hkn.eval 1 46 (by kernel_rfl) (by kernel_rfl)
                have e47 : a.eval (.tmp 47) = .int .i64 (j : Int) := hkn.eval 2 47 (by kernel_rfl) (by kernel_rfl)
                have e49 : a.eval (.tmp 49) = .int .i64 ((j + 1 : Nat) : Int) := hkn.eval 4 49 (by kernel_rfl) (by kernel_rfl)
                have g46 := Reg.eval_getD e46
                have g47 := Reg.eval_getD e47
                have g49 := Reg.eval_getD e49
                have h1 := HE1.out
                have h2 : j ≤ j + 1 := Nat.le_succ j
                have h3 : j + 1 ≤ U.size := by omega
                exact Reg.op_value rfl rfl (by simp only [List.getElem_toArray, List.getElem_cons_zero, List.getElem_cons_succ, execOp, e46, e47, e49]; go_simp; rw [if_pos (by omega), if_pos (by omega)]) ⟨_, rfl, rfl, hj⟩
              · skip
                obtain rfl := Reg.oper_eq ho rfl
                have e50 : a.eval (.tmp 50) = .string X1 := hkn.eval 5 50 (by kernel_rfl) (by kernel_rfl)
                have g50 := Reg.eval_getD e50
                have h1 := HE2.out
                have h2 := HZ2.out
                have h3 : 1 + X1.size ≤ 9223372036854775807 := h2
                exact Reg.op_value rfl rfl (by simp only [List.getElem_toArray, List.getElem_cons_zero, List.getElem_cons_succ, execOp, e50]; go_simp) ⟨_, rfl, rfl, hj⟩
              · skip
                obtain rfl := Reg.oper_eq ho rfl
                have e5 : a.eval (.tmp 5) = .slice (some ⟨nb, 0, none⟩) 4 4 := (hf.eval 5 (by kernel_rfl)).trans rfl
                have g5 := Reg.eval_getD e5
                exact Reg.op_value rfl rfl (by simp only [List.getElem_toArray, List.getElem_cons_zero, List.getElem_cons_succ, execOp, e5]; go_simp) ⟨_, rfl, rfl, hj⟩
              · skip
                obtain rfl := Reg.oper_eq ho rfl
                have e6 : a.eval (.tmp 6) = .int .i64 (j : Int) := (hf.eval 6 (by kernel_rfl)).trans rfl
                have g6 := Reg.eval_getD e6
                exact Reg.op_value rfl rfl (by simp only [List.getElem_toArray, List.getElem_cons_zero, List.getElem_cons_succ, execOp, e6]; go_simp) ⟨_, rfl, rfl, hj⟩
              · skip
                obtain rfl := Reg.oper_eq ho rfl
                have e52 : a.eval (.tmp 52) = .slice (some ⟨nb, 0, none⟩) 4 4 := hkn.eval 7 52 (by kernel_rfl) (by kernel_rfl)
                have e53 : a.eval (.tmp 53) = .int .i64 (j : Int) := hkn.eval 8 53 (by kernel_rfl) (by kernel_rfl)
                have g52 := Reg.eval_getD e52
                have g53 := Reg.eval_getD e53
                exact Reg.op_value rfl rfl (by simp only [List.getElem_toArray, List.getElem_cons_zero, List.getElem_cons_succ, execOp, e52, e53]; go_simp) ⟨_, rfl, rfl, hj⟩
              · skip
                obtain rfl := Reg.oper_eq ho rfl
                have e54 : a.eval (.tmp 54) = .pointer (some ⟨nb, j, none⟩) := hkn.eval 9 54 (by kernel_rfl) (by kernel_rfl)
                have g54 := Reg.eval_getD e54
                have kf2 : w_.cell? ⟨nb, j, none⟩ = some (.int .i64 vj) := cell_ints hj.f j vj HVJ.out
                exact Reg.op_value rfl rfl (by simp only [List.getElem_toArray, List.getElem_cons_zero, List.getElem_cons_succ, execOp, e54]; go_simp) ⟨_, rfl, rfl, hj⟩
              · skip
                obtain rfl := Reg.oper_eq ho rfl
                have e51 : a.eval (.tmp 51) = .string X2 := hkn.eval 6 51 (by kernel_rfl) (by kernel_rfl)
                have e56 : a.eval (.tmp 56) = .string D := hkn.eval 11 56 (by kernel_rfl) (by kernel_rfl)
                have g51 := Reg.eval_getD e51
                have g56 := Reg.eval_getD e56
                have h1 := HE3.out
                have h2 := HZ3.out
                exact Reg.op_value rfl rfl (by simp only [List.getElem_toArray, List.getElem_cons_zero, List.getElem_cons_succ, execOp, e51, e56]; go_simp) ⟨_, rfl, rfl, hj⟩
              · skip
                obtain rfl := Reg.oper_eq ho rfl
                have e45 : a.eval (.tmp 45) = .string X := hkn.eval 0 45 (by kernel_rfl) (by kernel_rfl)
                have e57 : a.eval (.tmp 57) = .string X3 := hkn.eval 12 57 (by kernel_rfl) (by kernel_rfl)
                have g45 := Reg.eval_getD e45
                have g57 := Reg.eval_getD e57
                have h1 := HE4.out
                have h2 := HZ4.out
                exact Reg.op_value rfl rfl (by simp only [List.getElem_toArray, List.getElem_cons_zero, List.getElem_cons_succ, execOp, e45, e57]; go_simp) ⟨_, rfl, rfl, hj⟩
              · skip
                obtain rfl := Reg.oper_eq ho rfl
                have e58 : a.eval (.tmp 58) = .string X4 := hkn.eval 13 58 (by kernel_rfl) (by kernel_rfl)
                have g58 := Reg.eval_getD e58
                exact Reg.op_value rfl rfl (by simp only [List.getElem_toArray, List.getElem_cons_zero, List.getElem_cons_succ, execOp, e58]; go_simp) ⟨_, rfl, rfl, hj⟩
            case act =>
              intro k o a w_ hk ho hf hst hkn hj
              obtain rfl : k = 0 := by simp only [List.length_cons, List.length_nil] at hk; omega
              · skip
                obtain rfl := Reg.oper_eq ho rfl
                have e55 : a.eval (.tmp 55) = .int .i64 vj := hkn.eval 10 55 (by kernel_rfl) (by kernel_rfl)
                have g55 := Reg.eval_getD e55
                refine Reg.op_call (f := 20) (args := #[.int .i64 vj]) (w' := w_) rfl rfl (by simp only [List.getElem_toArray, List.getElem_cons_zero, List.getElem_cons_succ, execOp, e55]; go_simp) ((HD.out w_).mono ?_)
                rintro e W3 ⟨rfl, hb3⟩
                exact .inl ⟨_, rfl, _, rfl, rfl, hj.drawn hb3⟩
            case fin =>
              intro a w_ hf hkn hj
              have e45 : Reg.val a 45 = _ := hkn 0 45 (by show _ < _; decide) (by kernel_rfl)
              have e46 : Reg.val a 46 = _ := hkn 1 46 (by show _ < _; decide) (by kernel_rfl)
              have e47 : Reg.val a 47 = _ := hkn 2 47 (by show _ < _; decide) (by kernel_rfl)
              have e48 : Reg.val a 48 = _ := hkn 3 48 (by show _ < _; decide) (by kernel_rfl)
              have e49 : Reg.val a 49 = _ := hkn 4 49 (by show _ < _; decide) (by kernel_rfl)
              have e50 : Reg.val a 50 = _ := hkn 5 50 (by show _ < _; decide) (by kernel_rfl)
              have e51 : Reg.val a 51 = _ := hkn 6 51 (by show _ < _; decide) (by kernel_rfl)
              have e52 : Reg.val a 52 = _ := hkn 7 52 (by show _ < _; decide) (by kernel_rfl)
              have e53 : Reg.val a 53 = _ := hkn 8 53 (by show _ < _; decide) (by kernel_rfl)
              have e54 : Reg.val a 54 = _ := hkn 9 54 (by show _ < _; decide) (by kernel_rfl)
              have e55 : Reg.val a 55 = _ := hkn 10 55 (by show _ < _; decide) (by kernel_rfl)
              have e56 : Reg.val a 56 = _ := hkn 11 56 (by show _ < _; decide) (by kernel_rfl)
              have e57 : Reg.val a 57 = _ := hkn 12 57 (by show _ < _; decide) (by kernel_rfl)
              have e58 : Reg.val a 58 = _ := hkn 13 58 (by show _ < _; decide) (by kernel_rfl)
              have e3 : Reg.val a 3 = _ := hkn 14 3 (by show _ < _; decide) (by kernel_rfl)
              rw [Reg.frm_fold hf [45, 46, 47, 48, 49, 50, 51, 52, 53, 54, 55, 56, 57, 58, 3] (by kernel_rfl) (by kernel_rfl)]
              simp only [List.foldl_cons, List.foldl_nil, Act.put, List.setIfInBounds_toArray, List.set_cons_zero, List.set_cons_succ, e45, e46, e47, e48, e49, e50, e51, e52, e53, e54, e55, e56, e57, e58, e3]
              clear hkn hf e45 e46 e47 e48 e49 e50 e51 e52 e53 e54 e55 e56 e57 e58 e3
              have HV6 := Lib.hid hj
              clear hj
              go_wp2_with fail
              go_roundg (4 - (j + 1))
              case measure => exact step_lt HJD.out hj4
              case rel => exact ⟨j + 1, X4, step_eq hj4, by go_num, rfl, HX2.out, HV6.out⟩
          · go_wp2_with fail
            refine Reg.wp_region_phase (by kernel_rfl) [11] (fun i => match i with | 0 => fun v => v = .string X | 1 => fun v => v = .string U | 2 => fun v => v = .int .i64 (j : Int) | 3 => fun v => v = .int .i64 (j : Int) | 4 => fun v => v = .int .i64 ((j + 1 : Nat) : Int) | 5 => fun v => v = .string X1 | 6 => fun v => v = .string X2 | 7 => fun v => v = .slice (some ⟨nb, 0, none⟩) 4 4 | 8 => fun v => v = .int .i64 (j : Int) | 9 => fun v => v = .pointer (some ⟨nb, j, none⟩) | 10 => fun v => v = .int .i64 vj | 11 => fun v => v = .string D | 12 => fun v => v = .string X3 | 13 => fun v => v = .string X4 | 14 => fun v => v = .string X4 | _ => fun _ => True) (fun k f Wx => RX w [o, a1, a2, a3, a4] F nb Wx) (by kernel_rfl) (by kernel_rfl) (by decide) (by decide) ?hJ ?h0 ?pure ?act ?fin
            case hJ => intro k f f' W h hj; exact hj
            case h0 => exact hV.out.drawn (pw_below_drewN (Below.refl _ _) 1)
            case pure =>
              intro i o k a w_ ho hE hk hmc hf hst hkn hj
              have hi : i < 15 := (Array.getElem?_eq_some_iff.1 ho).1
              obtain rfl | rfl | rfl | rfl | rfl | rfl | rfl | rfl | rfl | rfl | rfl | rfl | rfl | rfl : i = 0 ∨ i = 1 ∨ i = 2 ∨ i = 3 ∨ i = 4 ∨ i = 5 ∨ i = 6 ∨ i = 7 ∨ i = 8 ∨ i = 9 ∨ i = 10 ∨ i = 12 ∨ i = 13 ∨ i = 14 := by
                simp only [List.mem_cons, List.not_mem_nil, or_false, not_or] at hE
                omega
              · skip
                obtain rfl := Reg.oper_eq ho rfl
                have e3 : a.eval (.tmp 3) = .string X := (hst.eval 14 3 (by kernel_rfl) (by kernel_rfl)).trans rfl
                have g3 := Reg.eval_getD e3
                exact Reg.op_value rfl rfl (by simp only [List.getElem_toArray, List.getElem_cons_zero, List.getElem_cons_succ, execOp, e3]; go_simp) ⟨_, rfl, rfl, hj⟩
              · skip
                obtain rfl := Reg.oper_eq ho rfl
                have e4 : a.eval (.tmp 4) = .string U := (hf.eval 4 (by kernel_rfl)).trans rfl
                have g4 := Reg.eval_getD e4
                exact Reg.op_value rfl rfl (by simp only [List.getElem_toArray, List.getElem_cons_zero, List.getElem_cons_succ, execOp, e4]; go_simp) ⟨_, rfl, rfl, hj⟩
              · skip
                obtain rfl := Reg.oper_eq ho rfl
                have e6 : a.eval (.tmp 6) = .int .i64 (j : Int) := (hf.eval 6 (by kernel_rfl)).trans rfl
                have g6 := Reg.eval_getD e6
                exact Reg.op_value rfl rfl (by simp only [List.getElem_toArray, List.getElem_cons_zero, List.getElem_cons_succ, execOp, e6]; go_simp) ⟨_, rfl, rfl, hj⟩
              · skip
                obtain rfl := Reg.oper_eq ho rfl
                have e6 : a.eval (.tmp 6) = .int .i64 (j : Int) := (hf.eval 6 (by kernel_rfl)).trans rfl
                have g6 := Reg.eval_getD e6
                exact Reg.op_value rfl rfl (by simp only [List.getElem_toArray, List.getElem_cons_zero, List.getElem_cons_succ, execOp, e6]; go_simp) ⟨_, rfl, rfl, hj⟩
              · skip
                obtain rfl := Reg.oper_eq ho rfl
                have e48 : a.eval (.tmp 48) = .int .i64 (j : Int) := hkn.eval 3 48 (by kernel_rfl) (by kernel_rfl)
                have g48 := Reg.eval_getD e48
                exact Reg.op_value rfl rfl (by simp only [List.getElem_toArray, List.getElem_cons_zero, List.getElem_cons_succ, execOp, e48]; go_simp) ⟨_, rfl, rfl, hj⟩
              · skip
                obtain rfl := Reg.oper_eq ho rfl
                have e46 : a.eval (.tmp 46) = .string U := hkn.eval 1 46 (by kernel_rfl) (by kernel_rfl)
                have e47 : a.eval (.tmp 47) = .int .i64 (j : Int) := hkn.eval 2 47 (by kernel_rfl) (by kernel_rfl)
                have e49 : a.eval (.tmp 49) = .int .i64 ((j + 1 : Nat) : Int) := hkn.eval 4 49 (by kernel_rfl) (by kernel_rfl)
                have g46 := Reg.eval_getD e46
                have g47 := Reg.eval_getD e47
                have g49 := Reg.eval_getD e49
                have h1 := HE1.out
                have h2 : j ≤ j + 1 := Nat.le_succ j
                have h3 : j + 1 ≤ U.size := by omega
                exact Reg.op_value rfl rfl (by simp only [List.getElem_toArray, List.getElem_cons_zero, List.getElem_cons_succ, execOp, e46, e47, e49]; go_simp; rw [if_pos (by omega), if_pos (by omega)]) ⟨_, rfl, rfl, hj⟩
              · skip
                obtain rfl := Reg.oper_eq ho rfl
                have e50 : a.eval (.tmp 50) = .string X1 := hkn.eval 5 50 (by kernel_rfl) (by kernel_rfl)
                have g50 := Reg.eval_getD e50
                have h1 := HE2.out
                have h2 := HZ2.out
                have h3 : 1 + X1.size ≤ 9223372036854775807 := h2
                exact Reg.op_value rfl rfl (by simp only [List.getElem_toArray, List.getElem_cons_zero, List.getElem_cons_succ, execOp, e50]; go_simp) ⟨_, rfl, rfl, hj⟩
              · skip
                obtain rfl := Reg.oper_eq ho rfl
                have e5 : a.eval (.tmp 5) = .slice (some ⟨nb, 0, none⟩) 4 4 := (hf.eval 5 (by kernel_rfl)).trans rfl
                have g5 := Reg.eval_getD e5
                exact Reg.op_value rfl rfl (by simp only [List.getElem_toArray, List.getElem_cons_zero, List.getElem_cons_succ, execOp, e5]; go_simp) ⟨_, rfl, rfl, hj⟩
              · skip
                obtain rfl := Reg.oper_eq ho rfl
                have e6 : a.eval (.tmp 6) = .int .i64 (j : Int) := (hf.eval 6 (by kernel_rfl)).trans rfl
                have g6 := Reg.eval_getD e6
                exact Reg.op_value rfl rfl (by simp only [List.getElem_toArray, List.getElem_cons_zero, List.getElem_cons_succ, execOp, e6]; go_simp) ⟨_, rfl, rfl, hj⟩
              · skip
                obtain rfl := Reg.oper_eq ho rfl
                have e52 : a.eval (.tmp 52) = .slice (some ⟨nb, 0, none⟩) 4 4 := hkn.eval 7 52 (by kernel_rfl) (by kernel_rfl)
                have e53 : a.eval (.tmp 53) = .int .i64 (j : Int) := hkn.eval 8 53 (by kernel_rfl) (by kernel_rfl)
                have g52 := Reg.eval_getD e52
                have g53 := Reg.eval_getD e53
                exact Reg.op_value rfl rfl (by simp only [List.getElem_toArray, List.getElem_cons_zero, List.getElem_cons_succ, execOp, e52, e53]; go_simp) ⟨_, rfl, rfl, hj⟩
              · skip
                obtain rfl := Reg.oper_eq ho rfl
                have e54 : a.eval (.tmp 54) = .pointer (some ⟨nb, j, none⟩) := hkn.eval 9 54 (by kernel_rfl) (by kernel_rfl)
                have g54 := Reg.eval_getD e54
                have kf2 : w_.cell? ⟨nb, j, none⟩ = some (.int .i64 vj) := cell_ints hj.f j vj HVJ.out
                exact Reg.op_value rfl rfl (by simp only [List.getElem_toArray, List.getElem_cons_zero, List.getElem_cons_succ, execOp, e54]; go_simp) ⟨_, rfl, rfl, hj⟩
              · skip
                obtain rfl := Reg.oper_eq ho rfl
                have e51 : a.eval (.tmp 51) = .string X2 := hkn.eval 6 51 (by kernel_rfl) (by kernel_rfl)
                have e56 : a.eval (.tmp 56) = .string D := hkn.eval 11 56 (by kernel_rfl) (by kernel_rfl)
                have g51 := Reg.eval_getD e51
                have g56 := Reg.eval_getD e56
                have h1 := HE3.out
                have h2 := HZ3.out
                exact Reg.op_value rfl rfl (by simp only [List.getElem_toArray, List.getElem_cons_zero, List.getElem_cons_succ, execOp, e51, e56]; go_simp) ⟨_, rfl, rfl, hj⟩
              · skip
                obtain rfl := Reg.oper_eq ho rfl
                have e45 : a.eval (.tmp 45) = .string X := hkn.eval 0 45 (by kernel_rfl) (by kernel_rfl)
                have e57 : a.eval (.tmp 57) = .string X3 := hkn.eval 12 57 (by kernel_rfl) (by kernel_rfl)
                have g45 := Reg.eval_getD e45
                have g57 := Reg.eval_getD e57
                have h1 := HE4.out
                have h2 := HZ4.out
                exact Reg.op_value rfl rfl (by simp only [List.getElem_toArray, List.getElem_cons_zero, List.getElem_cons_succ, execOp, e45, e57]; go_simp) ⟨_, rfl, rfl, hj⟩
              · skip
                obtain rfl := Reg.oper_eq ho rfl
                have e58 : a.eval (.tmp 58) = .string X4 := hkn.eval 13 58 (by kernel_rfl) (by kernel_rfl)
                have g58 := Reg.eval_getD e58
                exact Reg.op_value rfl rfl (by simp only [List.getElem_toArray, List.getElem_cons_zero, List.getElem_cons_succ, execOp, e58]; go_simp) ⟨_, rfl, rfl, hj⟩
            case act =>
              intro k o a w_ hk ho hf hst hkn hj
              obtain rfl : k = 0 := by simp only [List.length_cons, List.length_nil] at hk; omega
              · skip
                obtain rfl := Reg.oper_eq ho rfl
                have e55 : a.eval (.tmp 55) = .int .i64 vj := hkn.eval 10 55 (by kernel_rfl) (by kernel_rfl)
                have g55 := Reg.eval_getD e55
                refine Reg.op_call (f := 20) (args := #[.int .i64 vj]) (w' := w_) rfl rfl (by simp only [List.getElem_toArray, List.getElem_cons_zero, List.getElem_cons_succ, execOp, e55]; go_simp) ((HD.out w_).mono ?_)
                rintro e W3 ⟨rfl, hb3⟩
                exact .inl ⟨_, rfl, _, rfl, rfl, hj.drawn hb3⟩
            case fin =>
              intro a w_ hf hkn hj
              have e45 : Reg.val a 45 = _ := hkn 0 45 (by show _ < _; decide) (by kernel_rfl)
              have e46 : Reg.val a 46 = _ := hkn 1 46 (by show _ < _; decide) (by kernel_rfl)
              have e47 : Reg.val a 47 = _ := hkn 2 47 (by show _ < _; decide) (by kernel_rfl)
              have e48 : Reg.val a 48 = _ := hkn 3 48 (by show _ < _; decide) (by kernel_rfl)
              have e49 : Reg.val a 49 = _ := hkn 4 49 (by show _ < _; decide) (by kernel_rfl)
              have e50 : Reg.val a 50 = _ := hkn 5 50 (by show _ < _; decide) (by kernel_rfl)
              have e51 : Reg.val a 51 = _ := hkn 6 51 (by show _ < _; decide) (by kernel_rfl)
              have e52 : Reg.val a 52 = _ := hkn 7 52 (by show _ < _; decide) (by kernel_rfl)
              have e53 : Reg.val a 53 = _ := hkn 8 53 (by show _ < _; decide) (by kernel_rfl)
              have e54 : Reg.val a 54 = _ := hkn 9 54 (by show _ < _; decide) (by kernel_rfl)
              have e55 : Reg.val a 55 = _ := hkn 10 55 (by show _ < _; decide) (by kernel_rfl)
              have e56 : Reg.val a 56 = _ := hkn 11 56 (by show _ < _; decide) (by kernel_rfl)
              have e57 : Reg.val a 57 = _ := hkn 12 57 (by show _ < _; decide) (by kernel_rfl)
              have e58 : Reg.val a 58 = _ := hkn 13 58 (by show _ < _; decide) (by kernel_rfl)
              have e3 : Reg.val a 3 = _ := hkn 14 3 (by show _ < _; decide) (by kernel_rfl)
              rw [Reg.frm_fold hf [45, 46, 47, 48, 49, 50, 51, 52, 53, 54, 55, 56, 57, 58, 3] (by kernel_rfl) (by kernel_rfl)]
              simp only [List.foldl_cons, List.foldl_nil, Act.put, List.setIfInBounds_toArray, List.set_cons_zero, List.set_cons_succ, e45, e46, e47, e48, e49, e50, e51, e52, e53, e54, e55, e56, e57, e58, e3]
              clear hkn hf e45 e46 e47 e48 e49 e50 e51 e52 e53 e54 e55 e56 e57 e58 e3
              have HV6 := Lib.hid hj
              clear hj
              go_wp2_with fail
              go_roundg (4 - (j + 1))
              case measure => exact step_lt HJD.out hj4
              case rel => exact ⟨j + 1, X4, step_eq hj4, by go_num, rfl, HX2.out, HV6.out⟩
          · go_wp2_with fail
            refine Reg.wp_region_phase (by kernel_rfl) [11] (fun i => match i with | 0 => fun v => v = .string X | 1 => fun v => v = .string U | 2 => fun v => v = .int .i64 (j : Int) | 3 => fun v => v = .int .i64 (j : Int) | 4 => fun v => v = .int .i64 ((j + 1 : Nat) : Int) | 5 => fun v => v = .string X1 | 6 => fun v => v = .string X2 | 7 => fun v => v = .slice (some ⟨nb, 0, none⟩) 4 4 | 8 => fun v => v = .int .i64 (j : Int) | 9 => fun v => v = .pointer (some ⟨nb, j, none⟩) | 10 => fun v => v = .int .i64 vj | 11 => fun v => v = .string D | 12 => fun v => v = .string X3 | 13 => fun v => v = .string X4 | 14 => fun v => v = .string X4 | _ => fun _ => True) (fun k f Wx => RX w [o, a1, a2, a3, a4] F nb Wx) (by kernel_rfl) (by kernel_rfl) (by decide) (by decide) ?hJ ?h0 ?pure ?act ?fin
            case hJ => intro k f f' W h hj; exact hj
            case h0 => exact hV.out.drawn (pw_below_drewN (Below.refl _ _) 1)
            case pure =>
              intro i o k a w_ ho hE hk hmc hf hst hkn hj
              have hi : i < 15 := (Array.getElem?_eq_some_iff.1 ho).1
              obtain rfl | rfl | rfl | rfl | rfl | rfl | rfl | rfl | rfl | rfl | rfl | rfl | rfl | rfl : i = 0 ∨ i = 1 ∨ i = 2 ∨ i = 3 ∨ i = 4 ∨ i = 5 ∨ i = 6 ∨ i = 7 ∨ i = 8 ∨ i = 9 ∨ i = 10 ∨ i = 12 ∨ i = 13 ∨ i = 14 := by
                simp only [List.mem_cons, List.not_mem_nil, or_false, not_or] at hE
                omega
              · skip
                obtain rfl := Reg.oper_eq ho rfl
                have e3 : a.eval (.tmp 3) = .string X := (hst.eval 14 3 (by kernel_rfl) (by kernel_rfl)).trans rfl
                have g3 := Reg.eval_getD e3
                exact Reg.op_value rfl rfl (by simp only [List.getElem_toArray, List.getElem_cons_zero, List.getElem_cons_succ, execOp, e3]; go_simp) ⟨_, rfl, rfl, hj⟩
              · skip
                obtain rfl := Reg.oper_eq ho rfl
                have e4 : a.eval (.tmp 4) = .string U := (hf.eval 4 (by kernel_rfl)).trans rfl
                have g4 := Reg.eval_getD e4
                exact Reg.op_value rfl rfl (by simp only [List.getElem_toArray, List.getElem_cons_zero, List.getElem_cons_succ, execOp, e4]; go_simp) ⟨_, rfl, rfl, hj⟩
              · skip
                obtain rfl := Reg.oper_eq ho rfl
                have e6 : a.eval (.tmp 6) = .int .i64 (j : Int) := (hf.eval 6 (by kernel_rfl)).trans rfl
                have g6 := Reg.eval_getD e6
                exact Reg.op_value rfl rfl (by simp only [List.getElem_toArray, List.getElem_cons_zero, List.getElem_cons_succ, execOp, e6]; go_simp) ⟨_, rfl, rfl, hj⟩
              · skip
                obtain rfl := Reg.oper_eq ho rfl
                have e6 : a.eval (.tmp 6) = .int .i64 (j : Int) := (hf.eval 6 (by kernel_rfl)).trans rfl
                have g6 := Reg.eval_getD e6
                exact Reg.op_value rfl rfl (by simp only [List.getElem_toArray, List.getElem_cons_zero, List.getElem_cons_succ, execOp, e6]; go_simp) ⟨_, rfl, rfl, hj⟩
              · skip
                obtain rfl := Reg.oper_eq ho rfl
                have e48 : a.eval (.tmp 48) = .int .i64 (j : Int) := hkn.eval 3 48 (by kernel_rfl) (by kernel_rfl)
                have g48 := Reg.eval_getD e48
                exact Reg.op_value rfl rfl (by simp only [List.getElem_toArray, List.getElem_cons_zero, List.getElem_cons_succ, execOp, e48]; go_simp) ⟨_, rfl, rfl, hj⟩
              · skip
                obtain rfl := Reg.oper_eq ho rfl
                have e46 : a.eval (.tmp 46) = .string U := hkn.eval 1 46 (by kernel_rfl) (by kernel_rfl)
                have e47 : a.eval (.tmp 47) = .int .i64 (j : Int) := hkn.eval 2 47 (by kernel_rfl) (by kernel_rfl)
                have e49 : a.eval (.tmp 49) = .int .i64 ((j + 1 : Nat) : Int) := hkn.eval 4 49 (by kernel_rfl) (by kernel_rfl)
                have g46 := Reg.eval_getD e46
                have g47 := Reg.eval_getD e47
                have g49 := Reg.eval_getD e49
                have h1 := HE1.out
                have h2 : j ≤ j + 1 := Nat.le_succ j
                have h3 : j + 1 ≤ U.size := by omega
                exact Reg.op_value rfl rfl (by simp only [List.getElem_toArray, List.getElem_cons_zero, List.getElem_cons_succ, execOp, e46, e47, e49]; go_simp; rw [if_pos (by omega), if_pos (by omega)]) ⟨_, rfl, rfl, hj⟩
              · skip
                obtain rfl := Reg.oper_eq ho rfl
                have e50 : a.eval (.tmp 50) = .string X1 := hkn.eval 5 50 (by kernel_rfl) (by kernel_rfl)
                have g50 := Reg.eval_getD e50
                have h1 := HE2.out
                have h2 := HZ2.out
                have h3 : 1 + X1.size ≤ 9223372036854775807 := h2
                exact Reg.op_value rfl rfl (by simp only [List.getElem_toArray, List.getElem_cons_zero, List.getElem_cons_succ, execOp, e50]; go_simp) ⟨_, rfl, rfl, hj⟩
              · skip
                obtain rfl := Reg.oper_eq ho rfl
                have e5 : a.eval (.tmp 5) = .slice (some ⟨nb, 0, none⟩) 4 4 := (hf.eval 5 (by kernel_rfl)).trans rfl
                have g5 := Reg.eval_getD e5
                exact Reg.op_value rfl rfl (by simp only [List.getElem_toArray, List.getElem_cons_zero, List.getElem_cons_succ, execOp, e5]; go_simp) ⟨_, rfl, rfl, hj⟩
              · skip
                obtain rfl := Reg.oper_eq ho rfl
                have e6 : a.eval (.tmp 6) = .int .i64 (j : Int) := (hf.eval 6 (by kernel_rfl)).trans rfl
                have g6 := Reg.eval_getD e6
                exact Reg.op_value rfl rfl (by simp only [List.getElem_toArray, List.getElem_cons_zero, List.getElem_cons_succ, execOp, e6]; go_simp) ⟨_, rfl, rfl, hj⟩
              · skip
                obtain rfl := Reg.oper_eq ho rfl
                have e52 : a.eval (.tmp 52) = .slice (some ⟨nb, 0, none⟩) 4 4 := hkn.eval 7 52 (by kernel_rfl) (by kernel_rfl)
                have e53 : a.eval (.tmp 53) = .int .i64 (j : Int) := hkn.eval 8 53 (by kernel_rfl) (by kernel_rfl)
                have g52 := Reg.eval_getD e52
                have g53 := Reg.eval_getD e53
                exact Reg.op_value rfl rfl (by simp only [List.getElem_toArray, List.getElem_cons_zero, List.getElem_cons_succ, execOp, e52, e53]; go_simp) ⟨_, rfl, rfl, hj⟩
              · skip
                obtain rfl := Reg.oper_eq ho rfl
                have e54 : a.eval (.tmp 54) = .pointer (some ⟨nb, j, none⟩) := hkn.eval 9 54 (by kernel_rfl) (by kernel_rfl)
                have g54 := Reg.eval_getD e54
                have kf2 : w_.cell? ⟨nb, j, none⟩ = some (.int .i64 vj) := cell_ints hj.f j vj HVJ.out
                exact Reg.op_value rfl rfl (by simp only [List.getElem_toArray, List.getElem_cons_zero, List.getElem_cons_succ, execOp, e54]; go_simp) ⟨_, rfl, rfl, hj⟩
              · skip
                obtain rfl := Reg.oper_eq ho rfl
                have e51 : a.eval (.tmp 51) = .string X2 := hkn.eval 6 51 (by kernel_rfl) (by kernel_rfl)
                have e56 : a.eval (.tmp 56) = .string D := hkn.eval 11 56 (by kernel_rfl) (by kernel_rfl)
                have g51 := Reg.eval_getD e51
                have g56 := Reg.eval_getD e56
                have h1 := HE3.out
                have h2 := HZ3.out
                exact Reg.op_value rfl rfl (by simp only [List.getElem_toArray, List.getElem_cons_zero, List.getElem_cons_succ, execOp, e51, e56]; go_simp) ⟨_, rfl, rfl, hj⟩
              · skip
                obtain rfl := Reg.oper_eq ho rfl
                have e45 : a.eval (.tmp 45) = .string X := hkn.eval 0 45 (by kernel_rfl) (by kernel_rfl)
                have e57 : a.eval (.tmp 57) = .string X3 := hkn.eval 12 57 (by kernel_rfl) (by kernel_rfl)
                have g45 := Reg.eval_getD e45
                have g57 := Reg.eval_getD e57
                have h1 := HE4.out
                have h2 := HZ4.out
                exact Reg.op_value rfl rfl (by simp only [List.getElem_toArray, List.getElem_cons_zero, List.getElem_cons_succ, execOp, e45, e57]; go_simp) ⟨_, rfl, rfl, hj⟩
              · skip
                obtain rfl := Reg.oper_eq ho rfl
                have e58 : a.eval (.tmp 58) = .string X4 := hkn.eval 13 58 (by kernel_rfl) (by kernel_rfl)
                have g58 := Reg.eval_getD e58
                exact Reg.op_value rfl rfl (by simp only [List.getElem_toArray, List.getElem_cons_zero, List.getElem_cons_succ, execOp, e58]; go_simp) ⟨_, rfl, rfl, hj⟩
            case act =>
              intro k o a w_ hk ho hf hst hkn hj
              obtain rfl : k = 0 := by simp only [List.length_cons, List.length_nil] at hk; omega
              · skip
                obtain rfl := Reg.oper_eq ho rfl
                have e55 : a.eval (.tmp 55) = .int .i64 vj := hkn.eval 10 55 (by kernel_rfl) (by kernel_rfl)
                have g55 := Reg.eval_getD e55
                refine Reg.op_call (f := 20) (args := #[.int .i64 vj]) (w' := w_) rfl rfl (by simp only [List.getElem_toArray, List.getElem_cons_zero, List.getElem_cons_succ, execOp, e55]; go_simp) ((HD.out w_).mono ?_)
                rintro e W3 ⟨rfl, hb3⟩
                exact .inl ⟨_, rfl, _, rfl, rfl, hj.drawn hb3⟩
            case fin =>
              intro a w_ hf hkn hj
              have e45 : Reg.val a 45 = _ := hkn 0 45 (by show _ < _; decide) (by kernel_rfl)
              have e46 : Reg.val a 46 = _ := hkn 1 46 (by show _ < _; decide) (by kernel_rfl)
              have e47 : Reg.val a 47 = _ := hkn 2 47 (by show _ < _; decide) (by kernel_rfl)
              have e48 : Reg.val a 48 = _ := hkn 3 48 (by show _ < _; decide) (by kernel_rfl)
              have e49 : Reg.val a 49 = _ := hkn 4 49 (by show _ < _; decide) (by kernel_rfl)
              have e50 : Reg.val a 50 = _ := hkn 5 50 (by show _ < _; decide) (by kernel_rfl)
              have e51 : Reg.val a 51 = _ := hkn 6 51 (by show _ < _; decide) (by kernel_rfl)
              have e52 : Reg.val a 52 = _ := hkn 7 52 (by show _ < _; decide) (by kernel_rfl)
              have e53 : Reg.val a 53 = _ := hkn 8 53 (by show _ < _; decide) (by kernel_rfl)
              have e54 : Reg.val a 54 = _ := hkn 9 54 (by show _ < _; decide) (by kernel_rfl)
              have e55 : Reg.val a 55 = _ := hkn 10 55 (by show _ < _; decide) (by kernel_rfl)
              have e56 : Reg.val a 56 = _ := hkn 11 56 (by show _ < _; decide) (by kernel_rfl)
              have e57 : Reg.val a 57 = _ := hkn 12 57 (by show _ < _; decide) (by kernel_rfl)
              have e58 : Reg.val a 58 = _ := hkn 13 58 (by show _ < _; decide) (by kernel_rfl)
              have e3 : Reg.val a 3 = _ := hkn 14 3 (by show _ < _; decide) (by kernel_rfl)
              rw [Reg.frm_fold hf [45, 46, 47, 48, 49, 50, 51, 52, 53, 54, 55, 56, 57, 58, 3] (by kernel_rfl) (by kernel_rfl)]
              simp only [List.foldl_cons, List.foldl_nil, Act.put, List.setIfInBounds_toArray, List.set_cons_zero, List.set_cons_succ, e45, e46, e47, e48, e49, e50, e51, e52, e53, e54, e55, e56, e57, e58, e3]
              clear hkn hf e45 e46 e47 e48 e49 e50 e51 e52 e53 e54 e55 e56 e57 e58 e3
              have HV6 := Lib.hid hj
              clear hj
              go_wp2_with fail
              go_roundg (4 - (j + 1))
              case measure => exact step_lt HJD.out hj4
              case rel => exact ⟨j + 1, X4, step_eq hj4, by go_num, rfl, HX2.out, HV6.out⟩
        · have hv : -2147483648 ≤ vj ∧ vj ≤ 2147483647 := by
            have h := HFO.out
            unfold fieldOk at h
            rwa [if_neg (by decide), if_pos rfl] at h
          have HD := Lib.hid (fun W => rdigits_any vj (by omega) (by omega) W)
          have hdl := (itoa_word vj (by omega) (by omega)).2
          obtain ⟨D, hD⟩ : ∃ B, B = bx (Lib.itoa vj) := ⟨_, rfl⟩
          have hDs : D.size ≤ 100 := by rw [hD, bx_size]; omega
          rw [← hD] at HD
          have n48 : (((uc.toNat : Nat) : Int) == 48) = false := u8_nek (by decide) h48
          have n114 : (((uc.toNat : Nat) : Int) == 114) = false := u8_nek (by decide) h114
          have n104 : (((uc.toNat : Nat) : Int) == 104) = false := u8_nek (by decide) h104
          have n102 : (((uc.toNat : Nat) : Int) == 102) = false := u8_nek (by decide) h102
          have HX2 : Hid (X ++ ((⟨#[32]⟩ : ByteArray) ++ D) = bx (nm ++ preT mk F (j + 1))) := by
            show _ = _
            rw [HPS.out, hD, hX.out, show (⟨#[32]⟩ : ByteArray) = bx [32] from rfl, bx_app, bx_app]
            simp [pieceT]
          have hz2 : (⟨#[32]⟩ : ByteArray).size + D.size ≤ 9223372036854775807 := by have : (⟨#[32]⟩ : ByteArray).size = 1 := rfl; omega
          have hz3 : 1 + D.size ≤ 9223372036854775807 := by omega
          have hz4 : X.size + (1 + D.size) ≤ 9223372036854775807 := by omega
          have hz5 : X.size + ((⟨#[32]⟩ : ByteArray) ++ D).size ≤ 9223372036854775807 := by rw [ByteArray.size_append]; exact hz4
          clear hD hdl h48 h114 h104 h102 hv hDs
          go_wp2_with fail
          refine (HD.out _).mono ?_
          rintro _ w6 ⟨rfl, hb6⟩
          have HV6 := Lib.hid (hV.out.drawn hb6)
          clear hb6 kf
          go_wp2_with fail
          go_roundg (4 - (j + 1))
          case measure => exact step_lt HJD.out hj4
          case rel => exact ⟨j + 1, _, step_eq hj4, by go_num, rfl, HX2.out, HV6.out⟩
      · have hj1 : ¬ (j : Int) < 4 := by omega
        have hj2 : decide ((j : Int) < 4) = false := decide_eq_false hj1
        obtain rfl : j = 4 := by omega
        have HLL : Hid (X ++ ⟨#[10]⟩ = bx (L ++ [10])) := by
          show _ = _
          rw [hX.out, show (⟨#[10]⟩ : ByteArray) = bx [10] from rfl, bx_app, HL.out, preT_all mk F 4 HML.out (by rw [← (fieldsOk_at mk F HFS.out).1, HML.out])]
        have hz1 : X.size + (⟨#[10]⟩ : ByteArray).size ≤ 9223372036854775807 := by have : (⟨#[10]⟩ : ByteArray).size = 1 := rfl; omega
        have hz2 : X.size + 1 ≤ 9223372036854775807 := by omega
        clear hjd HJD
        go_wp2_with fail
        go_ret
        exact ⟨by rw [HLL.out]; rfl, hV.out.below⟩
end Go.Proofs.YtcchoeomeklgmaaGreatDoor.Core
