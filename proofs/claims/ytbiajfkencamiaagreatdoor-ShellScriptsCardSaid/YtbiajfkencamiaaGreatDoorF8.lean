/- shell: a line. Printed by gen_sf8.py. -/
import Derived.Test.YtbiajfkencamiaaGreatDoorF7
/-! F8 -/
namespace Go.Proofs.YtbiajfkencamiaaGreatDoor.SH
open Go.RowKit Go.Shelf Go.Proofs.YtbiajfkencamiaaGreatDoorW.PrintWords Go.Proofs.YtbiajfkencamiaaGreatDoorW.PrintMore Go.Proofs.YtbiajfkencamiaaGreatDoor.P1 Go.Proofs.YtbiajfkencamiaaGreatDoor Go.Proofs.YtbiajfkencamiaaGreatDoor.Core
open Go.Proofs.YtbiajfkencamiaaGreatDoor.EV (Upd Upd.set Upd.below Upd.trans Kq evalF evalF_err)
set_option linter.unusedVariables false
set_option linter.unusedSimpArgs false
/-- What a verb does: what is told, or an error; the text behind it. -/
def verbF (T : List UInt8) (x : List UInt8) (own : List (List UInt8)) : Except Nat (List UInt8) × List UInt8 :=
  match verbN x with
  | 23 => (.ok okL, codeF T own)
  | 24 => clearF T own
  | 28 => (evalX T own, T)
  | 29 => (if (numbersS own 1).isSome = true then .error 11 else .error 13, T)
  | 30 => (if (numbersS own 1).isSome = true then .error 11 else .error 13, T)
  | 31 => (if (numbersS own 0).isSome = true then .error 11 else .error 13, T)
  | 32 => (if (numbersS own 2).isSome = true then .error 11 else .error 13, T)
  | 33 => (roundsF own, T)
  | 34 => (if (numbersS own 0).isSome = true then .error 11 else .error 13, T)
  | _ => (.error 13, T)
def exOut : Except Nat (List UInt8) → List UInt8
  | .ok s => s
  | .error k => toldL k
/-- What a line tells, and the text behind it. -/
def lineF (T : List UInt8) (t : List UInt8) : List UInt8 × List UInt8 := match wordsL t with
  | [] => ([], T)
  | x :: own => (exOut (verbF T x own).1, (verbF T x own).2)
theorem evalX_err {T : List UInt8} {own : List (List UInt8)} {k : Nat} (h : evalX T own = .error k) : k < 100 := by
  unfold evalX at h
  split at h
  · injection h with h; omega
  · split at h
    · rename_i x hx
      obtain ⟨j, hj, hj2⟩ := parse_err _ _ _ x hx
      injection h with h
      omega
    · rename_i args _ _ p hp
      revert h
      cases he : evalF p args 100 4 with
      | ok r => intro h; cases h
      | error x =>
        intro h
        obtain ⟨j, hj, hj2⟩ := evalF_err he
        injection h with h
        omega
theorem ite_err {c : Prop} [Decidable c] {k : Nat} (h : (if c then (.error 11 : Except Nat (List UInt8)) else .error 13) = .error k) : k < 100 := by
  split at h <;> (injection h with h; omega)
theorem verbF_err {T : List UInt8} {x : List UInt8} {own : List (List UInt8)} {k : Nat} (h : (verbF T x own).1 = .error k) : k < 100 := by
  unfold verbF at h
  split at h
  · cases h
  · unfold clearF at h
    split at h
    · cases h
    · injection h with h; omega
  · exact evalX_err h
  · exact ite_err h
  · exact ite_err h
  · exact ite_err h
  · exact ite_err h
  · change roundsF own = _ at h
    unfold roundsF at h
    split at h
    · exact ite_err h
    · injection h with h; omega
  · exact ite_err h
  · injection h with h; omega
/-- Which verbs want no machine. -/
def lightV (n : Nat) : Prop := n = 0 ∨ n = 23 ∨ n = 24 ∨ n = 28 ∨ n = 29 ∨ n = 30 ∨ n = 31 ∨ n = 32 ∨ n = 33 ∨ n = 34
theorem verb_any {gs : Nat} {T : List UInt8} {w : World} {v : Value} (x : List UInt8) (own : List (List UInt8)) (h : ShW gs T w) (hw : WordsR w v own) (hl : own.length ≤ 1000000) (hlen : (codeF T own).length ≤ 1000000) (hT : T.length ≤ 65536) (hA : TabA w) (hTb : Tab w) (hn : verbN x ≠ 0) (hv : lightV (verbN x)) :
    Calls Tryz.prog (verbN x) #[.pointer (some ⟨gs, 0, none⟩), v] w (GivesX gs (verbF T x own).2 w (verbF T x own).1) := by
  unfold verbF
  generalize verbN x = n at *
  rcases hv with rfl | rfl | rfl | rfl | rfl | rfl | rfl | rfl | rfl | rfl
  · exact absurd rfl hn
  · exact code_any own h hw hl hlen
  · exact clear_any own h hw hl
  · exact eval_x own h hw hl hT hA hTb
  · exact poll_nil own h hw hl
  · exact cancel_nil own h hw hl
  · exact shut_nil own h hw hl
  · exact pick_nil own h hw hl
  · exact rounds_nil own h hw hl
  · exact stats_nil own h hw hl
/-! The lengths of words. -/
def sumW : List (List UInt8) → Nat
  | [] => 0
  | x :: l => x.length + 1 + sumW l
theorem wl_sum : ∀ (s cur : List UInt8), sumW (wl cur s) ≤ s.length + cur.length + 1
  | [], cur => by unfold wl; split <;> simp [sumW]
  | c :: t, cur => by
    unfold wl
    have h1 := wl_sum t []
    have h2 := wl_sum t (cur ++ [c])
    simp only [List.length_append, List.length_cons, List.length_nil] at h1 h2 ⊢
    split
    · split <;> simp [sumW]
    · split
      · split
        · omega
        · simp only [sumW]; omega
      · omega
theorem join_len : ∀ (l : List (List UInt8)), (Lib.join l [32]).length ≤ sumW l
  | [] => by simp [Lib.join]
  | [x] => by simp [Lib.join, sumW]
  | x :: y :: l => by
    have h := join_len (y :: l)
    have e : Lib.join (x :: y :: l) [32] = x ++ ([32] ++ Lib.join (y :: l) [32]) := by simp [Lib.join, List.intercalate]
    rw [e]
    simp only [sumW, List.length_append, List.length_cons, List.length_nil] at h ⊢
    omega
theorem words_sum (t : List UInt8) : sumW (wordsL t) ≤ t.length + 1 := by
  exact wl_sum t []
theorem index_none (c : UInt8) : ∀ l : List UInt8, c ∉ l → Lib.indexByte l c = -1
  | [], _ => rfl
  | b :: l, h => by
    have h1 : ¬ (b == c) = true := fun e => h (by simp at e; rw [e]; exact List.mem_cons_self ..)
    have h2 := index_none c l (fun hm => h (List.mem_cons_of_mem _ hm))
    unfold Lib.indexByte
    rw [if_neg h1, h2]
    rfl
theorem sumW_len : ∀ l : List (List UInt8), l.length ≤ sumW l
  | [] => Nat.le_refl _
  | x :: l => by
    have := sumW_len l
    simp only [sumW, List.length_cons]
    omega
def GivesL (gs : Nat) (w : World) (r : List UInt8 × List UInt8) (e : Ending) (w' : World) : Prop := e = .returned (.string ⟨r.1.toArray⟩) ∧ ShW gs r.2 w' ∧ Upd gs w w'
theorem Upd.setNew {gs : Nat} {w W : World} (h : Upd gs w W) {b : Nat} (hb : w.heap.size ≤ b) (j : Nat) (v : Value) : Upd gs w (W.setCell ⟨b, j, none⟩ v) :=
  ⟨by rw [World.size_setCell]; exact h.size, fun k hk hn => (Below.heap_setCell W ⟨b, j, none⟩ v k (by show k ≠ b; omega)).trans (h.same k hk hn), fun B h1 h2 => (h.low B h1 h2).setCell (p := ⟨b, j, none⟩) (Nat.le_trans h2 hb) v⟩
theorem load9 (w : World) (b : Nat) (u : Value) (h : Boxed w b 9 u) : (loadVar 9 ⟨b, 0, none⟩).run Tryz.prog w = .ok u w := by
  have h1 := h.cell
  have h2 := Tryz.underlying9
  simp [loadVar, loadCells, run_underlying h2, h1, Result.andThen]
theorem lres {W : World} {tmps : Array Value} {b4 : Nat} {u : Value} (h : W.heap[b4]? = some (.cells #[u] 9 (0, 0))) (t4 : tmps.getD 4 undef = .pointer (some ⟨b4, 0, none⟩)) : (results Tryz.f6 tmps).run Tryz.prog W = .ok u W := by
  have h1 : tmps[4]?.getD undef = .pointer (some ⟨b4, 0, none⟩) := by simpa using t4
  simp [results, Tryz.results6, h1, asAddr, load9 W b4 u h]
/-- A line's call leaves by its deferred function. -/
theorem lleave_err {gs b4 : Nat} {w W : World} {T' : List UInt8} {k : Nat} {u : ByteArray} {tmps : Array Value} {rr : List UInt8 × List UInt8} (hk : k < 100) (hrr : rr = (toldL k, T')) (hb4 : w.heap.size ≤ b4) (hne : b4 ≠ gs) (hblk : W.heap[b4]? = some (.cells #[.string u] 9 (0, 0))) (hS : ShW gs T' W) (hU : Upd gs w W) (t4 : tmps.getD 4 undef = .pointer (some ⟨b4, 0, none⟩)) :
    bodyPostD Tryz.prog Tryz.f6 (GivesL gs w rr) (Exit.panic (wrongS (k : Int))) { tmps := tmps, defers := [{ target := Target.fn (Go.Fn.func 10) #[.pointer (some ⟨b4, 0, none⟩)], args := #[] }] } W := by
  refine leaves_cons (f := 10) (args := #[.pointer (some ⟨b4, 0, none⟩)]) (by simp) (by simp [go_sem]) ?_
  refine (lcatch_panicking b4 u k hk [] W hblk).mono ?_
  rintro e u' w'' ⟨rfl, rfl, rfl⟩
  have ha : Below W.heap.size W (W.alloc (.cells #[.int .i64 (k : Int)] 41)) := (Below.refl _ _).alloc (Nat.le_refl _) _
  refine ⟨_, lres (blk_set (blk_below hblk ha) 0 _) t4, ?_⟩
  rw [hrr]
  exact ⟨rfl, blk_far (hS.below ha) (p := ⟨b4, 0, none⟩) (fun e => hne e.symm) _, Upd.setNew (hU.trans (Upd.below ha)) hb4 0 _⟩
theorem lleave_ok {gs b4 : Nat} {w W : World} {T' s : List UInt8} {tmps : Array Value} {rr : List UInt8 × List UInt8} (hrr : rr = (s, T')) (hb4 : w.heap.size ≤ b4) (hne : b4 ≠ gs) {u : ByteArray} (hblk : W.heap[b4]? = some (.cells #[.string u] 9 (0, 0))) (hS : ShW gs T' W) (hU : Upd gs w W) (t4 : tmps.getD 4 undef = .pointer (some ⟨b4, 0, none⟩)) :
    bodyPostD Tryz.prog Tryz.f6 (GivesL gs w rr) Exit.ret { tmps := tmps, defers := [{ target := Target.fn (Go.Fn.func 10) #[.pointer (some ⟨b4, 0, none⟩)], args := #[] }] } (W.setCell ⟨b4, 0, none⟩ (.string ⟨s.toArray⟩)) := by
  refine leaves_cons (f := 10) (args := #[.pointer (some ⟨b4, 0, none⟩)]) (by simp) (by simp [go_sem]) ?_
  refine (lcatch_idle _ _).mono ?_
  rintro e u' w'' ⟨rfl, rfl, rfl⟩
  refine ⟨_, lres (blk_set hblk 0 _) t4, ?_⟩
  rw [hrr]
  exact ⟨rfl, blk_far hS (p := ⟨b4, 0, none⟩) (fun e => hne e.symm) _, Upd.setNew hU hb4 0 _⟩
set_option maxRecDepth 100000 in
set_option maxHeartbeats 8000000 in
theorem line_any {gs : Nat} {T : List UInt8} {w : World} (t : List UInt8) (h : ShW gs T w) (h10 : (10 : UInt8) ∉ t) (htl : t.length ≤ 70000) (hT : T.length ≤ 65536) (hA : TabA w) (hTb : Tab w) (hv : ∀ x own, wordsL t = x :: own → lightV (verbN x)) :
    Calls Tryz.prog 6 #[.pointer (some ⟨gs, 0, none⟩), .string ⟨t.toArray⟩] w (GivesL gs w (lineF T t)) := by
  have hmf : ∀ (fn : Go.Fn) (first cap : Array Value) (w : World), (Instr.makeFunc fn first cap).run Tryz.prog w = .ok (.func fn first cap) w := fun _ _ _ _ => rfl
  obtain ⟨W0, hW0⟩ : ∃ X : World, X = w.alloc (.cells #[.string ⟨#[]⟩] 9) := ⟨_, rfl⟩
  have hb0 : Below w.heap.size w W0 := by rw [hW0]; exact (Below.refl _ _).alloc (Nat.le_refl _) _
  have hbk : W0.heap[w.heap.size]? = some (.cells #[.string ⟨#[]⟩] 9 (0, 0)) := by rw [hW0]; exact heap_alloc_new _ _
  have HC := Lib.hid (fun W => Tryz.strings_Contains_one ⟨t.toArray⟩ 10 W)
  have hix : decide (0 ≤ Lib.indexByte (⟨t.toArray⟩ : ByteArray).data.toList 10) = false := decide_eq_false (by rw [show (⟨t.toArray⟩ : ByteArray).data.toList = t from by simp, index_none 10 t h10]; decide)
  rw [hix] at HC
  have HWD := Lib.hid (words_any t (by omega) W0 (hA.below hb0))
  obtain ⟨L, hL⟩ : ∃ L, wordsL t = L := ⟨_, rfl⟩
  have hsum := words_sum t
  obtain ⟨rr, hrr⟩ : ∃ rr, lineF T t = rr := ⟨_, rfl⟩
  rw [hrr]
  unfold lineF at hrr
  rw [hL] at HWD hv hsum hrr
  have HRR := Lib.hid hrr
  have HS0 := Lib.hid (h.below hb0)
  have HB0 := Lib.hid hb0
  have HNE : Hid (w.heap.size ≠ gs) := by have := blk_lt h; show w.heap.size ≠ gs; omega
  have HBK := Lib.hid hbk
  have HTA := Lib.hid (And.intro hA hTb)
  have HV := Lib.hid hv
  have HSUM : Hid (sumW L ≤ 70001) := by show sumW L ≤ 70001; omega
  have HT := Lib.hid hT
  have HW0 := Lib.hid hW0
  obtain ⟨tb, htb⟩ : ∃ tb : ByteArray, tb = ⟨t.toArray⟩ := ⟨_, rfl⟩
  rw [← htb] at HC HWD ⊢
  clear h h10 htl hT hA hTb hv hW0 hb0 hbk hix hL hsum hrr htb
  go_enter_defers Tryz.func6, Tryz.ntmps6
  go_wp2_with fail
  rw [← HW0.out]
  generalize hb4 : w.heap.size = b4 at HBK HNE HB0 ⊢
  have HZ4 : Hid (b4 ≤ W0.heap.size) := by rw [← hb4]; exact HB0.out.size
  refine (HC.out _).mono ?_
  rintro _ w1 ⟨rfl, hw1⟩
  obtain rfl := hw1.symm
  go_wp2_with fail
  refine (need_ok 4 _).mono ?_
  rintro _ w1 ⟨rfl, hw1⟩
  obtain rfl := hw1
  go_wp2_with fail
  refine HWD.out.mono ?_
  rintro _ W2 ⟨A, rfl, hA1, hrow, hb2⟩
  cases L with
  | nil =>
    have k4 := (blk_cell (blk_below HBK.out hb2) 0).trans rfl
    have z4 := blk_frozen (blk_below HBK.out hb2) 0
    have HE := Lib.hid (And.intro (blk_below HBK.out hb2) (And.intro (HS0.out.below hb2) (HB0.out.trans (hb2.mono HZ4.out))))
    clear hA1 hrow hb2
    go_wp2_with fail
    exact lleave_ok (s := []) (T' := T) HRR.out.symm (Nat.le_of_eq hb4) HNE.out HE.out.1 HE.out.2.1 (Upd.below (by rw [hb4]; exact HE.out.2.2)) rfl
  | cons x own =>
    obtain ⟨n, hn⟩ : ∃ n, n = (x :: own).length := ⟨_, rfl⟩
    rw [← hn] at hrow ⊢
    obtain ⟨xb, hxb⟩ : ∃ xb : ByteArray, xb = ⟨x.toArray⟩ := ⟨_, rfl⟩
    have hcell : ∀ (j : Nat) y, (x :: own)[j]? = some y → W2.cell? ⟨A, j, none⟩ = some (.string ⟨y.toArray⟩) := fun j y hj => by
      have hlt : j < n := by rw [hn]; exact (List.getElem?_eq_some_iff.1 hj).1
      rw [World.ownsRow.cellAt hrow j (by omega), List.getElem?_map, List.getElem?_map, hj]
      rfl
    have hx0 : W2.cell? ⟨A, 0, none⟩ = some (.string xb) := by rw [hxb]; exact hcell 0 x rfl
    have hAlt := World.block_lt_of_cell? _ _ hx0
    have hx8 : x.length ≤ 80000 ∧ own.length ≤ 70001 ∧ sumW own ≤ 70001 := by
      have := HSUM.out
      simp only [sumW] at this
      exact ⟨by omega, by have := sumW_len own; omega, by omega⟩
    have HX := Lib.hid (And.intro hx0 hAlt)
    have HCELL := Lib.hid hcell
    have HOWN := Lib.hid hx8
    have HN := Lib.hid hn
    have HS2 := Lib.hid (HS0.out.below hb2)
    have HB2 : Hid (Below b4 w W2) := HB0.out.trans (hb2.mono HZ4.out)
    have HBK2 := Lib.hid (blk_below HBK.out hb2)
    have HZ2 : Hid (b4 ≤ W2.heap.size) := Nat.le_trans HZ4.out hb2.size
    have HRR2 : Hid (rr = (exOut (verbF T x own).1, (verbF T x own).2)) := HRR.out.symm
    have hv := HV.out x own rfl
    obtain ⟨vn, hvn⟩ : ∃ vn, verbN x = vn := ⟨_, rfl⟩
    rw [hvn] at hv
    have HLK : Hid (∀ (X : World) (b : Nat), MapV X b → (Instr.lookup 47 (.map (some b)) (.string xb) false).run Tryz.prog X = .ok (fnV vn) X) := fun X b hm => by
      rw [hxb, ← hvn]
      exact hm.look x hx8.1
    have HVN := Lib.hid hvn
    have HLV := Lib.hid hv
    have i1 : 0 < n := by rw [hn]; simp
    have e0 : ((n : Int) == 0) = false := by rw [beq_eq_false_iff_ne]; omega
    have i0 : (0 : Int) < (n : Int) := by omega
    clear hA1 hrow hb2 hxb hcell hx0 hAlt hx8 hv hvn hn HV HRR
    go_wp2_with fail
    clear e0
    refine Reg.wp_region_phase (by kernel_rfl) [0] (fun i => match i with | 1 => fun v => v = .slice (some ⟨A, 0, none⟩) n n | 2 => fun v => v = .pointer (some ⟨A, 0, none⟩) | 3 => fun v => v = .string xb | 4 => fun v => v = fnV vn | 5 => fun v => v = fnV vn | _ => fun _ => True) (fun k f9 X => match k with | 0 => Below W2.heap.size W2 X | _ => ∃ b, f9 20 = .map (some b) ∧ MapV X b ∧ Below W2.heap.size W2 X) (by kernel_rfl) (by kernel_rfl) (by decide) (by decide) ?hJ ?h0 ?pure ?act ?fin
    case hJ => (intro k f9 f' X h hj; match k, hj with
      | 0, hj => exact hj
      | k + 1, hj => (obtain ⟨b, h1, h2⟩ := hj; exact ⟨b, (h 0 (by omega) (by decide) 20 (by kernel_rfl)).symm.trans h1, h2⟩))
    case h0 => exact pw_below_drewN (Below.refl _ _) 1
    case pure =>
      intro i o k a w_ ho hE hk hmc hf hst hkn hj
      have hi : i < 6 := (Array.getElem?_eq_some_iff.1 ho).1
      obtain rfl | rfl | rfl | rfl | rfl : i = 1 ∨ i = 2 ∨ i = 3 ∨ i = 4 ∨ i = 5 := by
        simp only [List.mem_cons, List.not_mem_nil, or_false, not_or] at hE
        omega
      · skip
        obtain rfl := Reg.oper_eq ho rfl
        have e5 : a.eval (.tmp 5) = .slice (some ⟨A, 0, none⟩) n n := (hf.eval 5 (by kernel_rfl)).trans rfl
        have g5 := Reg.eval_getD e5
        exact Reg.op_value rfl rfl (by simp only [List.getElem_toArray, List.getElem_cons_zero, List.getElem_cons_succ, execOp, e5]; go_simp) ⟨_, rfl, rfl, hj⟩
      · skip
        obtain rfl := Reg.oper_eq ho rfl
        have e21 : a.eval (.tmp 21) = .slice (some ⟨A, 0, none⟩) n n := hkn.eval 1 21 (by kernel_rfl) (by kernel_rfl)
        have g21 := Reg.eval_getD e21
        exact Reg.op_value rfl rfl (by simp only [List.getElem_toArray, List.getElem_cons_zero, List.getElem_cons_succ, execOp, e21]; go_simp) ⟨_, rfl, rfl, hj⟩
      · skip
        obtain rfl := Reg.oper_eq ho rfl
        have e22 : a.eval (.tmp 22) = .pointer (some ⟨A, 0, none⟩) := hkn.eval 2 22 (by kernel_rfl) (by kernel_rfl)
        have g22 := Reg.eval_getD e22
        have hz : w_.cell? ⟨A, 0, none⟩ = some (.string xb) := by
          have hk3 : k = 0 ∨ k = 1 := by (simp only [List.length_cons, List.length_nil] at hk; omega)
          rcases hk3 with rfl | rfl
          · exact (Below.cell hj (p := ⟨A, 0, none⟩) HX.out.2).trans HX.out.1
          · obtain ⟨b, _, _, hB⟩ := hj
            exact (hB.cell (p := ⟨A, 0, none⟩) HX.out.2).trans HX.out.1
        exact Reg.op_value rfl rfl (by simp only [List.getElem_toArray, List.getElem_cons_zero, List.getElem_cons_succ, execOp, e22]; go_simp) ⟨_, rfl, rfl, hj⟩
      · skip
        obtain rfl := Reg.oper_eq ho rfl
        have e23 : a.eval (.tmp 23) = .string xb := hkn.eval 3 23 (by kernel_rfl) (by kernel_rfl)
        have g23 := Reg.eval_getD e23
        have hk3 : k = 0 ∨ k = 1 := by (simp only [List.length_cons, List.length_nil] at hk; omega)
        rcases hk3 with rfl | rfl
        · exact Bool.noConfusion (hmc.symm.trans (show Reg.mayComeB _ _ _ _ = false from by kernel_rfl))
        · obtain ⟨b, h20, hm, hB⟩ := hj
          have e20' : a.eval (.tmp 20) = .map (some b) := (Reg.eval_val a 20).trans h20
          have g20 := Reg.eval_getD e20'
          have hlk := HLK.out w_ b hm
          exact Reg.op_value (v := fnV vn) (w' := w_) rfl rfl (by simp only [List.getElem_toArray, List.getElem_cons_zero, List.getElem_cons_succ, execOp, e20', e23]; go_simp) ⟨_, rfl, rfl, b, h20, hm, hB⟩
      · skip
        obtain rfl := Reg.oper_eq ho rfl
        have e24 : a.eval (.tmp 24) = fnV vn := hkn.eval 4 24 (by kernel_rfl) (by kernel_rfl)
        have g24 := Reg.eval_getD e24
        exact Reg.op_value rfl rfl (by simp only [List.getElem_toArray, List.getElem_cons_zero, List.getElem_cons_succ, execOp, e24]; go_simp) ⟨_, rfl, rfl, hj⟩
    case act =>
      intro k o a w_ hk ho hf hst hkn hj
      obtain rfl : k = 0 := by simp only [List.length_cons, List.length_nil] at hk; omega
      · skip
        obtain rfl := Reg.oper_eq ho rfl
        refine Reg.op_call (f := 14) (args := #[]) (w' := w_) rfl rfl (by simp only [List.getElem_toArray, List.getElem_cons_zero, List.getElem_cons_succ, execOp]; go_simp) ((verbs_any w_).mono ?_)
        rintro e9 w3 ⟨b, rfl, hm, hb3⟩
        exact .inl ⟨_, rfl, _, rfl, trivial, b, Reg.val_put_in hf (by kernel_rfl), hm, Below.trans hj (Below.mono hb3 hj.size)⟩
    case fin =>
      intro a w_ hf hkn hj
      have e21 : Reg.val a 21 = _ := hkn 1 21 (by show _ < _; decide) (by kernel_rfl)
      have e22 : Reg.val a 22 = _ := hkn 2 22 (by show _ < _; decide) (by kernel_rfl)
      have e23 : Reg.val a 23 = _ := hkn 3 23 (by show _ < _; decide) (by kernel_rfl)
      have e24 : Reg.val a 24 = _ := hkn 4 24 (by show _ < _; decide) (by kernel_rfl)
      have e6 : Reg.val a 6 = _ := hkn 5 6 (by show _ < _; decide) (by kernel_rfl)
      rw [Reg.frm_fold hf [20, 21, 22, 23, 24, 6] (by kernel_rfl) (by kernel_rfl)]
      simp only [List.foldl_cons, List.foldl_nil, Act.put, List.setIfInBounds_toArray, List.set_cons_zero, List.set_cons_succ, e21, e22, e23, e24, e6]
      generalize Reg.val a 20 = v20_ at *
      clear hkn hf e21 e22 e23 e24 e6
      obtain ⟨b, _, _, hB⟩ := hj
      have HS9 := Lib.hid (HS2.out.below hB)
      have HB9 : Hid (Below b4 w w_) := HB2.out.trans (Below.mono hB HZ2.out)
      have HBK9 := Lib.hid (blk_below HBK2.out hB)
      have HC9 : Hid (∀ (j : Nat) y, (x :: own)[j]? = some y → w_.cell? ⟨A, j, none⟩ = some (.string ⟨y.toArray⟩)) := fun j y hj => (hB.cell (p := ⟨A, j, none⟩) HX.out.2).trans (HCELL.out j y hj)
      have HA9 : Hid (A < w_.heap.size) := Nat.lt_of_lt_of_le HX.out.2 hB.size
      have HTA9 : Hid (TabA w_ ∧ Tab w_) := by
        have hB9 : Below w.heap.size w w_ := by rw [hb4]; exact HB9.out
        exact ⟨HTA.out.1.below hB9, Tab.below HTA.out.2 hB9⟩
      have HCODE : Hid ((codeF T own).length ≤ 1000000) := by
        have h1 := join_len own
        have h2 := HOWN.out.2.2
        have h3 := HT.out
        show (codeF T own).length ≤ 1000000
        unfold codeF
        simp only [List.length_append, List.length_cons, List.length_nil]
        omega
      clear hB
      rcases HLV.out with rfl | rfl | rfl | rfl | rfl | rfl | rfl | rfl | rfl | rfl
      · have HF : Hid (rr = (toldL 13, T)) := by show rr = _; rw [HRR2.out]; unfold verbF; rw [HVN.out]; rfl
        rw [show fnV 0 = .nilFunc from rfl]
        have hfn : ∀ w : World, (binOp .neq 46 .nilFunc .nilFunc).run Tryz.prog w = .ok (.bool false) w := fun _ => by kernel_rfl
        go_wp2_with fail
        refine (need_no 13 _).mono ?_
        rintro _ w5 ⟨rfl, hw5⟩
        obtain rfl := hw5
        exact lleave_err (k := 13) (by decide) HF.out (Nat.le_of_eq hb4) HNE.out HBK9.out HS9.out (Upd.below (by rw [hb4]; exact HB9.out)) rfl
      · rw [show fnV 23 = .func (.func 23) #[] #[] from rfl]
        have hvb := fun v (hw : WordsR w_ v own) => verb_any x own HS9.out hw (by have := HOWN.out; omega) HCODE.out HT.out (HTA9.out.1) (HTA9.out.2) (by rw [HVN.out]; decide) (by rw [HVN.out]; exact HLV.out)
        rw [HVN.out] at hvb
        obtain ⟨vr, hvr⟩ : ∃ vr, verbF T x own = vr := ⟨_, rfl⟩
        rw [hvr] at hvb
        have HF : Hid (rr = (exOut vr.1, vr.2)) := by show rr = _; rw [HRR2.out, hvr]
        have HER := Lib.hid (fun k (hk : vr.1 = .error k) => verbF_err ((congrArg Prod.fst hvr).trans hk))
        have HVB := Lib.hid hvb
        clear hvb hvr
        have hfn : ∀ w : World, (binOp .neq 46 (.func (.func 23) #[] #[]) .nilFunc).run Tryz.prog w = .ok (.bool true) w := fun _ => by kernel_rfl
        go_wp2_with fail
        refine (need_ok 13 _).mono ?_
        rintro _ w5 ⟨rfl, hw5⟩
        obtain rfl := hw5
        by_cases h1 : n = 1
        · subst h1
          have hown : own = [] := List.eq_nil_of_length_eq_zero (by have h := HN.out; simp only [List.length_cons] at h; omega)
          have HW : Hid (WordsR w_ (.slice (some ⟨A, 0, none⟩) 0 0) own) := ⟨A, 0, 0, by rw [hown]; rfl, by rw [hown]; exact Nat.le_refl _, HA9.out, fun j y hj => by rw [hown] at hj; simp at hj⟩
          clear hown i0 i1
          go_wp2_with fail
          refine (HVB.out _ HW.out).mono ?_
          intro e5 w5 hg
          obtain ⟨vr1, vr2⟩ := vr
          cases vr1 with
          | ok s =>
            obtain ⟨rfl, hs5, hu5⟩ := hg
            have hb5 := (hu5.same b4 (blk_lt HBK9.out) HNE.out).trans HBK9.out
            have k4 := (blk_cell hb5 0).trans rfl
            have z4 := blk_frozen hb5 0
            have HE := Lib.hid (And.intro hb5 (And.intro hs5 hu5))
            clear hb5 hs5 hu5
            go_wp2_with fail
            exact lleave_ok (s := s) (T' := vr2) HF.out (Nat.le_of_eq hb4) HNE.out HE.out.1 HE.out.2.1 (Upd.trans (Upd.below (by rw [hb4]; exact HB9.out)) HE.out.2.2) rfl
          | error k =>
            obtain ⟨rfl, hs5, hu5⟩ := hg
            have hb5 := (hu5.same b4 (blk_lt HBK9.out) HNE.out).trans HBK9.out
            exact lleave_err (HER.out k rfl) HF.out (Nat.le_of_eq hb4) HNE.out hb5 hs5 (Upd.trans (Upd.below (by rw [hb4]; exact HB9.out)) hu5) rfl
        · have h2 : 1 < n := by omega
          have h3 : (1 : Int) ≤ (n : Int) := by omega
          have h4 : (1 : Int) < (n : Int) := by omega
          have hol : own.length = n - 1 := by have h := HN.out; simp only [List.length_cons] at h; omega
          have HW : Hid (WordsR w_ (.slice (some ⟨A, 1, none⟩) (n - 1) (n - 1)) own) := ⟨A, 1, n - 1, by rw [hol], by rw [hol]; exact Nat.le_refl _, HA9.out, fun j y hj => by
            have := HC9.out (j + 1) y (by simpa using hj)
            rw [Nat.add_comm]
            exact this⟩
          clear hol
          go_wp2_with fail
          refine (HVB.out _ HW.out).mono ?_
          intro e5 w5 hg
          obtain ⟨vr1, vr2⟩ := vr
          cases vr1 with
          | ok s =>
            obtain ⟨rfl, hs5, hu5⟩ := hg
            have hb5 := (hu5.same b4 (blk_lt HBK9.out) HNE.out).trans HBK9.out
            have k4 := (blk_cell hb5 0).trans rfl
            have z4 := blk_frozen hb5 0
            have HE := Lib.hid (And.intro hb5 (And.intro hs5 hu5))
            clear hb5 hs5 hu5
            go_wp2_with fail
            exact lleave_ok (s := s) (T' := vr2) HF.out (Nat.le_of_eq hb4) HNE.out HE.out.1 HE.out.2.1 (Upd.trans (Upd.below (by rw [hb4]; exact HB9.out)) HE.out.2.2) rfl
          | error k =>
            obtain ⟨rfl, hs5, hu5⟩ := hg
            have hb5 := (hu5.same b4 (blk_lt HBK9.out) HNE.out).trans HBK9.out
            exact lleave_err (HER.out k rfl) HF.out (Nat.le_of_eq hb4) HNE.out hb5 hs5 (Upd.trans (Upd.below (by rw [hb4]; exact HB9.out)) hu5) rfl
      · rw [show fnV 24 = .func (.func 24) #[] #[] from rfl]
        have hvb := fun v (hw : WordsR w_ v own) => verb_any x own HS9.out hw (by have := HOWN.out; omega) HCODE.out HT.out (HTA9.out.1) (HTA9.out.2) (by rw [HVN.out]; decide) (by rw [HVN.out]; exact HLV.out)
        rw [HVN.out] at hvb
        obtain ⟨vr, hvr⟩ : ∃ vr, verbF T x own = vr := ⟨_, rfl⟩
        rw [hvr] at hvb
        have HF : Hid (rr = (exOut vr.1, vr.2)) := by show rr = _; rw [HRR2.out, hvr]
        have HER := Lib.hid (fun k (hk : vr.1 = .error k) => verbF_err ((congrArg Prod.fst hvr).trans hk))
        have HVB := Lib.hid hvb
        clear hvb hvr
        have hfn : ∀ w : World, (binOp .neq 46 (.func (.func 24) #[] #[]) .nilFunc).run Tryz.prog w = .ok (.bool true) w := fun _ => by kernel_rfl
        go_wp2_with fail
        refine (need_ok 13 _).mono ?_
        rintro _ w5 ⟨rfl, hw5⟩
        obtain rfl := hw5
        by_cases h1 : n = 1
        · subst h1
          have hown : own = [] := List.eq_nil_of_length_eq_zero (by have h := HN.out; simp only [List.length_cons] at h; omega)
          have HW : Hid (WordsR w_ (.slice (some ⟨A, 0, none⟩) 0 0) own) := ⟨A, 0, 0, by rw [hown]; rfl, by rw [hown]; exact Nat.le_refl _, HA9.out, fun j y hj => by rw [hown] at hj; simp at hj⟩
          clear hown i0 i1
          go_wp2_with fail
          refine (HVB.out _ HW.out).mono ?_
          intro e5 w5 hg
          obtain ⟨vr1, vr2⟩ := vr
          cases vr1 with
          | ok s =>
            obtain ⟨rfl, hs5, hu5⟩ := hg
            have hb5 := (hu5.same b4 (blk_lt HBK9.out) HNE.out).trans HBK9.out
            have k4 := (blk_cell hb5 0).trans rfl
            have z4 := blk_frozen hb5 0
            have HE := Lib.hid (And.intro hb5 (And.intro hs5 hu5))
            clear hb5 hs5 hu5
            go_wp2_with fail
            exact lleave_ok (s := s) (T' := vr2) HF.out (Nat.le_of_eq hb4) HNE.out HE.out.1 HE.out.2.1 (Upd.trans (Upd.below (by rw [hb4]; exact HB9.out)) HE.out.2.2) rfl
          | error k =>
            obtain ⟨rfl, hs5, hu5⟩ := hg
            have hb5 := (hu5.same b4 (blk_lt HBK9.out) HNE.out).trans HBK9.out
            exact lleave_err (HER.out k rfl) HF.out (Nat.le_of_eq hb4) HNE.out hb5 hs5 (Upd.trans (Upd.below (by rw [hb4]; exact HB9.out)) hu5) rfl
        · have h2 : 1 < n := by omega
          have h3 : (1 : Int) ≤ (n : Int) := by omega
          have h4 : (1 : Int) < (n : Int) := by omega
          have hol : own.length = n - 1 := by have h := HN.out; simp only [List.length_cons] at h; omega
          have HW : Hid (WordsR w_ (.slice (some ⟨A, 1, none⟩) (n - 1) (n - 1)) own) := ⟨A, 1, n - 1, by rw [hol], by rw [hol]; exact Nat.le_refl _, HA9.out, fun j y hj => by
            have := HC9.out (j + 1) y (by simpa using hj)
            rw [Nat.add_comm]
            exact this⟩
          clear hol
          go_wp2_with fail
          refine (HVB.out _ HW.out).mono ?_
          intro e5 w5 hg
          obtain ⟨vr1, vr2⟩ := vr
          cases vr1 with
          | ok s =>
            obtain ⟨rfl, hs5, hu5⟩ := hg
            have hb5 := (hu5.same b4 (blk_lt HBK9.out) HNE.out).trans HBK9.out
            have k4 := (blk_cell hb5 0).trans rfl
            have z4 := blk_frozen hb5 0
            have HE := Lib.hid (And.intro hb5 (And.intro hs5 hu5))
            clear hb5 hs5 hu5
            go_wp2_with fail
            exact lleave_ok (s := s) (T' := vr2) HF.out (Nat.le_of_eq hb4) HNE.out HE.out.1 HE.out.2.1 (Upd.trans (Upd.below (by rw [hb4]; exact HB9.out)) HE.out.2.2) rfl
          | error k =>
            obtain ⟨rfl, hs5, hu5⟩ := hg
            have hb5 := (hu5.same b4 (blk_lt HBK9.out) HNE.out).trans HBK9.out
            exact lleave_err (HER.out k rfl) HF.out (Nat.le_of_eq hb4) HNE.out hb5 hs5 (Upd.trans (Upd.below (by rw [hb4]; exact HB9.out)) hu5) rfl
      · rw [show fnV 28 = .func (.func 28) #[] #[] from rfl]
        have hvb := fun v (hw : WordsR w_ v own) => verb_any x own HS9.out hw (by have := HOWN.out; omega) HCODE.out HT.out (HTA9.out.1) (HTA9.out.2) (by rw [HVN.out]; decide) (by rw [HVN.out]; exact HLV.out)
        rw [HVN.out] at hvb
        obtain ⟨vr, hvr⟩ : ∃ vr, verbF T x own = vr := ⟨_, rfl⟩
        rw [hvr] at hvb
        have HF : Hid (rr = (exOut vr.1, vr.2)) := by show rr = _; rw [HRR2.out, hvr]
        have HER := Lib.hid (fun k (hk : vr.1 = .error k) => verbF_err ((congrArg Prod.fst hvr).trans hk))
        have HVB := Lib.hid hvb
        clear hvb hvr
        have hfn : ∀ w : World, (binOp .neq 46 (.func (.func 28) #[] #[]) .nilFunc).run Tryz.prog w = .ok (.bool true) w := fun _ => by kernel_rfl
        go_wp2_with fail
        refine (need_ok 13 _).mono ?_
        rintro _ w5 ⟨rfl, hw5⟩
        obtain rfl := hw5
        by_cases h1 : n = 1
        · subst h1
          have hown : own = [] := List.eq_nil_of_length_eq_zero (by have h := HN.out; simp only [List.length_cons] at h; omega)
          have HW : Hid (WordsR w_ (.slice (some ⟨A, 0, none⟩) 0 0) own) := ⟨A, 0, 0, by rw [hown]; rfl, by rw [hown]; exact Nat.le_refl _, HA9.out, fun j y hj => by rw [hown] at hj; simp at hj⟩
          clear hown i0 i1
          go_wp2_with fail
          refine (HVB.out _ HW.out).mono ?_
          intro e5 w5 hg
          obtain ⟨vr1, vr2⟩ := vr
          cases vr1 with
          | ok s =>
            obtain ⟨rfl, hs5, hu5⟩ := hg
            have hb5 := (hu5.same b4 (blk_lt HBK9.out) HNE.out).trans HBK9.out
            have k4 := (blk_cell hb5 0).trans rfl
            have z4 := blk_frozen hb5 0
            have HE := Lib.hid (And.intro hb5 (And.intro hs5 hu5))
            clear hb5 hs5 hu5
            go_wp2_with fail
            exact lleave_ok (s := s) (T' := vr2) HF.out (Nat.le_of_eq hb4) HNE.out HE.out.1 HE.out.2.1 (Upd.trans (Upd.below (by rw [hb4]; exact HB9.out)) HE.out.2.2) rfl
          | error k =>
            obtain ⟨rfl, hs5, hu5⟩ := hg
            have hb5 := (hu5.same b4 (blk_lt HBK9.out) HNE.out).trans HBK9.out
            exact lleave_err (HER.out k rfl) HF.out (Nat.le_of_eq hb4) HNE.out hb5 hs5 (Upd.trans (Upd.below (by rw [hb4]; exact HB9.out)) hu5) rfl
        · have h2 : 1 < n := by omega
          have h3 : (1 : Int) ≤ (n : Int) := by omega
          have h4 : (1 : Int) < (n : Int) := by omega
          have hol : own.length = n - 1 := by have h := HN.out; simp only [List.length_cons] at h; omega
          have HW : Hid (WordsR w_ (.slice (some ⟨A, 1, none⟩) (n - 1) (n - 1)) own) := ⟨A, 1, n - 1, by rw [hol], by rw [hol]; exact Nat.le_refl _, HA9.out, fun j y hj => by
            have := HC9.out (j + 1) y (by simpa using hj)
            rw [Nat.add_comm]
            exact this⟩
          clear hol
          go_wp2_with fail
          refine (HVB.out _ HW.out).mono ?_
          intro e5 w5 hg
          obtain ⟨vr1, vr2⟩ := vr
          cases vr1 with
          | ok s =>
            obtain ⟨rfl, hs5, hu5⟩ := hg
            have hb5 := (hu5.same b4 (blk_lt HBK9.out) HNE.out).trans HBK9.out
            have k4 := (blk_cell hb5 0).trans rfl
            have z4 := blk_frozen hb5 0
            have HE := Lib.hid (And.intro hb5 (And.intro hs5 hu5))
            clear hb5 hs5 hu5
            go_wp2_with fail
            exact lleave_ok (s := s) (T' := vr2) HF.out (Nat.le_of_eq hb4) HNE.out HE.out.1 HE.out.2.1 (Upd.trans (Upd.below (by rw [hb4]; exact HB9.out)) HE.out.2.2) rfl
          | error k =>
            obtain ⟨rfl, hs5, hu5⟩ := hg
            have hb5 := (hu5.same b4 (blk_lt HBK9.out) HNE.out).trans HBK9.out
            exact lleave_err (HER.out k rfl) HF.out (Nat.le_of_eq hb4) HNE.out hb5 hs5 (Upd.trans (Upd.below (by rw [hb4]; exact HB9.out)) hu5) rfl
      · rw [show fnV 29 = .func (.func 29) #[] #[] from rfl]
        have hvb := fun v (hw : WordsR w_ v own) => verb_any x own HS9.out hw (by have := HOWN.out; omega) HCODE.out HT.out (HTA9.out.1) (HTA9.out.2) (by rw [HVN.out]; decide) (by rw [HVN.out]; exact HLV.out)
        rw [HVN.out] at hvb
        obtain ⟨vr, hvr⟩ : ∃ vr, verbF T x own = vr := ⟨_, rfl⟩
        rw [hvr] at hvb
        have HF : Hid (rr = (exOut vr.1, vr.2)) := by show rr = _; rw [HRR2.out, hvr]
        have HER := Lib.hid (fun k (hk : vr.1 = .error k) => verbF_err ((congrArg Prod.fst hvr).trans hk))
        have HVB := Lib.hid hvb
        clear hvb hvr
        have hfn : ∀ w : World, (binOp .neq 46 (.func (.func 29) #[] #[]) .nilFunc).run Tryz.prog w = .ok (.bool true) w := fun _ => by kernel_rfl
        go_wp2_with fail
        refine (need_ok 13 _).mono ?_
        rintro _ w5 ⟨rfl, hw5⟩
        obtain rfl := hw5
        by_cases h1 : n = 1
        · subst h1
          have hown : own = [] := List.eq_nil_of_length_eq_zero (by have h := HN.out; simp only [List.length_cons] at h; omega)
          have HW : Hid (WordsR w_ (.slice (some ⟨A, 0, none⟩) 0 0) own) := ⟨A, 0, 0, by rw [hown]; rfl, by rw [hown]; exact Nat.le_refl _, HA9.out, fun j y hj => by rw [hown] at hj; simp at hj⟩
          clear hown i0 i1
          go_wp2_with fail
          refine (HVB.out _ HW.out).mono ?_
          intro e5 w5 hg
          obtain ⟨vr1, vr2⟩ := vr
          cases vr1 with
          | ok s =>
            obtain ⟨rfl, hs5, hu5⟩ := hg
            have hb5 := (hu5.same b4 (blk_lt HBK9.out) HNE.out).trans HBK9.out
            have k4 := (blk_cell hb5 0).trans rfl
            have z4 := blk_frozen hb5 0
            have HE := Lib.hid (And.intro hb5 (And.intro hs5 hu5))
            clear hb5 hs5 hu5
            go_wp2_with fail
            exact lleave_ok (s := s) (T' := vr2) HF.out (Nat.le_of_eq hb4) HNE.out HE.out.1 HE.out.2.1 (Upd.trans (Upd.below (by rw [hb4]; exact HB9.out)) HE.out.2.2) rfl
          | error k =>
            obtain ⟨rfl, hs5, hu5⟩ := hg
            have hb5 := (hu5.same b4 (blk_lt HBK9.out) HNE.out).trans HBK9.out
            exact lleave_err (HER.out k rfl) HF.out (Nat.le_of_eq hb4) HNE.out hb5 hs5 (Upd.trans (Upd.below (by rw [hb4]; exact HB9.out)) hu5) rfl
        · have h2 : 1 < n := by omega
          have h3 : (1 : Int) ≤ (n : Int) := by omega
          have h4 : (1 : Int) < (n : Int) := by omega
          have hol : own.length = n - 1 := by have h := HN.out; simp only [List.length_cons] at h; omega
          have HW : Hid (WordsR w_ (.slice (some ⟨A, 1, none⟩) (n - 1) (n - 1)) own) := ⟨A, 1, n - 1, by rw [hol], by rw [hol]; exact Nat.le_refl _, HA9.out, fun j y hj => by
            have := HC9.out (j + 1) y (by simpa using hj)
            rw [Nat.add_comm]
            exact this⟩
          clear hol
          go_wp2_with fail
          refine (HVB.out _ HW.out).mono ?_
          intro e5 w5 hg
          obtain ⟨vr1, vr2⟩ := vr
          cases vr1 with
          | ok s =>
            obtain ⟨rfl, hs5, hu5⟩ := hg
            have hb5 := (hu5.same b4 (blk_lt HBK9.out) HNE.out).trans HBK9.out
            have k4 := (blk_cell hb5 0).trans rfl
            have z4 := blk_frozen hb5 0
            have HE := Lib.hid (And.intro hb5 (And.intro hs5 hu5))
            clear hb5 hs5 hu5
            go_wp2_with fail
            exact lleave_ok (s := s) (T' := vr2) HF.out (Nat.le_of_eq hb4) HNE.out HE.out.1 HE.out.2.1 (Upd.trans (Upd.below (by rw [hb4]; exact HB9.out)) HE.out.2.2) rfl
          | error k =>
            obtain ⟨rfl, hs5, hu5⟩ := hg
            have hb5 := (hu5.same b4 (blk_lt HBK9.out) HNE.out).trans HBK9.out
            exact lleave_err (HER.out k rfl) HF.out (Nat.le_of_eq hb4) HNE.out hb5 hs5 (Upd.trans (Upd.below (by rw [hb4]; exact HB9.out)) hu5) rfl
      · rw [show fnV 30 = .func (.func 30) #[] #[] from rfl]
        have hvb := fun v (hw : WordsR w_ v own) => verb_any x own HS9.out hw (by have := HOWN.out; omega) HCODE.out HT.out (HTA9.out.1) (HTA9.out.2) (by rw [HVN.out]; decide) (by rw [HVN.out]; exact HLV.out)
        rw [HVN.out] at hvb
        obtain ⟨vr, hvr⟩ : ∃ vr, verbF T x own = vr := ⟨_, rfl⟩
        rw [hvr] at hvb
        have HF : Hid (rr = (exOut vr.1, vr.2)) := by show rr = _; rw [HRR2.out, hvr]
        have HER := Lib.hid (fun k (hk : vr.1 = .error k) => verbF_err ((congrArg Prod.fst hvr).trans hk))
        have HVB := Lib.hid hvb
        clear hvb hvr
        have hfn : ∀ w : World, (binOp .neq 46 (.func (.func 30) #[] #[]) .nilFunc).run Tryz.prog w = .ok (.bool true) w := fun _ => by kernel_rfl
        go_wp2_with fail
        refine (need_ok 13 _).mono ?_
        rintro _ w5 ⟨rfl, hw5⟩
        obtain rfl := hw5
        by_cases h1 : n = 1
        · subst h1
          have hown : own = [] := List.eq_nil_of_length_eq_zero (by have h := HN.out; simp only [List.length_cons] at h; omega)
          have HW : Hid (WordsR w_ (.slice (some ⟨A, 0, none⟩) 0 0) own) := ⟨A, 0, 0, by rw [hown]; rfl, by rw [hown]; exact Nat.le_refl _, HA9.out, fun j y hj => by rw [hown] at hj; simp at hj⟩
          clear hown i0 i1
          go_wp2_with fail
          refine (HVB.out _ HW.out).mono ?_
          intro e5 w5 hg
          obtain ⟨vr1, vr2⟩ := vr
          cases vr1 with
          | ok s =>
            obtain ⟨rfl, hs5, hu5⟩ := hg
            have hb5 := (hu5.same b4 (blk_lt HBK9.out) HNE.out).trans HBK9.out
            have k4 := (blk_cell hb5 0).trans rfl
            have z4 := blk_frozen hb5 0
            have HE := Lib.hid (And.intro hb5 (And.intro hs5 hu5))
            clear hb5 hs5 hu5
            go_wp2_with fail
            exact lleave_ok (s := s) (T' := vr2) HF.out (Nat.le_of_eq hb4) HNE.out HE.out.1 HE.out.2.1 (Upd.trans (Upd.below (by rw [hb4]; exact HB9.out)) HE.out.2.2) rfl
          | error k =>
            obtain ⟨rfl, hs5, hu5⟩ := hg
            have hb5 := (hu5.same b4 (blk_lt HBK9.out) HNE.out).trans HBK9.out
            exact lleave_err (HER.out k rfl) HF.out (Nat.le_of_eq hb4) HNE.out hb5 hs5 (Upd.trans (Upd.below (by rw [hb4]; exact HB9.out)) hu5) rfl
        · have h2 : 1 < n := by omega
          have h3 : (1 : Int) ≤ (n : Int) := by omega
          have h4 : (1 : Int) < (n : Int) := by omega
          have hol : own.length = n - 1 := by have h := HN.out; simp only [List.length_cons] at h; omega
          have HW : Hid (WordsR w_ (.slice (some ⟨A, 1, none⟩) (n - 1) (n - 1)) own) := ⟨A, 1, n - 1, by rw [hol], by rw [hol]; exact Nat.le_refl _, HA9.out, fun j y hj => by
            have := HC9.out (j + 1) y (by simpa using hj)
            rw [Nat.add_comm]
            exact this⟩
          clear hol
          go_wp2_with fail
          refine (HVB.out _ HW.out).mono ?_
          intro e5 w5 hg
          obtain ⟨vr1, vr2⟩ := vr
          cases vr1 with
          | ok s =>
            obtain ⟨rfl, hs5, hu5⟩ := hg
            have hb5 := (hu5.same b4 (blk_lt HBK9.out) HNE.out).trans HBK9.out
            have k4 := (blk_cell hb5 0).trans rfl
            have z4 := blk_frozen hb5 0
            have HE := Lib.hid (And.intro hb5 (And.intro hs5 hu5))
            clear hb5 hs5 hu5
            go_wp2_with fail
            exact lleave_ok (s := s) (T' := vr2) HF.out (Nat.le_of_eq hb4) HNE.out HE.out.1 HE.out.2.1 (Upd.trans (Upd.below (by rw [hb4]; exact HB9.out)) HE.out.2.2) rfl
          | error k =>
            obtain ⟨rfl, hs5, hu5⟩ := hg
            have hb5 := (hu5.same b4 (blk_lt HBK9.out) HNE.out).trans HBK9.out
            exact lleave_err (HER.out k rfl) HF.out (Nat.le_of_eq hb4) HNE.out hb5 hs5 (Upd.trans (Upd.below (by rw [hb4]; exact HB9.out)) hu5) rfl
      · rw [show fnV 31 = .func (.func 31) #[] #[] from rfl]
        have hvb := fun v (hw : WordsR w_ v own) => verb_any x own HS9.out hw (by have := HOWN.out; omega) HCODE.out HT.out (HTA9.out.1) (HTA9.out.2) (by rw [HVN.out]; decide) (by rw [HVN.out]; exact HLV.out)
        rw [HVN.out] at hvb
        obtain ⟨vr, hvr⟩ : ∃ vr, verbF T x own = vr := ⟨_, rfl⟩
        rw [hvr] at hvb
        have HF : Hid (rr = (exOut vr.1, vr.2)) := by show rr = _; rw [HRR2.out, hvr]
        have HER := Lib.hid (fun k (hk : vr.1 = .error k) => verbF_err ((congrArg Prod.fst hvr).trans hk))
        have HVB := Lib.hid hvb
        clear hvb hvr
        have hfn : ∀ w : World, (binOp .neq 46 (.func (.func 31) #[] #[]) .nilFunc).run Tryz.prog w = .ok (.bool true) w := fun _ => by kernel_rfl
        go_wp2_with fail
        refine (need_ok 13 _).mono ?_
        rintro _ w5 ⟨rfl, hw5⟩
        obtain rfl := hw5
        by_cases h1 : n = 1
        · subst h1
          have hown : own = [] := List.eq_nil_of_length_eq_zero (by have h := HN.out; simp only [List.length_cons] at h; omega)
          have HW : Hid (WordsR w_ (.slice (some ⟨A, 0, none⟩) 0 0) own) := ⟨A, 0, 0, by rw [hown]; rfl, by rw [hown]; exact Nat.le_refl _, HA9.out, fun j y hj => by rw [hown] at hj; simp at hj⟩
          clear hown i0 i1
          go_wp2_with fail
          refine (HVB.out _ HW.out).mono ?_
          intro e5 w5 hg
          obtain ⟨vr1, vr2⟩ := vr
          cases vr1 with
          | ok s =>
            obtain ⟨rfl, hs5, hu5⟩ := hg
            have hb5 := (hu5.same b4 (blk_lt HBK9.out) HNE.out).trans HBK9.out
            have k4 := (blk_cell hb5 0).trans rfl
            have z4 := blk_frozen hb5 0
            have HE := Lib.hid (And.intro hb5 (And.intro hs5 hu5))
            clear hb5 hs5 hu5
            go_wp2_with fail
            exact lleave_ok (s := s) (T' := vr2) HF.out (Nat.le_of_eq hb4) HNE.out HE.out.1 HE.out.2.1 (Upd.trans (Upd.below (by rw [hb4]; exact HB9.out)) HE.out.2.2) rfl
          | error k =>
            obtain ⟨rfl, hs5, hu5⟩ := hg
            have hb5 := (hu5.same b4 (blk_lt HBK9.out) HNE.out).trans HBK9.out
            exact lleave_err (HER.out k rfl) HF.out (Nat.le_of_eq hb4) HNE.out hb5 hs5 (Upd.trans (Upd.below (by rw [hb4]; exact HB9.out)) hu5) rfl
        · have h2 : 1 < n := by omega
          have h3 : (1 : Int) ≤ (n : Int) := by omega
          have h4 : (1 : Int) < (n : Int) := by omega
          have hol : own.length = n - 1 := by have h := HN.out; simp only [List.length_cons] at h; omega
          have HW : Hid (WordsR w_ (.slice (some ⟨A, 1, none⟩) (n - 1) (n - 1)) own) := ⟨A, 1, n - 1, by rw [hol], by rw [hol]; exact Nat.le_refl _, HA9.out, fun j y hj => by
            have := HC9.out (j + 1) y (by simpa using hj)
            rw [Nat.add_comm]
            exact this⟩
          clear hol
          go_wp2_with fail
          refine (HVB.out _ HW.out).mono ?_
          intro e5 w5 hg
          obtain ⟨vr1, vr2⟩ := vr
          cases vr1 with
          | ok s =>
            obtain ⟨rfl, hs5, hu5⟩ := hg
            have hb5 := (hu5.same b4 (blk_lt HBK9.out) HNE.out).trans HBK9.out
            have k4 := (blk_cell hb5 0).trans rfl
            have z4 := blk_frozen hb5 0
            have HE := Lib.hid (And.intro hb5 (And.intro hs5 hu5))
            clear hb5 hs5 hu5
            go_wp2_with fail
            exact lleave_ok (s := s) (T' := vr2) HF.out (Nat.le_of_eq hb4) HNE.out HE.out.1 HE.out.2.1 (Upd.trans (Upd.below (by rw [hb4]; exact HB9.out)) HE.out.2.2) rfl
          | error k =>
            obtain ⟨rfl, hs5, hu5⟩ := hg
            have hb5 := (hu5.same b4 (blk_lt HBK9.out) HNE.out).trans HBK9.out
            exact lleave_err (HER.out k rfl) HF.out (Nat.le_of_eq hb4) HNE.out hb5 hs5 (Upd.trans (Upd.below (by rw [hb4]; exact HB9.out)) hu5) rfl
      · rw [show fnV 32 = .func (.func 32) #[] #[] from rfl]
        have hvb := fun v (hw : WordsR w_ v own) => verb_any x own HS9.out hw (by have := HOWN.out; omega) HCODE.out HT.out (HTA9.out.1) (HTA9.out.2) (by rw [HVN.out]; decide) (by rw [HVN.out]; exact HLV.out)
        rw [HVN.out] at hvb
        obtain ⟨vr, hvr⟩ : ∃ vr, verbF T x own = vr := ⟨_, rfl⟩
        rw [hvr] at hvb
        have HF : Hid (rr = (exOut vr.1, vr.2)) := by show rr = _; rw [HRR2.out, hvr]
        have HER := Lib.hid (fun k (hk : vr.1 = .error k) => verbF_err ((congrArg Prod.fst hvr).trans hk))
        have HVB := Lib.hid hvb
        clear hvb hvr
        have hfn : ∀ w : World, (binOp .neq 46 (.func (.func 32) #[] #[]) .nilFunc).run Tryz.prog w = .ok (.bool true) w := fun _ => by kernel_rfl
        go_wp2_with fail
        refine (need_ok 13 _).mono ?_
        rintro _ w5 ⟨rfl, hw5⟩
        obtain rfl := hw5
        by_cases h1 : n = 1
        · subst h1
          have hown : own = [] := List.eq_nil_of_length_eq_zero (by have h := HN.out; simp only [List.length_cons] at h; omega)
          have HW : Hid (WordsR w_ (.slice (some ⟨A, 0, none⟩) 0 0) own) := ⟨A, 0, 0, by rw [hown]; rfl, by rw [hown]; exact Nat.le_refl _, HA9.out, fun j y hj => by rw [hown] at hj; simp at hj⟩
          clear hown i0 i1
          go_wp2_with fail
          refine (HVB.out _ HW.out).mono ?_
          intro e5 w5 hg
          obtain ⟨vr1, vr2⟩ := vr
          cases vr1 with
          | ok s =>
            obtain ⟨rfl, hs5, hu5⟩ := hg
            have hb5 := (hu5.same b4 (blk_lt HBK9.out) HNE.out).trans HBK9.out
            have k4 := (blk_cell hb5 0).trans rfl
            have z4 := blk_frozen hb5 0
            have HE := Lib.hid (And.intro hb5 (And.intro hs5 hu5))
            clear hb5 hs5 hu5
            go_wp2_with fail
            exact lleave_ok (s := s) (T' := vr2) HF.out (Nat.le_of_eq hb4) HNE.out HE.out.1 HE.out.2.1 (Upd.trans (Upd.below (by rw [hb4]; exact HB9.out)) HE.out.2.2) rfl
          | error k =>
            obtain ⟨rfl, hs5, hu5⟩ := hg
            have hb5 := (hu5.same b4 (blk_lt HBK9.out) HNE.out).trans HBK9.out
            exact lleave_err (HER.out k rfl) HF.out (Nat.le_of_eq hb4) HNE.out hb5 hs5 (Upd.trans (Upd.below (by rw [hb4]; exact HB9.out)) hu5) rfl
        · have h2 : 1 < n := by omega
          have h3 : (1 : Int) ≤ (n : Int) := by omega
          have h4 : (1 : Int) < (n : Int) := by omega
          have hol : own.length = n - 1 := by have h := HN.out; simp only [List.length_cons] at h; omega
          have HW : Hid (WordsR w_ (.slice (some ⟨A, 1, none⟩) (n - 1) (n - 1)) own) := ⟨A, 1, n - 1, by rw [hol], by rw [hol]; exact Nat.le_refl _, HA9.out, fun j y hj => by
            have := HC9.out (j + 1) y (by simpa using hj)
            rw [Nat.add_comm]
            exact this⟩
          clear hol
          go_wp2_with fail
          refine (HVB.out _ HW.out).mono ?_
          intro e5 w5 hg
          obtain ⟨vr1, vr2⟩ := vr
          cases vr1 with
          | ok s =>
            obtain ⟨rfl, hs5, hu5⟩ := hg
            have hb5 := (hu5.same b4 (blk_lt HBK9.out) HNE.out).trans HBK9.out
            have k4 := (blk_cell hb5 0).trans rfl
            have z4 := blk_frozen hb5 0
            have HE := Lib.hid (And.intro hb5 (And.intro hs5 hu5))
            clear hb5 hs5 hu5
            go_wp2_with fail
            exact lleave_ok (s := s) (T' := vr2) HF.out (Nat.le_of_eq hb4) HNE.out HE.out.1 HE.out.2.1 (Upd.trans (Upd.below (by rw [hb4]; exact HB9.out)) HE.out.2.2) rfl
          | error k =>
            obtain ⟨rfl, hs5, hu5⟩ := hg
            have hb5 := (hu5.same b4 (blk_lt HBK9.out) HNE.out).trans HBK9.out
            exact lleave_err (HER.out k rfl) HF.out (Nat.le_of_eq hb4) HNE.out hb5 hs5 (Upd.trans (Upd.below (by rw [hb4]; exact HB9.out)) hu5) rfl
      · rw [show fnV 33 = .func (.func 33) #[] #[] from rfl]
        have hvb := fun v (hw : WordsR w_ v own) => verb_any x own HS9.out hw (by have := HOWN.out; omega) HCODE.out HT.out (HTA9.out.1) (HTA9.out.2) (by rw [HVN.out]; decide) (by rw [HVN.out]; exact HLV.out)
        rw [HVN.out] at hvb
        obtain ⟨vr, hvr⟩ : ∃ vr, verbF T x own = vr := ⟨_, rfl⟩
        rw [hvr] at hvb
        have HF : Hid (rr = (exOut vr.1, vr.2)) := by show rr = _; rw [HRR2.out, hvr]
        have HER := Lib.hid (fun k (hk : vr.1 = .error k) => verbF_err ((congrArg Prod.fst hvr).trans hk))
        have HVB := Lib.hid hvb
        clear hvb hvr
        have hfn : ∀ w : World, (binOp .neq 46 (.func (.func 33) #[] #[]) .nilFunc).run Tryz.prog w = .ok (.bool true) w := fun _ => by kernel_rfl
        go_wp2_with fail
        refine (need_ok 13 _).mono ?_
        rintro _ w5 ⟨rfl, hw5⟩
        obtain rfl := hw5
        by_cases h1 : n = 1
        · subst h1
          have hown : own = [] := List.eq_nil_of_length_eq_zero (by have h := HN.out; simp only [List.length_cons] at h; omega)
          have HW : Hid (WordsR w_ (.slice (some ⟨A, 0, none⟩) 0 0) own) := ⟨A, 0, 0, by rw [hown]; rfl, by rw [hown]; exact Nat.le_refl _, HA9.out, fun j y hj => by rw [hown] at hj; simp at hj⟩
          clear hown i0 i1
          go_wp2_with fail
          refine (HVB.out _ HW.out).mono ?_
          intro e5 w5 hg
          obtain ⟨vr1, vr2⟩ := vr
          cases vr1 with
          | ok s =>
            obtain ⟨rfl, hs5, hu5⟩ := hg
            have hb5 := (hu5.same b4 (blk_lt HBK9.out) HNE.out).trans HBK9.out
            have k4 := (blk_cell hb5 0).trans rfl
            have z4 := blk_frozen hb5 0
            have HE := Lib.hid (And.intro hb5 (And.intro hs5 hu5))
            clear hb5 hs5 hu5
            go_wp2_with fail
            exact lleave_ok (s := s) (T' := vr2) HF.out (Nat.le_of_eq hb4) HNE.out HE.out.1 HE.out.2.1 (Upd.trans (Upd.below (by rw [hb4]; exact HB9.out)) HE.out.2.2) rfl
          | error k =>
            obtain ⟨rfl, hs5, hu5⟩ := hg
            have hb5 := (hu5.same b4 (blk_lt HBK9.out) HNE.out).trans HBK9.out
            exact lleave_err (HER.out k rfl) HF.out (Nat.le_of_eq hb4) HNE.out hb5 hs5 (Upd.trans (Upd.below (by rw [hb4]; exact HB9.out)) hu5) rfl
        · have h2 : 1 < n := by omega
          have h3 : (1 : Int) ≤ (n : Int) := by omega
          have h4 : (1 : Int) < (n : Int) := by omega
          have hol : own.length = n - 1 := by have h := HN.out; simp only [List.length_cons] at h; omega
          have HW : Hid (WordsR w_ (.slice (some ⟨A, 1, none⟩) (n - 1) (n - 1)) own) := ⟨A, 1, n - 1, by rw [hol], by rw [hol]; exact Nat.le_refl _, HA9.out, fun j y hj => by
            have := HC9.out (j + 1) y (by simpa using hj)
            rw [Nat.add_comm]
            exact this⟩
          clear hol
          go_wp2_with fail
          refine (HVB.out _ HW.out).mono ?_
          intro e5 w5 hg
          obtain ⟨vr1, vr2⟩ := vr
          cases vr1 with
          | ok s =>
            obtain ⟨rfl, hs5, hu5⟩ := hg
            have hb5 := (hu5.same b4 (blk_lt HBK9.out) HNE.out).trans HBK9.out
            have k4 := (blk_cell hb5 0).trans rfl
            have z4 := blk_frozen hb5 0
            have HE := Lib.hid (And.intro hb5 (And.intro hs5 hu5))
            clear hb5 hs5 hu5
            go_wp2_with fail
            exact lleave_ok (s := s) (T' := vr2) HF.out (Nat.le_of_eq hb4) HNE.out HE.out.1 HE.out.2.1 (Upd.trans (Upd.below (by rw [hb4]; exact HB9.out)) HE.out.2.2) rfl
          | error k =>
            obtain ⟨rfl, hs5, hu5⟩ := hg
            have hb5 := (hu5.same b4 (blk_lt HBK9.out) HNE.out).trans HBK9.out
            exact lleave_err (HER.out k rfl) HF.out (Nat.le_of_eq hb4) HNE.out hb5 hs5 (Upd.trans (Upd.below (by rw [hb4]; exact HB9.out)) hu5) rfl
      · rw [show fnV 34 = .func (.func 34) #[] #[] from rfl]
        have hvb := fun v (hw : WordsR w_ v own) => verb_any x own HS9.out hw (by have := HOWN.out; omega) HCODE.out HT.out (HTA9.out.1) (HTA9.out.2) (by rw [HVN.out]; decide) (by rw [HVN.out]; exact HLV.out)
        rw [HVN.out] at hvb
        obtain ⟨vr, hvr⟩ : ∃ vr, verbF T x own = vr := ⟨_, rfl⟩
        rw [hvr] at hvb
        have HF : Hid (rr = (exOut vr.1, vr.2)) := by show rr = _; rw [HRR2.out, hvr]
        have HER := Lib.hid (fun k (hk : vr.1 = .error k) => verbF_err ((congrArg Prod.fst hvr).trans hk))
        have HVB := Lib.hid hvb
        clear hvb hvr
        have hfn : ∀ w : World, (binOp .neq 46 (.func (.func 34) #[] #[]) .nilFunc).run Tryz.prog w = .ok (.bool true) w := fun _ => by kernel_rfl
        go_wp2_with fail
        refine (need_ok 13 _).mono ?_
        rintro _ w5 ⟨rfl, hw5⟩
        obtain rfl := hw5
        by_cases h1 : n = 1
        · subst h1
          have hown : own = [] := List.eq_nil_of_length_eq_zero (by have h := HN.out; simp only [List.length_cons] at h; omega)
          have HW : Hid (WordsR w_ (.slice (some ⟨A, 0, none⟩) 0 0) own) := ⟨A, 0, 0, by rw [hown]; rfl, by rw [hown]; exact Nat.le_refl _, HA9.out, fun j y hj => by rw [hown] at hj; simp at hj⟩
          clear hown i0 i1
          go_wp2_with fail
          refine (HVB.out _ HW.out).mono ?_
          intro e5 w5 hg
          obtain ⟨vr1, vr2⟩ := vr
          cases vr1 with
          | ok s =>
            obtain ⟨rfl, hs5, hu5⟩ := hg
            have hb5 := (hu5.same b4 (blk_lt HBK9.out) HNE.out).trans HBK9.out
            have k4 := (blk_cell hb5 0).trans rfl
            have z4 := blk_frozen hb5 0
            have HE := Lib.hid (And.intro hb5 (And.intro hs5 hu5))
            clear hb5 hs5 hu5
            go_wp2_with fail
            exact lleave_ok (s := s) (T' := vr2) HF.out (Nat.le_of_eq hb4) HNE.out HE.out.1 HE.out.2.1 (Upd.trans (Upd.below (by rw [hb4]; exact HB9.out)) HE.out.2.2) rfl
          | error k =>
            obtain ⟨rfl, hs5, hu5⟩ := hg
            have hb5 := (hu5.same b4 (blk_lt HBK9.out) HNE.out).trans HBK9.out
            exact lleave_err (HER.out k rfl) HF.out (Nat.le_of_eq hb4) HNE.out hb5 hs5 (Upd.trans (Upd.below (by rw [hb4]; exact HB9.out)) hu5) rfl
        · have h2 : 1 < n := by omega
          have h3 : (1 : Int) ≤ (n : Int) := by omega
          have h4 : (1 : Int) < (n : Int) := by omega
          have hol : own.length = n - 1 := by have h := HN.out; simp only [List.length_cons] at h; omega
          have HW : Hid (WordsR w_ (.slice (some ⟨A, 1, none⟩) (n - 1) (n - 1)) own) := ⟨A, 1, n - 1, by rw [hol], by rw [hol]; exact Nat.le_refl _, HA9.out, fun j y hj => by
            have := HC9.out (j + 1) y (by simpa using hj)
            rw [Nat.add_comm]
            exact this⟩
          clear hol
          go_wp2_with fail
          refine (HVB.out _ HW.out).mono ?_
          intro e5 w5 hg
          obtain ⟨vr1, vr2⟩ := vr
          cases vr1 with
          | ok s =>
            obtain ⟨rfl, hs5, hu5⟩ := hg
            have hb5 := (hu5.same b4 (blk_lt HBK9.out) HNE.out).trans HBK9.out
            have k4 := (blk_cell hb5 0).trans rfl
            have z4 := blk_frozen hb5 0
            have HE := Lib.hid (And.intro hb5 (And.intro hs5 hu5))
            clear hb5 hs5 hu5
            go_wp2_with fail
            exact lleave_ok (s := s) (T' := vr2) HF.out (Nat.le_of_eq hb4) HNE.out HE.out.1 HE.out.2.1 (Upd.trans (Upd.below (by rw [hb4]; exact HB9.out)) HE.out.2.2) rfl
          | error k =>
            obtain ⟨rfl, hs5, hu5⟩ := hg
            have hb5 := (hu5.same b4 (blk_lt HBK9.out) HNE.out).trans HBK9.out
            exact lleave_err (HER.out k rfl) HF.out (Nat.le_of_eq hb4) HNE.out hb5 hs5 (Upd.trans (Upd.below (by rw [hb4]; exact HB9.out)) hu5) rfl
end Go.Proofs.YtbiajfkencamiaaGreatDoor.SH
