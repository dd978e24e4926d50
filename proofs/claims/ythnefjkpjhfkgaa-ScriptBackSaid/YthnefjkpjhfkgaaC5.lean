/- script.Write at any row of acts: the bytes, or the first error. -/
import Derived.Test.YthnefjkpjhfkgaaC4
namespace Go.Proofs.Ythnefjkpjhfkgaa.Core
open Go.RowKit Go.Proofs.YthnefjkpjhfkgaaW.PrintWords Go.Proofs.YthnefjkpjhfkgaaW.PrintMore Go.Proofs.Ythnefjkpjhfkgaa.PScriptWrites
set_option linter.unusedVariables false
set_option linter.unusedSimpArgs false

/-- The first error of a row of acts; 0: none. -/
def errL : List S47 → Int
  | [] => 0
  | x :: l => if errOf x = 0 then errL l else errOf x
def bytL (l : List S47) : List Int := l.flatMap byts
/-- What an act may be, here. -/
structure Fine (x : S47) : Prop where
  w1 : -9223372036854775808 ≤ x.f1
  w2 : -9223372036854775808 ≤ x.f2
  w3 : -9223372036854775808 ≤ x.f3
  l4 : x.f4.length ≤ 60000
  l5 : x.f5.length ≤ 1000000

/-- How Write stands ahead of a round: the two variables, the bytes so far. -/
structure Wv (w W : World) (v : Value) (l : List Int) : Prop where
  row : Kd.R (Kd.int .u8) 5 W w.heap.size (fun k => w.heap.size + 2 ≤ k) v l
  below : Below w.heap.size w W
  out : W.heap[w.heap.size]? = some (.cells #[v] 24 (0, 0))
  err : W.heap[w.heap.size + 1]? = some (.cells #[.int .i64 0] 25 (0, 0))

theorem cell_of_blk {W : World} {b : Nat} {cs : Array Value} {t : TypeId} (h : W.heap[b]? = some (.cells cs t (0, 0))) (j : Nat) {u : Value} (hu : cs[j]? = some u) : W.cell? ⟨b, j, none⟩ = some u := by
  simp only [World.cell?, h]
  exact hu
theorem frozen_of_blk {W : World} {b : Nat} {cs : Array Value} {t : TypeId} (h : W.heap[b]? = some (.cells cs t (0, 0))) (j : Nat) : W.frozen? ⟨b, j, none⟩ = false := by
  simp only [World.frozen?, h]
  simp
theorem Wv.start (w : World) : Wv w ((w.alloc (.cells #[.slice none 0 0] 24)).alloc (.cells #[.int .i64 0] 25)) (.slice none 0 0) [] where
  row := Kd.R_nil _ _ _ _ _
  below := ((Below.refl _ _).alloc (Nat.le_refl _) _).alloc (by simp) _
  out := by rw [Below.heap_alloc _ _ _ (by simp)]; exact heap_alloc_new w _
  err := by have := heap_alloc_new (w.alloc (.cells #[.slice none 0 0] 24)) (.cells #[.int .i64 0] 25); simpa using this

theorem blk_set {W : World} {b : Nat} {v : Value} {t : TypeId} (h : W.heap[b]? = some (.cells #[v] t (0, 0))) (u : Value) : (W.setCell ⟨b, 0, none⟩ u).heap[b]? = some (.cells #[u] t (0, 0)) := by
  simp [World.setCell, Array.getElem?_modify, h]
theorem errL_snoc {l : List S47} {x : S47} (h : errL l = 0) (hx : errOf x = 0) : errL (l ++ [x]) = 0 := by
  induction l with
  | nil => simp [errL, hx]
  | cons y l ih =>
    simp only [errL, List.cons_append] at h ⊢
    by_cases hy : errOf y = 0
    · rw [if_pos hy] at h ⊢; exact ih h
    · rw [if_neg hy] at h; exact absurd h hy
theorem errL_at : ∀ {l : List S47} {j : Nat} {x : S47}, l[j]? = some x → errL (l.take j) = 0 → errOf x ≠ 0 → errL l = errOf x := by
  intro l
  induction l with
  | nil => intro j x h; simp at h
  | cons y l ih =>
    intro j x h h0 hx
    cases j with
    | zero =>
      obtain rfl : y = x := by simpa using h
      simp [errL, hx]
    | succ j =>
      simp only [List.take_succ_cons, errL] at h0 ⊢
      by_cases hy : errOf y = 0
      · rw [if_pos hy] at h0 ⊢; exact ih (by simpa using h) h0 hx
      · rw [if_neg hy] at h0; exact absurd h0 hy
theorem errL_mem {l : List S47} (h : errL l = 0) : ∀ x ∈ l, errOf x = 0 := by
  induction l with
  | nil => intro x hx; cases hx
  | cons y l ih =>
    intro x hx
    simp only [errL] at h
    by_cases hy : errOf y = 0
    · rw [if_pos hy] at h
      rcases List.mem_cons.1 hx with rfl | hx
      · exact hy
      · exact ih h x hx
    · rw [if_neg hy] at h; exact absurd h hy
theorem byts_len {x : S47} (hx : errOf x = 0) (hf : Fine x) : (byts x).length ≤ 62100 := by
  have h4 := hf.l4
  unfold errOf at hx
  split at hx
  · split at hx
    · rename_i _ hfit
      unfold fits at hfit
      unfold byts
      by_cases h1 : x.f0 = 1
      · simp [h1, le_len]
      by_cases h2 : x.f0 = 2
      · simp [h2] at hfit
        have := fm_len x.f5
        simp [h2, le_len] at this ⊢
        omega
      by_cases h3 : x.f0 = 3 ∨ x.f0 = 4
      · simp [h1, h2, h3, le_len]
      by_cases h7 : x.f0 = 7
      · simp [h1, h2, h3, h7, le_len]
      · simp [h1, h2, h3, h7]
    · cases hx
  · cases hx
theorem bytL_len : ∀ {l : List S47}, (∀ x ∈ l, errOf x = 0) → (∀ x ∈ l, Fine x) → (bytL l).length ≤ 62100 * l.length := by
  intro l
  induction l with
  | nil => intro _ _; simp [bytL]
  | cons x l ih =>
    intro h1 h2
    have a := ih (fun y hy => h1 y (by simp [hy])) (fun y hy => h2 y (by simp [hy]))
    have b := byts_len (h1 x (by simp)) (h2 x (by simp))
    unfold bytL at a ⊢
    simp only [List.flatMap_cons, List.length_append, List.length_cons]
    omega
def bodyOf (w : World) (acts : List S47) (e : Ending) (w' : World) : Prop :=
  (errL acts = 0 ∧ ∃ v, e = .returned (.tuple #[v, .int .i64 0]) ∧ Kd.R (Kd.int .u8) 5 w' w.heap.size (fun _ => True) v (bytL acts) ∧ Below w.heap.size w w') ∨
  (errL acts ≠ 0 ∧ e = .returned (.tuple #[.slice none 0 0, .int .i64 (errL acts)]) ∧ Below w.heap.size w w')

set_option maxHeartbeats 2000000 in
set_option maxRecDepth 100000 in
theorem Write_any (acts : List S47) (A : Option Addr) (c : Nat) (w : World) (hr : Kd.C k47 w A acts.length acts) (hn : acts.length ≤ 10000) (hf : ∀ x ∈ acts, Fine x) :
    Calls Try.prog 9 #[.slice A acts.length c] w (bodyOf w acts) := by
  have HR := Lib.hid hr
  have HF := Lib.hid hf
  clear hr hf
  have hmf : ∀ (fn : Fn) (first cap : Array Value) (w : World), (Instr.makeFunc fn first cap).run Try.prog w = .ok (.func fn first cap) w := fun _ _ _ _ => rfl
  go_enter_defers Try.func9, Try.ntmps9
  go_wp2_with fail
  have S0 := Lib.hid (Wv.start w)
  generalize (w.alloc (.cells #[.slice none 0 0] 24)).alloc (.cells #[.int .i64 0] 25) = W0 at *
  go_loopg [9] acts.length (fun k i W => ∃ j : Nat, ∃ v, j + k = acts.length ∧ i = .int .i64 j ∧ Hid (errL (acts.take j) = 0) ∧ Hid (Wv w W v (bytL (acts.take j))))
  case atStart => exact ⟨0, _, by omega, rfl, rfl, S0⟩
  case round =>
    obtain ⟨j, v, hjk, rfl, hE, hS⟩ := hrel
    have HJ := Lib.hid hjk
    clear hjk S0
    by_cases hlt : j < acts.length
    · obtain ⟨ad, A4, c4, A5, c5, rfl, h0, h1, h2, h3, h4, h5, l4, r4, l5, r5⟩ := at_T47 HR.out (j : Int) (Int.natCast_nonneg j) (Int.ofNat_lt.2 hlt)
      have hx : acts[j]? = some (rd_T47 acts j) := by simp [rd_T47, List.getD, List.getElem?_eq_getElem hlt]
      have HX := Lib.hid hx
      have hfx := HF.out _ (List.mem_of_getElem? hx)
      have hll : (bytL (acts.take j)).length ≤ 1000000000 := by
        have h1 := bytL_len (errL_mem hE.out) (fun x hx => HF.out x (List.mem_of_mem_take hx))
        have h2 : (acts.take j).length ≤ 10000 := by rw [List.length_take]; omega
        omega
      generalize rd_T47 acts j = x at *
      have e0 := pw_cell_below hS.out.below h0; have e1 := pw_cell_below hS.out.below h1; have e2 := pw_cell_below hS.out.below h2; have e3 := pw_cell_below hS.out.below h3; have e4 := pw_cell_below hS.out.below h4; have e5 := pw_cell_below hS.out.below h5
      simp only [Int.toNat_natCast] at e0 e1 e2 e3 e4 e5
      have hz := hS.out.below.size
      have hz1 : w.heap.size + 1 < wr.heap.size := (Array.getElem?_eq_some_iff.1 hS.out.err).1
      have ev := cell_of_blk hS.out.out 0 (u := v) rfl
      have ev2 : ∀ o, (wr.alloc o).cell? ⟨w.heap.size, 0, none⟩ = some v := fun o => by rw [World.cell?_alloc_past _ _ _ (by show w.heap.size < _; omega)]; exact ev
      have H4 := Lib.hid r4
      have H5 := Lib.hid r5
      have HFX := Lib.hid hfx
      have HLL := Lib.hid hll
      clear h0 h1 h2 h3 h4 h5 hx r4 r5 hfx ev hll hz
      go_wp2_with fail
      have G : Gv (fun k => w.heap.size + 2 ≤ k) w (wr.alloc (.cells (actV x A4 A5 c4 c5) 47)) v (bytL (acts.take j)) x A4 A5 c4 c5 :=
        ⟨hS.out.below.alloc (by omega) _, Kd.R_alloc hS.out.row _, H4.out, l4, H5.out, l5, HLL.out, HFX.out.l4, HFX.out.l5⟩
      have ho : (wr.alloc (.cells (actV x A4 A5 c4 c5) 47)).heap[w.heap.size]? = some (.cells #[v] 24 (0, 0)) := by rw [Below.heap_alloc _ _ _ (by omega)]; exact hS.out.out
      have he : (wr.alloc (.cells (actV x A4 A5 c4 c5) 47)).heap[w.heap.size + 1]? = some (.cells #[.int .i64 0] 25 (0, 0)) := by rw [Below.heap_alloc _ _ _ (by omega)]; exact hS.out.err
      have HO := Lib.hid ho
      have HE := Lib.hid he
      clear e0 e1 e2 e3 e4 e5 ev2 ho he hz1
      refine (write_any G HFX.out.w1 HFX.out.w2 HFX.out.w3).mono ?_
      rintro e W2 (⟨hx0, v', rfl, hr2, hb2, hk2⟩ | ⟨hx0, rfl, hb2, hk2⟩)
      · obtain ⟨A', n', c', rfl⟩ : ∃ A' n' c', v' = .slice A' n' c' := by obtain ⟨A', c', e⟩ := Kd.R_slice hr2; exact ⟨_, _, _, e⟩
        have ho2 := blk_kept HO.out hk2 (by omega)
        have he2 := blk_kept HE.out hk2 (by omega)
        have S2 : Hid (Wv w (W2.setCell ⟨w.heap.size, 0, none⟩ (.slice A' n' c')) (.slice A' n' c') (bytL (acts.take (j + 1)))) := by
          have ht : bytL (acts.take (j + 1)) = bytL (acts.take j) ++ byts x := by
            obtain ⟨hl, hx⟩ := List.getElem?_eq_some_iff.1 HX.out
            unfold bytL
            rw [List.take_succ_eq_append_getElem hl, List.flatMap_append, hx]
            simp
          rw [ht]
          exact ⟨Kd.R_far (p := ⟨w.heap.size, 0, none⟩) (Kd.R_mono hr2 (fun k hk => by rcases hk with hk | hk; exact hk; have := hS.out.below.size; have := (Array.getElem?_eq_some_iff.1 hS.out.err).1; simp at hk; omega)) (fun k hk => by show k ≠ w.heap.size; omega) _,
            hb2.setCell (Nat.le_refl _) _, blk_set ho2 _, by rw [Below.heap_setCell _ _ _ _ (by show w.heap.size + 1 ≠ w.heap.size; omega)]; exact he2⟩
        have hE2 : Hid (errL (acts.take (j + 1)) = 0) := by
          obtain ⟨hl, hx⟩ := List.getElem?_eq_some_iff.1 HX.out
          show errL _ = 0
          rw [List.take_succ_eq_append_getElem hl, hx]
          exact errL_snoc hE.out hx0
        have q1 := cell_of_blk ho2 0 (u := v) rfl
        have q2 := frozen_of_blk ho2 0
        clear hr2 hb2 hk2 ho2 he2 hx0 G
        go_wp2_with fail
        go_roundg (acts.length - (j + 1))
        case measure => have := HJ.out; omega
        case rel => exact ⟨j + 1, _, by omega, by go_num, hE2, S2⟩
      · have ho2 := blk_kept HO.out hk2 (by omega)
        have he2 := blk_kept HE.out hk2 (by omega)
        have hEE : Hid (errL acts = errOf x) := errL_at HX.out hE.out hx0
        have HX0 := Lib.hid hx0
        have HB2 := Lib.hid hb2
        have q1 := cell_of_blk ho2 0 (u := v) rfl
        have q2 := frozen_of_blk ho2 0
        have q3 := cell_of_blk he2 0 (u := .int .i64 0) rfl
        have q4 := frozen_of_blk he2 0
        clear hx0 hb2 G
        go_wp2_with fail
        refine leaves_cons (f := 17) (args := #[.pointer (some ⟨w.heap.size, 0, none⟩), .pointer (some ⟨w.heap.size + 1, 0, none⟩)]) (by simp) (by simp [go_sem]) ?_
        refine (writeD_panic w.heap.size (w.heap.size + 1) (errOf x) [] W2 v (.int .i64 0) q1 q3 q2 q4 (by omega)).mono ?_
        rintro e u' w'' ⟨rfl, rfl, rfl⟩
        have hb3 : Below w.heap.size w (((W2.alloc (.cells #[.int .i64 (errOf x)] 55)).setCell ⟨w.heap.size, 0, none⟩ (.slice none 0 0)).setCell ⟨w.heap.size + 1, 0, none⟩ (.int .i64 (errOf x))) :=
          ((HB2.out.alloc HB2.out.size _).setCell (Nat.le_refl _) _).setCell (by show w.heap.size ≤ w.heap.size + 1; omega) _
        have hz2 : w.heap.size + 1 < W2.heap.size := (Array.getElem?_eq_some_iff.1 he2).1
        have k1 := blk_set (W := W2.alloc (.cells #[.int .i64 (errOf x)] 55)) (b := w.heap.size) (v := v) (t := 24) (by rw [Below.heap_alloc _ _ _ (by omega)]; exact ho2) (.slice none 0 0)
        have k2 := blk_set (W := (W2.alloc (.cells #[.int .i64 (errOf x)] 55)).setCell ⟨w.heap.size, 0, none⟩ (.slice none 0 0)) (b := w.heap.size + 1) (v := .int .i64 0) (t := 25) (by rw [Below.heap_setCell _ _ _ _ (by show w.heap.size + 1 ≠ w.heap.size; omega), Below.heap_alloc _ _ _ (by omega)]; exact he2) (.int .i64 (errOf x))
        have k1' : (((W2.alloc (.cells #[.int .i64 (errOf x)] 55)).setCell ⟨w.heap.size, 0, none⟩ (.slice none 0 0)).setCell ⟨w.heap.size + 1, 0, none⟩ (.int .i64 (errOf x))).heap[w.heap.size]? = some (.cells #[.slice none 0 0] 24 (0, 0)) := by
          rw [Below.heap_setCell _ _ _ _ (by show w.heap.size ≠ w.heap.size + 1; omega)]; exact k1
        generalize (((W2.alloc (.cells #[.int .i64 (errOf x)] 55)).setCell ⟨w.heap.size, 0, none⟩ (.slice none 0 0)).setCell ⟨w.heap.size + 1, 0, none⟩ (.int .i64 (errOf x))) = W3 at *
        have m1 := cell_of_blk k1' 0 (u := .slice none 0 0) rfl
        have m2 := cell_of_blk k2 0 (u := .int .i64 (errOf x)) rfl
        refine ⟨.tuple #[.slice none 0 0, .int .i64 (errOf x)], by simp [results, Try.results9, go_sem, m1, m2], .inr ⟨by rw [hEE.out]; exact HX0.out, by rw [hEE.out], hb3⟩⟩
    · obtain rfl : j = acts.length := by have := HJ.out; omega
      obtain ⟨A', n', c', rfl⟩ : ∃ A' n' c', v = .slice A' n' c' := by obtain ⟨A', c', e⟩ := Kd.R_slice hS.out.row; exact ⟨_, _, _, e⟩
      have q1 := cell_of_blk hS.out.out 0 (u := .slice A' n' c') rfl
      have q2 := frozen_of_blk hS.out.out 0
      have q3 := cell_of_blk hS.out.err 0 (u := .int .i64 0) rfl
      have q4 := frozen_of_blk hS.out.err 0
      have q5 : (wr.setCell ⟨w.heap.size, 0, none⟩ (.slice A' n' c')).cell? ⟨w.heap.size + 1, 0, none⟩ = some (.int .i64 0) := by rw [World.cell?_setCell_far _ _ _ _ (by show w.heap.size ≠ w.heap.size + 1; omega)]; exact q3
      go_wp2_with fail
      refine leaves_cons (f := 17) (args := #[.pointer (some ⟨w.heap.size, 0, none⟩), .pointer (some ⟨w.heap.size + 1, 0, none⟩)]) (by simp) (by simp [go_sem]) ?_
      refine (writeD_ret w.heap.size (w.heap.size + 1) _).mono ?_
      rintro e u' w'' ⟨rfl, rfl, rfl⟩
      have hb3 : Below w.heap.size w ((wr.setCell ⟨w.heap.size, 0, none⟩ (.slice A' n' c')).setCell ⟨w.heap.size + 1, 0, none⟩ (.int .i64 0)) := ((hS.out.below).setCell (Nat.le_refl _) _).setCell (by show w.heap.size ≤ w.heap.size + 1; omega) _
      have k1 := blk_set hS.out.out (.slice A' n' c')
      have k2 := blk_set (W := wr.setCell ⟨w.heap.size, 0, none⟩ (.slice A' n' c')) (b := w.heap.size + 1) (v := .int .i64 0) (t := 25) (by rw [Below.heap_setCell _ _ _ _ (by show w.heap.size + 1 ≠ w.heap.size; omega)]; exact hS.out.err) (.int .i64 0)
      have k1' : ((wr.setCell ⟨w.heap.size, 0, none⟩ (.slice A' n' c')).setCell ⟨w.heap.size + 1, 0, none⟩ (.int .i64 0)).heap[w.heap.size]? = some (.cells #[.slice A' n' c'] 24 (0, 0)) := by
        rw [Below.heap_setCell _ _ _ _ (by show w.heap.size ≠ w.heap.size + 1; omega)]; exact k1
      have hR : Kd.R (Kd.int .u8) 5 ((wr.setCell ⟨w.heap.size, 0, none⟩ (.slice A' n' c')).setCell ⟨w.heap.size + 1, 0, none⟩ (.int .i64 0)) w.heap.size (fun k => w.heap.size + 2 ≤ k) (.slice A' n' c') (bytL acts) := by
        have h := hS.out.row
        rw [List.take_length] at h
        exact Kd.R_far (p := ⟨w.heap.size + 1, 0, none⟩) (Kd.R_far (p := ⟨w.heap.size, 0, none⟩) h (fun k hk => by show k ≠ w.heap.size; omega) _) (fun k hk => by show k ≠ w.heap.size + 1; omega) _
      have hE0 := hE.out
      rw [List.take_length] at hE0
      generalize ((wr.setCell ⟨w.heap.size, 0, none⟩ (.slice A' n' c')).setCell ⟨w.heap.size + 1, 0, none⟩ (.int .i64 0)) = W3 at *
      have m1 := cell_of_blk k1' 0 (u := .slice A' n' c') rfl
      have m2 := cell_of_blk k2 0 (u := .int .i64 0) rfl
      refine ⟨.tuple #[.slice A' n' c', .int .i64 0], by simp [results, Try.results9, go_sem, m1, m2], .inl ⟨hE0, _, rfl, Kd.R_mono hR (fun _ _ => trivial), hb3⟩⟩
end Go.Proofs.Ythnefjkpjhfkgaa.Core
