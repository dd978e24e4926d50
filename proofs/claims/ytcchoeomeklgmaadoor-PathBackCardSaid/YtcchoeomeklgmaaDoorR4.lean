/- path.Read: the walk of the range. -/
import Derived.Test.YtcchoeomeklgmaaDoorR3
import Derived.RangeFuncBox
import Derived.Maps.AppendAt
namespace Go.Proofs.YtcchoeomeklgmaaDoor.Core
open Go.RowKit Go.Shelf Go.Proofs.YtcchoeomeklgmaaDoorW.PrintWords Go.Proofs.YtcchoeomeklgmaaDoor.Rf Go.Proofs.YtcchoeomeklgmaaDoor
set_option linter.unusedVariables false
set_option linter.unusedSimpArgs false
attribute [local go_sem] Oper.semAt_some
theorem info3 : (Tryd.prog.info? 3).map (fun i => (i.zero, i.size, i.bytes)) = some (some (.int .i64 0), 1, 8) := by kernel_rfl
/-- The number that digits tell, behind acc. -/
def val (acc : Nat) (l : List UInt8) : Nat := l.foldl (fun n b => n * 10 + (b.toNat - 48)) acc
theorem decFrom_val : ∀ (l : List UInt8) (acc : Nat), l.all isDig = true → Lib.decFrom acc l = some (val acc l)
  | [], _, _ => rfl
  | b :: r, acc, h => by
    rw [List.all_cons, Bool.and_eq_true] at h
    have h1 := h.1
    unfold isDig at h1
    rw [Bool.and_eq_true, decide_eq_true_eq, decide_eq_true_eq] at h1
    have hd : Lib.digitVal b = some (b.toNat - 48) := by unfold Lib.digitVal; rw [if_pos h1]
    unfold Lib.decFrom
    rw [hd]
    exact decFrom_val r _ h.2
theorem plainB_iff (x : List UInt8) : plainB 6 x = true ↔ x ≠ [] ∧ x.length ≤ 6 ∧ x.all isDig = true ∧ (x = [48] ∨ x.head? ≠ some 48) := by
  unfold plainB
  simp only [Bool.and_eq_true, Bool.or_eq_true, decide_eq_true_eq, Bool.not_eq_true', List.isEmpty_eq_false_iff]
  exact ⟨fun ⟨⟨⟨a, b⟩, c⟩, d⟩ => ⟨a, b, c, d⟩, fun ⟨a, b, c, d⟩ => ⟨⟨⟨a, b⟩, c⟩, d⟩⟩
theorem atoi_val (x : List UInt8) (hne : x ≠ []) (h : x.all isDig = true) : Lib.atoi x = some (val 0 x : Int) := by
  cases x with
  | nil => exact absurd rfl hne
  | cons b r =>
    have hb : isDig b = true := by rw [List.all_cons, Bool.and_eq_true] at h; exact h.1
    have h45 : (b == 45) = false := by
      cases e : b == 45
      · rfl
      · rw [eq_of_beq e] at hb; exact absurd hb (by decide)
    have h43 : (b == 43) = false := by
      cases e : b == 43
      · rfl
      · rw [eq_of_beq e] at hb; exact absurd hb (by decide)
    have hd : Lib.decNat (b :: r) = some (val 0 (b :: r)) := by
      unfold Lib.decNat
      rw [if_neg (by simp)]
      exact decFrom_val _ _ h
    show (if (b == 45) = true then _ else if (b == 43) = true then _ else Option.map (fun m => ((m : Nat) : Int)) (Lib.decNat (b :: r))) = _
    rw [h45, h43, hd]
    rfl
def atoiV (x : List UInt8) : Int := (Lib.atoi x).getD 0
theorem atoiV_val (x : List UInt8) (h : plainB 6 x = true) : atoiV x = (val 0 x : Int) := by
  obtain ⟨a, b, c, d⟩ := (plainB_iff x).1 h
  unfold atoiV
  rw [atoi_val x a c]
  rfl
def encI (xs : List (List UInt8)) : List Value := (xs.map atoiV).map (Value.int .i64)
theorem atoi_plain (x : List UInt8) (h : plainB 6 x = true) : Lib.atoi x = some (atoiV x) ∧ x.length ≤ 6 := by
  obtain ⟨a, b, c, d⟩ := (plainB_iff x).1 h
  rw [atoiV_val x h]
  exact ⟨atoi_val x a c, b⟩
theorem ownC_row {β : Type} {bc B n₀ b : Nat} {t e : TypeId} {size : Nat} (k : β → Nat) (f : β → List Value) (hbc : bc < n₀) (hbb : b ≠ bc) : OwnC bc B (fun s W => ∃ u, Boxed W b t u ∧ W.ownsRow n₀ e size u (k s) (f s)) := by
  rintro s X Y row ⟨u, hv, hr⟩ hg hrow
  refine ⟨u, hv.kept hg (fun e' => ?_), hr.kept hg ?_⟩
  · rcases hrow b e'.symm with h | ⟨_, o, ho, hc⟩
    · exact hbb h
    · rw [show X.heap[b]? = _ from hv] at ho; cases ho; cases hc
  · rcases hr.2 with ⟨rfl, _⟩ | ⟨g, cap, cur, rfl, hg0, hgb, _⟩
    · exact .inl rfl
    · refine .inr fun e' => ?_
      rcases hrow g (by simpa [Value.ownBlock] using e'.symm) with h | ⟨_, o, ho, hc⟩
      · omega
      · rw [hgb] at ho; cases ho; cases hc
theorem Kp3.below {b0 : Nat} {W W' : World} (h : Below W.heap.size W W') (hb : b0 + 3 ≤ W.heap.size) : Kp3 b0 W W' := fun q _ h2 => h.block q (by omega)
theorem KeepsFrom.below {B : Nat} {W W' : World} (h : Below W.heap.size W W') : KeepsFrom B W W' := ⟨h.size, fun k o _ hk _ => blk_below hk h⟩
theorem own_mono {w : World} {base base' : Nat} {e : TypeId} {size : Nat} {u : Value} {n : Nat} {xs : List Value} (hb : base' ≤ base) (h : w.ownsRow base e size u n xs) : w.ownsRow base' e size u n xs := by
  obtain ⟨h1, h2⟩ := h
  refine ⟨h1, ?_⟩
  rcases h2 with h2 | ⟨g, cap, cur, rfl, hg, hh, r⟩
  · exact .inl h2
  · exact .inr ⟨g, cap, cur, rfl, Nat.le_trans hb hg, hh, r⟩
theorem results_11 {fn : Func} {p p' : Tmp} {ty ty' : TypeId} {P : Program} (h : fn.results = #[.cell p ty, .cell p' ty']) (tmps : Array Value) (w : World) (A A' : Addr) (u u' : Value)
    (hp : tmps.getD p undef = .pointer (some A)) (hp' : tmps.getD p' undef = .pointer (some A')) (hl : (loadVar ty A).run P w = .ok u w) (hl' : (loadVar ty' A').run P w = .ok u' w) :
    (results fn tmps).run P w = .ok (.tuple #[u, u']) w := by
  have h1 : tmps[p]?.getD undef = .pointer (some A) := by simpa using hp
  have h2 : tmps[p']?.getD undef = .pointer (some A') := by simpa using hp'
  simp [results, h, h1, h2, asAddr, hl, hl']
theorem load22 (w : World) (b : Nat) (u : Value) (h : Boxed w b 22 u) : (loadVar 22 ⟨b, 0, none⟩).run Tryd.prog w = .ok u w := by
  have h1 := h.cell
  have h2 := Tryd.underlying22
  simp [loadVar, loadCells, run_underlying h2, h1, Result.andThen]
theorem load23 (w : World) (b : Nat) (u : Value) (h : Boxed w b 23 u) : (loadVar 23 ⟨b, 0, none⟩).run Tryd.prog w = .ok u w := by
  have h1 := h.cell
  have h2 := Tryd.underlying23
  simp [loadVar, loadCells, run_underlying h2, h1, Result.andThen]
theorem ends_at {W : World} {D m : Nat} {u1 u2 : Value} (v1 v2 : Value) (h2 : W.heap[m]? = some (.cells #[u1] 22 (0, 0))) (h3 : W.heap[m + 1]? = some (.cells #[u2] 23 (0, 0))) (hK : W.heap[D]? = some (.deferred (some []))) (hD : m + 6 ≤ D) :
    ∃ X, X = (W.setCell ⟨m, 0, none⟩ v1).setCell ⟨m + 1, 0, none⟩ v2 ∧ X.heap[D]? = some (.deferred (some [])) ∧ Boxed (X.putObj D (.deferred none)) m 22 v1 ∧ Boxed (X.putObj D (.deferred none)) (m + 1) 23 v2 ∧ Below m W (X.putObj D (.deferred none)) ∧ ∀ q, m + 2 ≤ q → X.heap[q]? = W.heap[q]? := by
  have hq : ∀ q, m + 2 ≤ q → ((W.setCell ⟨m, 0, none⟩ v1).setCell ⟨m + 1, 0, none⟩ v2).heap[q]? = W.heap[q]? := fun q h => (Below.heap_setCell _ _ _ q (by show q ≠ m + 1; omega)).trans (Below.heap_setCell _ _ _ q (by show q ≠ m; omega))
  have hX := (hq D (by omega)).trans hK
  have a1 : Boxed ((W.setCell ⟨m, 0, none⟩ v1).setCell ⟨m + 1, 0, none⟩ v2) m 22 v1 := blk_far (by simpa using blk_set h2 0 v1) (by show m ≠ m + 1; omega) _
  have a2 : Boxed ((W.setCell ⟨m, 0, none⟩ v1).setCell ⟨m + 1, 0, none⟩ v2) (m + 1) 23 v2 := by
    have h := blk_set (blk_far h3 (p := ⟨m, 0, none⟩) (by show m + 1 ≠ m; omega) v1) 0 v2
    simpa [Boxed] using h
  refine ⟨_, rfl, hX, (World.putObj_heap_other (by omega)).trans a1, (World.putObj_heap_other (by omega)).trans a2, ?_, hq⟩
  have hb : Below m W ((W.setCell ⟨m, 0, none⟩ v1).setCell ⟨m + 1, 0, none⟩ v2) := ((Below.refl _ _).setCell (p := ⟨m, 0, none⟩) (Nat.le_refl _) _).setCell (p := ⟨m + 1, 0, none⟩) (by show m ≤ m + 1; omega) _
  exact hb.grown (grownBy_putObj' _ D _) (by have := blk_lt h2; have := hb.size; omega) (fun k e => by cases e; omega)
/-- The world in which the range begins. -/
def W0 (w : World) (t : List UInt8) : World := splitW (((w.alloc (.cells #[.slice none 0 0] 22)).alloc (.cells #[.int .i64 0] 23)).alloc (.cells #[.slice none 0 0] 22)) ⟨t.toArray⟩ ⟨#[46]⟩
set_option maxRecDepth 100000 in
set_option maxHeartbeats 4000000 in
theorem read_range (t : List UInt8) (ht : t.length ≤ 10000000) (hne : t ≠ [46]) (w : World) : Calls Tryd.prog 8 #[.string ⟨t.toArray⟩] w fun e w' =>
    (∃ u, e = .returned (.tuple #[u, .int .i64 0]) ∧ w'.ownsRow w.heap.size 3 1 u (splitB 46 t).length (encI (splitB 46 t)) ∧ (splitB 46 t).length ≤ 30 ∧ (∀ x ∈ splitB 46 t, plainB 6 x = true) ∧ Below w.heap.size w w') ∨
    (e = .returned (.tuple #[.slice none 0 0, .int .i64 3]) ∧ 30 < (splitB 46 t).length ∧ (∀ x ∈ splitB 46 t, plainB 6 x = true) ∧ Below w.heap.size w w') ∨
    (e = .returned (.tuple #[.slice none 0 0, .int .i64 4]) ∧ (∃ x ∈ splitB 46 t, plainB 6 x = false) ∧ Below w.heap.size w w') := by
  obtain ⟨i0, hi, hz0, hz1, hz2⟩ := info_parts info3
  have hbe : (t == [46]) = false := by simp [hne]
  refine (callsIn_wide (n := 5)).1 ?_
  refine callsIn_of_wp_marks Tryd.func8 rfl trivial ?_ rfl
  simp only [Tryd.ntmps8, List.size_toArray, List.length_cons, List.length_nil, Nat.reduceAdd, Nat.reduceSub, Array.replicate_succ, Array.replicate_zero, List.push_toArray, List.append_toArray, List.nil_append, List.cons_append]
  gi_wp2_with (refine ⟨trivial, ?_⟩; gi_at_call 19; refine (callsIn_wide.2 (split_any _ _ _)).mono ?_; rintro e w' ⟨rfl, rfl⟩)
  obtain ⟨m, hm⟩ : ∃ m, m = w.heap.size := ⟨_, rfl⟩
  obtain ⟨Wr, hWr⟩ : ∃ W, W0 w t = W := ⟨_, rfl⟩
  have hz : Wr.heap.size = m + 6 := by rw [← hWr, hm]; simp [W0, splitW]
  have hb : Below m w Wr := by
    rw [← hWr, hm]
    exact (((((((Below.refl _ _).alloc (Nat.le_refl _) _).alloc (by simp <;> omega) _).alloc (by simp <;> omega) _).alloc (by simp <;> omega) _).alloc (by simp <;> omega) _).alloc (by simp <;> omega) _)
  have b2 : Boxed Wr m 22 (.slice none 0 0) := by rw [← hWr, hm]; exact (((((Boxed.new w 22 (.slice none 0 0)).alloc _).alloc _).alloc _).alloc _).alloc _
  have b3 : Boxed Wr (m + 1) 23 (.int .i64 0) := by
    rw [← hWr, hm]
    have h := Boxed.new (w.alloc (.cells #[.slice none 0 0] 22)) 23 (.int .i64 0)
    rw [World.size_alloc] at h
    exact (((h.alloc _).alloc _).alloc _).alloc _
  have b4 : Boxed Wr (m + 2) 22 (.slice none 0 0) := by
    rw [← hWr, hm]
    have h := Boxed.new ((w.alloc (.cells #[.slice none 0 0] 22)).alloc (.cells #[.int .i64 0] 23)) 22 (.slice none 0 0)
    rw [World.size_alloc, World.size_alloc] at h
    exact ((h.alloc _).alloc _).alloc _
  have hbox : Box3 (m + 3) 46 Wr t := by
    rw [← hWr, hm]
    refine ⟨?_, ?_, ?_⟩
    · have h := Boxed.new (((w.alloc (.cells #[.slice none 0 0] 22)).alloc (.cells #[.int .i64 0] 23)).alloc (.cells #[.slice none 0 0] 22)) 9 (.string ⟨t.toArray⟩)
      rw [World.size_alloc, World.size_alloc, World.size_alloc] at h
      exact (h.alloc _).alloc _
    · have h := Boxed.new ((((w.alloc (.cells #[.slice none 0 0] 22)).alloc (.cells #[.int .i64 0] 23)).alloc (.cells #[.slice none 0 0] 22)).alloc (.cells #[.string ⟨t.toArray⟩] 9)) 9 (.string ⟨#[46]⟩)
      rw [World.size_alloc, World.size_alloc, World.size_alloc, World.size_alloc] at h
      exact h.alloc _
    · have h := Boxed.new (((((w.alloc (.cells #[.slice none 0 0] 22)).alloc (.cells #[.int .i64 0] 23)).alloc (.cells #[.slice none 0 0] 22)).alloc (.cells #[.string ⟨t.toArray⟩] 9)).alloc (.cells #[.string ⟨#[46]⟩] 9)) 3 (.int .i64 0)
      rw [World.size_alloc, World.size_alloc, World.size_alloc, World.size_alloc, World.size_alloc] at h
      exact h
  have HW := Lib.hid hWr
  clear hWr
  change Code.wpIn _ _ _ _ _ _ (W0 w t)
  rw [HW.out]
  simp only [splitV, World.size_alloc, ← hm]
  refine rangeCell (F := Fence.wide) (n := 5) rfl (by omega) (gf := 47) (lb := #[.pointer (some ⟨m + 4, 0, none⟩), .pointer (some ⟨m + 3, 0, none⟩), .pointer (some ⟨m + 5, 0, none⟩)]) rfl trivial (enters_of Tryd.func47 (by kernel_rfl) rfl)
    (encs := fun x : List UInt8 => #[.string ⟨x.toArray⟩]) (bc := m + 3) (by omega) (split_iter (5 - 1) (by omega) (m + 3) 46 t ht Wr hbox) (fun h k => Kp3.trans h k) (fun W l o o' hl _ => Kp3.put _ (by omega)) (Below.refl _ _) (fun _ => rfl)
    (fun pre W => ((∃ u, Boxed W (m + 2) 22 u ∧ W.ownsRow (m + 6) 3 1 u pre.length (encI pre)) ∧ W.heap[m]? = some (.cells #[.slice none 0 0] 22 (0, 0)) ∧ W.heap[m + 1]? = some (.cells #[.int .i64 0] 23 (0, 0))) ∧ Below m Wr W ∧ ∀ x ∈ pre, plainB 6 x = true)
    (fun c pre W => (W.heap[m]? = some (.cells #[.slice none 0 0] 22 (0, 0)) ∧ W.heap[m + 1]? = some (.cells #[.int .i64 4] 23 (0, 0))) ∧ Below m Wr W ∧ c = .ret ∧ ∃ x ∈ pre, plainB 6 x = false)
    (((ownC_row (fun pre => pre.length) encI (by omega) (by omega)).and ((ownC_block (fun _ => .cells #[.slice none 0 0] 22 (0, 0)) (fun _ => rfl) (by omega)).and (ownC_block (fun _ => .cells #[.int .i64 0] 23 (0, 0)) (fun _ => rfl) (by omega)))).and ((ownC_below (by omega) (by omega) (by omega)).and (ownC_pure _ _ _)))
    (fun c => ((ownC_block (fun _ => .cells #[.slice none 0 0] 22 (0, 0)) (fun _ => rfl) (by omega)).and (ownC_block (fun _ => .cells #[.int .i64 4] 23 (0, 0)) (fun _ => rfl) (by omega))).and ((ownC_below (by omega) (by omega) (by omega)).and (ownC_pure _ _ _)))
    ⟨⟨⟨_, b4, World.ownsRow_nil _ _ _ _⟩, b2, b3⟩, Below.refl _ _, by simp⟩
    (fun x => { tmps := #[.string ⟨t.toArray⟩, undef, .pointer (some ⟨m, 0, none⟩), .pointer (some ⟨m + 1, 0, none⟩), .pointer (some ⟨m + 2, 0, none⟩), .string ⟨x.toArray⟩, undef, undef, .string ⟨t.toArray⟩, .bool false, .string ⟨t.toArray⟩, splitV (m + 3), .string ⟨x.toArray⟩, undef, undef, undef, undef, undef, undef, undef, undef, undef, undef, undef, undef, undef, undef, undef, undef], defers := [] }) ?assign ?body ?done ?stop
  all_goals have HM := Lib.hid hm
  all_goals clear hm
  case assign =>
    intro l x W K hK
    gi_wp2
    exact hK
  case body =>
    rintro l pre x W ⟨⟨⟨u, hv, hrow⟩, h2, h3⟩, hB, hP⟩ hlt
    have HPL := Lib.hid (plain_any x W)
    by_cases hpx : plainB 6 x = true
    · rw [hpx] at HPL
      obtain ⟨ha, hl6⟩ := atoi_plain x hpx
      have HAT := Lib.hid (fun W1 => Tryd.strconv_Atoi ⟨x.toArray⟩ (atoiV x) (by simp [ByteArray.size]; omega) (by simpa using ha) W1)
      have HENC : Hid (encI (pre ++ [x]) = encI pre ++ [.int .i64 (atoiV x)]) := by show _ = _; simp [encI]
      generalize atoiV x = nv at HAT HENC
      have HPX := Lib.hid hpx
      have HPP : Hid (∀ y ∈ pre ++ [x], plainB 6 y = true) := by
        intro y hy
        rcases List.mem_append.1 hy with hy | hy
        · exact hP y hy
        · rw [List.mem_singleton.1 hy]; exact HPX.out
      have HB1 := Lib.hid hB
      have H2 := Lib.hid h2
      have H3 := Lib.hid h3
      have HV := Lib.hid hv
      have HR := Lib.hid hrow
      have hpl : pre.length ≤ 10000001 := by have := splitB_len 46 t; omega
      have HPLn := Lib.hid hpl
      have HSZ : Hid (m + 6 ≤ W.heap.size) := by have := HB1.out.size; show _ ≤ _; omega
      clear hB h2 h3 hv hrow hpx hP ha hl6 hlt hpl
      gi_wp2_with first
        | (refine ⟨trivial, ?_⟩; gi_at_call 20; refine (CallsIn.inRound l (callsIn_wide.2 HPL.out)).mono ?_; rintro e w5 ⟨rfl, hb5⟩)
        | (refine ⟨trivial, ?_⟩; gi_at_call 21; refine (CallsIn.inRound l (callsIn_wide.2 (HAT.out _))).mono ?_; rintro e w6 ⟨rfl, t6, rfl⟩; have hb6 := bytes_below hb5 hb5.size 5 t6; obtain ⟨w6, hw6⟩ : ∃ X, Lib.bytesWorld w5 5 t6 = X := ⟨_, rfl⟩; rw [hw6] at hb6 ⊢; have HS6 : Hid (m + 6 ≤ w6.heap.size) := Nat.le_trans HSZ.out hb6.size; clear hw6 hb5; have hv6 : Boxed w6 (m + 2) 22 u := blk_below HV.out hb6; have hrow6 := own_move HR.out (fun k hk => hb6.block k (HR.out.lt k hk).2); have hc6 := hv6.cell)
        | (gi_at_builtin; refine wpListIn_append_own _ rfl _ _ 22 rfl (m + 6) 3 i0 (.int .i64 0) 1 8 Tryd.underlying22 hi hz0 hz1 hz2 rfl (by decide) _ _ _ rfl (hrow6.alloc _) ⟨w6.heap.size, 0, none⟩ 1 1 [.int .i64 nv] rfl rfl (cell_one_new _ _ _) (by simp [Value.oneCell']) (by have := HPLn.out; simp only [maxLen]; omega) (by have := HPLn.out; omega) (by have := HS6.out; rw [World.size_alloc]; omega) ?_; intro v' w1 hown' hgrow _; obtain ⟨g', cap', rfl⟩ := ownsRow_succ hown'; obtain ⟨hv1, hv2, hr2, hk2, hb2⟩ := hv6.appended (by decide) (own_mono (Nat.le_add_right m 6) hrow6) (by have := HS6.out; omega) (Nat.le_add_right m 2) (own_mono (Nat.le_add_right m 6) hown') hgrow; have hc1 := hv1.cell; have hf1 := hv1.frozen)
      all_goals
        have hr3 := World.ownsRow.kept hown' (grownBy_setCell' w1 (m + 2) (.slice (some ⟨g', 0, none⟩) (pre.length + 1) cap')) (.inr (hv1.not_row (by decide) hown').symm)
        have hkp : Kp3 (m + 3) w6 (w1.setCell ⟨m + 2, 0, none⟩ (.slice (some ⟨g', 0, none⟩) (pre.length + 1) cap')) := fun q q1 q2 => by
          refine (Below.heap_setCell _ _ _ q (by show q ≠ m + 2; omega)).trans ?_
          have hq : q < w6.heap.size := by have := HS6.out; omega
          refine (hgrow.block q (by rw [World.size_alloc]; omega) (fun e => ?_)).trans (Below.heap_alloc _ _ _ hq)
          have := (hrow6.lt q e.symm).1
          omega
        have hkk : ∀ q, q < m + 2 → (w1.setCell ⟨m + 2, 0, none⟩ (.slice (some ⟨g', 0, none⟩) (pre.length + 1) cap')).heap[q]? = w6.heap[q]? := fun q q1 => by
          refine (Below.heap_setCell _ _ _ q (by show q ≠ m + 2; omega)).trans ?_
          have hq : q < w6.heap.size := by have := HS6.out; omega
          refine (hgrow.block q (by rw [World.size_alloc]; omega) (fun e => ?_)).trans (Below.heap_alloc _ _ _ hq)
          have := (hrow6.lt q e.symm).1
          omega
        refine ⟨(KeepsFrom.below hb6).trans (hk2.from _), (Kp3.below hb6 (by have := HSZ.out; omega)).trans hkp, ⟨⟨_, hv2, ?_⟩, ?_, ?_⟩, ?_, HPP.out⟩
        · rw [HENC.out, List.length_append]
          exact hr3
        · exact (hkk _ (by omega)).trans (blk_below H2.out hb6)
        · exact (hkk _ (by omega)).trans (blk_below H3.out hb6)
        · exact (HB1.out.trans (hb6.mono (by have := HSZ.out; omega))).trans hb2
    · have hpf : plainB 6 x = false := by simpa using hpx
      rw [hpf] at HPL
      clear hpx
      have k2 := fun W1 (hb1 : Below W.heap.size W W1) => blk_below h2 hb1
      have HB1 := Lib.hid hB
      have H2 := Lib.hid h2
      have H3 := Lib.hid h3
      clear hB h2 h3
      gi_wp2_with (refine ⟨trivial, ?_⟩; gi_at_call 20; refine (CallsIn.inRound l (callsIn_wide.2 HPL.out)).mono ?_; rintro e w5 ⟨rfl, hb5⟩; have d2 := blk_below H2.out hb5; have d3 := blk_below H3.out hb5; have e2 := blk_cell d2 0; have f2 := blk_frozen d2 0; have e3 := blk_cell d3 0; have f3 := blk_frozen d3 0; simp only [List.getElem?_toArray, List.getElem?_cons_zero] at e2 e3)
      have hm5 := HB1.out.size
      have hmw := HM.out
      refine ⟨(KeepsFrom.below hb5).trans (((KeepsOthers.setCell _ _ _).trans (KeepsOthers.setCell _ _ _)).from _), ⟨?_, ?_⟩, ?_, rfl, x, by simp, hpf⟩
      · exact blk_far (by simpa using blk_set d2 0 (.slice none 0 0)) (by show m ≠ m + 1; omega) _
      · simpa using blk_set (blk_far d3 (p := ⟨m, 0, none⟩) (by show m + 1 ≠ m; omega) (.slice none 0 0)) 0 (.int .i64 4)
      · exact ((HB1.out.trans (hb5.mono (by omega))).setCell (p := ⟨m, 0, none⟩) (Nat.le_refl _) _).setCell (p := ⟨m + 1, 0, none⟩) (by show m ≤ m + 1; omega) _
  case done =>
    rintro D xs W hD rfl ⟨⟨⟨u, hv, hrow⟩, h2, h3⟩, hB, hP⟩ hK
    have hn0 : 0 < (splitB 46 t).length := List.length_pos_iff.2 (splitB_ne 46 t)
    have hform : ∃ g cap, u = .slice (some ⟨g, 0, none⟩) (splitB 46 t).length cap := by
      rcases hrow.2 with ⟨_, h0⟩ | ⟨g, cap, _, rfl, _⟩
      · omega
      · exact ⟨g, cap, rfl⟩
    obtain ⟨g, cap, rfl⟩ := hform
    obtain ⟨n, hn⟩ : ∃ n, n = (splitB 46 t).length := ⟨_, rfl⟩
    have HN := Lib.hid hn
    rw [← hn] at hv hrow hn0
    have HV := Lib.hid hv
    have HR := Lib.hid hrow
    have H2 := Lib.hid h2
    have H3 := Lib.hid h3
    have HB1 := Lib.hid hB
    have HP1 := Lib.hid hP
    have HK := Lib.hid hK
    have e2 := blk_cell h2 0
    have f2 := blk_frozen h2 0
    have e3 := blk_cell h3 0
    have f3 := blk_frozen h3 0
    have e4 := hv.cell
    simp only [List.getElem?_toArray, List.getElem?_cons_zero] at e2 e3
    clear hv hrow h2 h3 hB hP hK hn
    have hmw := HM.out
    have hbw : Below m w W := hb.trans (HB1.out.mono (by omega))
    by_cases h30 : n ≤ 30
    · have h30i : ((n : Int) ≤ 30) := by omega
      have h30d : decide ((n : Int) > 30) = false := by simp; omega
      obtain ⟨X, hX, hKX, x2, x3, hbX, hqX⟩ := ends_at (.slice (some ⟨g, 0, none⟩) n cap) (.int .i64 0) H2.out H3.out HK.out (by omega)
      have hr : (X.putObj D (.deferred none)).ownsRow (m + 6) 3 1 (.slice (some ⟨g, 0, none⟩) n cap) n (encI (splitB 46 t)) :=
        ownsRow_putObj (own_move HR.out (fun k hk => hqX k (by have := (HR.out.lt k hk).1; omega))) _ hKX rfl
      have HRX := Lib.hid (own_mono (Nat.le_add_right m 6) hr)
      have HX := Lib.hid hX
      have HKX := Lib.hid hKX
      have HX2 := Lib.hid x2
      have HX3 := Lib.hid x3
      have HBX := Lib.hid (hbw.trans hbX)
      clear hX hKX x2 x3 hbX hqX hr hmw hbw
      gi_wp2
      refine ⟨by simp, .inl ⟨_, _, rfl, run_takeDeferred (by rw [← HX.out]; exact HKX.out), ?_⟩⟩
      rw [← HX.out]
      refine ⟨_, results_11 rfl _ _ _ _ _ _ rfl rfl (load22 _ _ _ HX2.out) (load23 _ _ _ HX3.out), .inl ⟨_, rfl, ?_, ?_, HP1.out, ?_⟩⟩
      · rw [← HN.out, ← HM.out]; exact HRX.out
      · rw [← HN.out]; exact h30
      · rw [← HM.out]; exact HBX.out
    · have h30i : (30 < (n : Int)) := by omega
      have h30d : decide ((n : Int) > 30) = true := by simp; omega
      obtain ⟨X, hX, hKX, x2, x3, hbX, hqX⟩ := ends_at (.slice none 0 0) (.int .i64 3) H2.out H3.out HK.out (by omega)
      have HX := Lib.hid hX
      have HKX := Lib.hid hKX
      have HX2 := Lib.hid x2
      have HX3 := Lib.hid x3
      have HBX := Lib.hid (hbw.trans hbX)
      clear hX hKX x2 x3 hbX hqX hmw hbw
      gi_wp2
      refine ⟨by simp, .inl ⟨_, _, rfl, run_takeDeferred (by rw [← HX.out]; exact HKX.out), ?_⟩⟩
      rw [← HX.out]
      refine ⟨_, results_11 rfl _ _ _ _ _ _ rfl rfl (load22 _ _ _ HX2.out) (load23 _ _ _ HX3.out), .inr (.inl ⟨rfl, ?_, HP1.out, ?_⟩)⟩
      · rw [← HN.out]; omega
      · rw [← HM.out]; exact HBX.out
  case stop =>
    rintro D c pre W hD hSp ⟨⟨h2, h3⟩, hB, rfl, x, hx, hxf⟩ hK
    have hmw := HM.out
    have hbw : Below m w W := hb.trans (hB.mono (by omega))
    have hbX : Below m W (W.putObj D (.deferred none)) := (Below.refl _ _).grown (grownBy_putObj' _ D _) (by have := blk_lt h2; omega) (fun k e => by cases e; omega)
    have x2 : Boxed (W.putObj D (.deferred none)) m 22 (.slice none 0 0) := (World.putObj_heap_other (by omega)).trans h2
    have x3 : Boxed (W.putObj D (.deferred none)) (m + 1) 23 (.int .i64 4) := (World.putObj_heap_other (by omega)).trans h3
    have HBX := Lib.hid (hbw.trans hbX)
    have HX2 := Lib.hid x2
    have HX3 := Lib.hid x3
    have HKX := Lib.hid hK
    have HXF := Lib.hid hxf
    have HX := Lib.hid (hSp.subset hx)
    clear hbw hbX x2 x3 hK hxf hSp hx hmw
    gi_wp2
    refine ⟨by simp, .inl ⟨_, _, rfl, run_takeDeferred HKX.out, ?_⟩⟩
    refine ⟨_, results_11 rfl _ _ _ _ _ _ rfl rfl (load22 _ _ _ HX2.out) (load23 _ _ _ HX3.out), .inr (.inr ⟨rfl, ⟨x, HX.out, HXF.out⟩, ?_⟩)⟩
    rw [← HM.out]
    exact HBX.out
end Go.Proofs.YtcchoeomeklgmaaDoor.Core
