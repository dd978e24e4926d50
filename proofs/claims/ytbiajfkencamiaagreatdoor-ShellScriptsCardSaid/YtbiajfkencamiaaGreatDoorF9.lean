/- shell: New; all lines together: Run. -/
import Derived.Test.YtbiajfkencamiaaGreatDoorBu
/-! F9 -/
namespace Go.Proofs.YtbiajfkencamiaaGreatDoor.SH
open Go.RowKit Go.Shelf Go.Proofs.YtbiajfkencamiaaGreatDoorW.PrintWords Go.Proofs.YtbiajfkencamiaaGreatDoorW.PrintMore Go.Proofs.YtbiajfkencamiaaGreatDoor.P1 Go.Proofs.YtbiajfkencamiaaGreatDoor.Rf Go.Proofs.YtbiajfkencamiaaGreatDoor Go.Proofs.YtbiajfkencamiaaGreatDoor.Core
open Go.Proofs.YtbiajfkencamiaaGreatDoor.EV (Upd Upd.set Upd.below Upd.trans Kq evalF evalF_v ResV R64)
set_option linter.unusedVariables false
set_option linter.unusedSimpArgs false
attribute [local go_sem] Oper.semAt_some
theorem new_any (w : World) : Calls Tryz.prog 5 #[] w fun e w' => e = .returned (.pointer (some ⟨w.heap.size, 0, none⟩)) ∧ w' = w.alloc (.cells (shC []) 38) := by
  go_enter Tryz.func5, Tryz.ntmps5
  go_wp2_with fail
  go_ret
  exact ⟨rfl, rfl⟩
/-! Lengths. -/
theorem decDigits_2 (e : Nat) (h : e < 100) : (toldL e).length ≤ 10 := by
  have : ∀ x : Fin 100, (toldL x.val).length ≤ 10 := by decide +kernel
  exact this ⟨e, h⟩
theorem headL_len {v f : Int} (hv : R64 v) (hf : R64 f) : (headL v f).length ≤ 40 := by
  have lv := Lib.itoa_length_le v hv.1 hv.2
  have lf := Lib.itoa_length_le f hf.1 hf.2
  unfold headL
  split <;> simp <;> omega
theorem evalX_len {T s : List UInt8} {own : List (List UInt8)} (h : evalX T own = .ok s) : s.length ≤ 500000 := by
  unfold evalX at h
  split at h
  · cases h
  · split at h
    · cases h
    · rename_i args ha _ p hp
      revert h
      cases he : evalF p args 100 4 with
      | error x => intro h; cases h
      | ok r =>
        intro h
        have hv := evalF_v (args_range _ _ ha) he
        injection h with h
        subst h
        have h1 := headL_len hv.v hv.f
        have h2 := tellsL_len r.2.2 hv.told
        have h3 : r.2.2.length ≤ 20000 := Nat.le_trans hv.len (by decide)
        unfold endedL
        simp only [List.length_append, List.length_cons, List.length_nil]
        omega
theorem ite_no {c : Prop} [Decidable c] {s : List UInt8} (h : (if c then (.error 11 : Except Nat (List UInt8)) else .error 13) = .ok s) : s.length ≤ 500000 := by
  split at h <;> cases h
theorem verbF_len {T x s : List UInt8} {own : List (List UInt8)} (h : (verbF T x own).1 = .ok s) : s.length ≤ 500000 := by
  unfold verbF at h
  split at h
  · injection h with h; subst h; decide
  · unfold clearF at h
    split at h
    · injection h with h; subst h; decide
    · cases h
  · exact evalX_len h
  · exact ite_no h
  · exact ite_no h
  · exact ite_no h
  · exact ite_no h
  · change roundsF own = _ at h
    unfold roundsF at h
    split at h
    · exact ite_no h
    · cases h
  · exact ite_no h
  · cases h
theorem lineF_len (T t : List UInt8) : (lineF T t).1.length ≤ 500000 := by
  unfold lineF
  split
  · simp
  · rename_i x own _
    show (exOut (verbF T x own).1).length ≤ 500000
    cases h : (verbF T x own).1 with
    | ok s => exact verbF_len h
    | error k =>
      have := decDigits_2 k (verbF_err h)
      exact Nat.le_trans this (by decide)
theorem lineF_text (T t : List UInt8) : (lineF T t).2.length ≤ T.length + t.length := by
  unfold lineF
  split
  · simp
  · rename_i x own hw
    show (verbF T x own).2.length ≤ _
    have hs := words_sum t
    rw [hw] at hs
    simp only [sumW] at hs
    unfold verbF
    split
    · rename_i hv
      have hx : x ≠ [] := fun e => by rw [e] at hv; exact absurd hv (by decide)
      have hx1 : 0 < x.length := by cases x with
        | nil => exact absurd rfl hx
        | cons a r => simp
      have hj := join_len own
      show (codeF T own).length ≤ _
      unfold codeF
      simp only [List.length_append, List.length_cons, List.length_nil]
      omega
    · show (clearF T own).2.length ≤ _
      unfold clearF
      split
      · simp
      · exact Nat.le_add_right _ _
    all_goals exact Nat.le_add_right _ _
/-- What lines tell one behind the other, and the text behind them. -/
def stepS (s : List UInt8 × List UInt8) (t : List UInt8) : List UInt8 × List UInt8 := (s.1 ++ (lineF s.2 t).1, (lineF s.2 t).2)
def runS (ls : List (List UInt8)) : List UInt8 × List UInt8 := ls.foldl stepS ([], [])
theorem runS_snoc (ls : List (List UInt8)) (t : List UInt8) : runS (ls ++ [t]) = stepS (runS ls) t := by simp [runS]
def tot (ls : List (List UInt8)) : Nat := (ls.map List.length).sum
theorem fold_lens : ∀ (ls : List (List UInt8)) (s : List UInt8 × List UInt8), (ls.foldl stepS s).1.length ≤ s.1.length + 500000 * ls.length ∧ (ls.foldl stepS s).2.length ≤ s.2.length + tot ls
  | [], s => by simp [tot]
  | t :: ls, s => by
    have h := fold_lens ls (stepS s t)
    have h1 := lineF_len s.2 t
    have h2 := lineF_text s.2 t
    have e1 : (stepS s t).1.length = s.1.length + (lineF s.2 t).1.length := by simp [stepS]
    have e2 : (stepS s t).2 = (lineF s.2 t).2 := rfl
    have e3 : tot (t :: ls) = t.length + tot ls := by simp [tot]
    rw [List.foldl_cons, List.length_cons, e3]
    rw [e2] at h
    omega
theorem runS_lens (ls : List (List UInt8)) : (runS ls).1.length ≤ 500000 * ls.length ∧ (runS ls).2.length ≤ tot ls := by
  have h := fold_lens ls ([], [])
  simp only [List.length_nil, Nat.zero_add] at h
  exact h
theorem splitB_tot (c : UInt8) : ∀ t : List UInt8, tot (splitB c t) ≤ t.length
  | [] => by simp [splitB, tot]
  | x :: r => by
    have h := splitB_tot c r
    unfold splitB
    split
    · simp only [tot, List.map_cons, List.sum_cons, List.length_nil, List.length_cons] at h ⊢
      omega
    · split
      · simp [tot]
      · rename_i h1 t1 he
        rw [he] at h
        simp only [tot, List.map_cons, List.sum_cons, List.length_cons] at h ⊢
        omega
theorem splitB_no (c : UInt8) : ∀ (t : List UInt8), ∀ p ∈ splitB c t, c ∉ p
  | [], p, hp => by
    simp [splitB] at hp
    subst hp
    simp
  | x :: r, p, hp => by
    have h := splitB_no c r
    unfold splitB at hp
    split at hp
    · rcases List.mem_cons.1 hp with rfl | hp
      · simp
      · exact h p hp
    · rename_i hx
      split at hp
      · simp at hp
        subst hp
        simpa using fun e => hx e.symm
      · rename_i h1 t1 he
        rcases List.mem_cons.1 hp with rfl | hp
        · intro hc
          rcases List.mem_cons.1 hc with rfl | hc
          · exact hx rfl
          · exact h h1 (by rw [he]; exact List.mem_cons_self ..) hc
        · exact h p (by rw [he]; exact List.mem_cons_of_mem _ hp)
theorem tot_prefix {l m : List (List UInt8)} (h : l <+: m) : tot l ≤ tot m := by
  obtain ⟨r, rfl⟩ := h
  simp [tot]
def lightL (x : List UInt8) : Prop := ∀ y own, wordsL x = y :: own → lightV (verbN y)
/-- The world in which the range begins. -/
def WR (w : World) (t : List UInt8) : World := splitW (((w.alloc (.cells (shC []) 38)).alloc (.cells #[.pointer (some ⟨w.heap.size, 0, none⟩)] 22)).alloc (.cells #[.pointer none, .slice none 0 0] 51)) ⟨t.toArray⟩ ⟨#[10]⟩
theorem results_t2 {fn : Func} {p p' : Tmp} {P : Program} (h : fn.results = #[.tmp p, .tmp p']) (tmps : Array Value) (w : World) (u u' : Value) (hp : tmps.getD p undef = u) (hp' : tmps.getD p' undef = u') :
    (results fn tmps).run P w = .ok (.tuple #[u, u']) w := by
  have h1 : tmps[p]?.getD undef = u := by simpa using hp
  have h2 : tmps[p']?.getD undef = u' := by simpa using hp'
  simp [results, h, h1, h2]
theorem ownC_bld {β : Type} {bc B b B2 : Nat} (l : β → List UInt8) (hb : b ≠ bc) (hbc : bc < B2) : OwnC bc B (fun (s : β) W => BldR b B2 (l s) W) := by
  rintro s X Y row ⟨h1, h2, p, v, hp, hk, ho⟩ hg hrow
  have hcell : ∀ (k : Nat) (c : Array Value) (t : Nat) (fr : Nat × Nat), X.heap[k]? = some (.cells c t fr) → k ≠ bc → Y.heap[k]? = some (.cells c t fr) := fun k c t fr h hne =>
    (hg.block k (Array.getElem?_eq_some_iff.1 h).1 (fun e => by
      rcases hrow k e.symm with h' | ⟨_, o, ho, hc⟩
      · exact hne h'
      · rw [h] at ho; cases ho; cases hc)).trans h
  refine ⟨h1, Nat.le_trans h2 hg.size, p, v, hp, hcell b _ _ _ hk hb, own_move ho (fun k hk => ?_)⟩
  obtain ⟨c, hc⟩ := own_typed ho k hk
  have := own_base ho k hk
  rw [hcell k c 5 _ hc (by omega), hc]
set_option maxRecDepth 100000 in
set_option maxHeartbeats 4000000 in
theorem run_any (t : List UInt8) (ht : t.length ≤ 65536) (hl : ∀ x ∈ splitB 10 t, lightL x) (w : World) (hA : TabA w) (hTb : Tab w) : Calls Tryz.prog 8 #[.string ⟨t.toArray⟩] w fun e w' => e = .returned (.tuple #[.string ⟨(runS (splitB 10 t)).1.toArray⟩, .int .i64 0]) ∧ Below w.heap.size w w' := by
  have hl1 : ¬ (65536 < (t.length : Int)) := by omega
  have hl2 : decide ((t.length : Int) > 65536) = false := decide_eq_false hl1
  have HT := Lib.hid (And.intro hA hTb)
  have HL := Lib.hid hl
  clear hA hTb hl
  refine (callsIn_wide (n := 5)).1 ?_
  refine callsIn_of_wp_marks Tryz.func8 rfl trivial ?_ rfl
  simp only [Tryz.ntmps8, List.size_toArray, List.length_cons, List.length_nil, Nat.reduceAdd, Nat.reduceSub, Array.replicate_succ, Array.replicate_zero, List.push_toArray, List.append_toArray, List.nil_append, List.cons_append]
  gi_wp2_with (first | (refine ⟨trivial, ?_⟩; gi_at_call 5; refine (callsIn_wide.2 (new_any _)).mono ?_; rintro e w' ⟨rfl, rfl⟩) | (refine ⟨trivial, ?_⟩; gi_at_call 15; refine (callsIn_wide.2 (split_any _ _ _)).mono ?_; rintro e w' ⟨rfl, rfl⟩))
  obtain ⟨m, hm⟩ : ∃ m, m = w.heap.size := ⟨_, rfl⟩
  obtain ⟨Wr, hWr⟩ : ∃ W, WR w t = W := ⟨_, rfl⟩
  have hz : Wr.heap.size = m + 6 := by rw [← hWr, hm]; simp [WR, splitW]
  have hb : Below m w Wr := by
    rw [← hWr, hm]
    exact (((((((Below.refl _ _).alloc (Nat.le_refl _) _).alloc (by simp <;> omega) _).alloc (by simp <;> omega) _).alloc (by simp <;> omega) _).alloc (by simp <;> omega) _).alloc (by simp <;> omega) _)
  have b0 : Wr.heap[m]? = some (.cells (shC []) 38 (0, 0)) := by
    rw [← hWr, hm]
    refine blk_below (heap_alloc_new w (.cells (shC []) 38)) ?_
    exact ((((((Below.refl _ _).alloc (Nat.le_refl _) _).alloc (by simp <;> omega) _).alloc (by simp <;> omega) _).alloc (by simp <;> omega) _).alloc (by simp <;> omega) _)
  have b1 : Wr.heap[m + 1]? = some (.cells #[.pointer (some ⟨m, 0, none⟩)] 22 (0, 0)) := by
    rw [← hWr, hm]
    have h := heap_alloc_new (w.alloc (.cells (shC []) 38)) (.cells #[.pointer (some ⟨w.heap.size, 0, none⟩)] 22)
    rw [World.size_alloc] at h
    refine blk_below h ?_
    exact (((((Below.refl _ _).alloc (Nat.le_refl _) _).alloc (by simp <;> omega) _).alloc (by simp <;> omega) _).alloc (by simp <;> omega) _)
  have b2 : Wr.heap[m + 2]? = some (.cells #[.pointer none, .slice none 0 0] 51 (0, 0)) := by
    rw [← hWr, hm]
    have h := heap_alloc_new ((w.alloc (.cells (shC []) 38)).alloc (.cells #[.pointer (some ⟨w.heap.size, 0, none⟩)] 22)) (.cells #[.pointer none, .slice none 0 0] 51)
    rw [World.size_alloc, World.size_alloc] at h
    refine blk_below h ?_
    exact ((((Below.refl _ _).alloc (Nat.le_refl _) _).alloc (by simp <;> omega) _).alloc (by simp <;> omega) _)
  have hbox : Box3 (m + 3) 10 Wr t := by
    rw [← hWr, hm]
    refine ⟨?_, ?_, ?_⟩
    · have h := Boxed.new (((w.alloc (.cells (shC []) 38)).alloc (.cells #[.pointer (some ⟨w.heap.size, 0, none⟩)] 22)).alloc (.cells #[.pointer none, .slice none 0 0] 51)) 9 (.string ⟨t.toArray⟩)
      rw [World.size_alloc, World.size_alloc, World.size_alloc] at h
      exact (h.alloc _).alloc _
    · have h := Boxed.new ((((w.alloc (.cells (shC []) 38)).alloc (.cells #[.pointer (some ⟨w.heap.size, 0, none⟩)] 22)).alloc (.cells #[.pointer none, .slice none 0 0] 51)).alloc (.cells #[.string ⟨t.toArray⟩] 9)) 9 (.string ⟨#[10]⟩)
      rw [World.size_alloc, World.size_alloc, World.size_alloc, World.size_alloc] at h
      exact h.alloc _
    · have h := Boxed.new (((((w.alloc (.cells (shC []) 38)).alloc (.cells #[.pointer (some ⟨w.heap.size, 0, none⟩)] 22)).alloc (.cells #[.pointer none, .slice none 0 0] 51)).alloc (.cells #[.string ⟨t.toArray⟩] 9)).alloc (.cells #[.string ⟨#[10]⟩] 9)) 3 (.int .i64 0)
      rw [World.size_alloc, World.size_alloc, World.size_alloc, World.size_alloc, World.size_alloc] at h
      exact h
  have HW := Lib.hid hWr
  clear hWr
  change Code.wpIn _ _ _ _ _ _ (WR w t)
  rw [HW.out]
  simp only [splitV, World.size_alloc, ← hm, Nat.add_assoc, Nat.reduceAdd]
  refine rangeCell (F := Fence.wide) (n := 5) rfl (by omega) (gf := 56) (lb := #[.pointer (some ⟨m + 4, 0, none⟩), .pointer (some ⟨m + 3, 0, none⟩), .pointer (some ⟨m + 5, 0, none⟩)]) rfl trivial (enters_of Tryz.func56 (by kernel_rfl) rfl)
    (encs := fun x : List UInt8 => #[.string ⟨x.toArray⟩]) (bc := m + 3) (by omega) (split_iter (5 - 1) (by omega) (m + 3) 10 t (by omega) Wr hbox) (fun h k => Kp3.trans h k) (fun W l o o' hl _ => Kp3.put _ (by omega)) (Below.refl _ _) (fun _ => rfl)
    (fun pre W => (W.heap[m]? = some (.cells (shC (runS pre).2) 38 (0, 0)) ∧ W.heap[m + 1]? = some (.cells #[.pointer (some ⟨m, 0, none⟩)] 22 (0, 0)) ∧ BldR (m + 2) (m + 6) (runS pre).1 W) ∧ Below m Wr W)
    (fun c pre W => False)
    (((ownC_block (fun pre => .cells (shC (runS pre).2) 38 (0, 0)) (fun _ => rfl) (by omega)).and ((ownC_block (fun _ => .cells #[.pointer (some ⟨m, 0, none⟩)] 22 (0, 0)) (fun _ => rfl) (by omega)).and (ownC_bld (fun pre => (runS pre).1) (by omega) (by omega)))).and (ownC_below (by omega) (by omega) (by omega)))
    (fun c => fun s X Y row h _ _ => h)
    ⟨⟨b0, b1, by omega, by omega, .pointer none, .slice none 0 0, .inl rfl, b2, own_nil _ _ _ _⟩, Below.refl _ _⟩
    (fun x => { tmps := #[.string ⟨t.toArray⟩, undef, .string ⟨#[]⟩, .int .i64 0, .pointer (some ⟨m + 1, 0, none⟩), .pointer (some ⟨m + 2, 0, none⟩), .string ⟨x.toArray⟩, .string ⟨t.toArray⟩, .int .i64 (t.length : Nat), .bool false, .pointer (some ⟨m, 0, none⟩), .string ⟨t.toArray⟩, splitV (m + 3), .string ⟨x.toArray⟩, undef, undef, undef, undef, undef], defers := [] }) ?assign ?body ?done ?stop
  all_goals have HM := Lib.hid hm
  all_goals clear hm
  case assign =>
    intro l x W K hK
    gi_wp2
    exact hK
  case body =>
    rintro l pre x W ⟨⟨hs, h1, hbl⟩, hB⟩ hlt hspx
    have hxm : x ∈ splitB 10 t := hspx.subset (by simp)
    have hxl : x.length ≤ 70000 := by have := splitB_part 10 t x hxm; omega
    have htl := runS_lens pre
    have htp := tot_prefix (List.IsPrefix.trans (List.prefix_append _ _) hspx)
    have hts := splitB_tot 10 t
    have hsl := splitB_len 10 t
    have hbw : Below w.heap.size w W := by rw [← HM.out]; exact hb.trans hB
    have HLN := Lib.hid (line_any (gs := m) x hs (splitB_no 10 t x hxm) hxl (by omega) (HT.out.1.below hbw) (Tab.below HT.out.2 hbw) (HL.out x hxm))
    have hlen : (runS pre).1.length + (lineF (runS pre).2 x).1.length ≤ 100000000000 := by
      have := lineF_len (runS pre).2 x
      omega
    have hst : runS (pre ++ [x]) = ((runS pre).1 ++ (lineF (runS pre).2 x).1, (lineF (runS pre).2 x).2) := runS_snoc pre x
    obtain ⟨ln, hln⟩ : ∃ ln, lineF (runS pre).2 x = ln := ⟨_, rfl⟩
    rw [hln] at HLN hlen hst
    have c1 := (blk_cell h1 0).trans rfl
    have HST := Lib.hid hst
    have HLE := Lib.hid hlen
    have HI := Lib.hid (And.intro hs (And.intro h1 (And.intro hbl hB)))
    clear hxm hxl htl htp hts hsl hbw hlen hst hln hs h1 hbl hB hlt hspx
    gi_wp2_with fail
    refine ⟨trivial, ?_⟩
    refine (CallsIn.inRound l (callsIn_wide.2 HLN.out)).mono ?_
    rintro e w5 ⟨rfl, hs5, hu5⟩
    have hk5 := EV.Upd.kq hu5 HI.out.1
    have HI5 := Lib.hid (And.intro hs5 (And.intro (hk5.get HI.out.2.1 (by decide)) (And.intro (HI.out.2.2.1.kq hk5 (by decide) (by decide)) hu5)))
    clear hs5 hu5 hk5 c1
    gi_wp2_with fail
    refine ⟨trivial, ?_⟩
    refine (CallsIn.inRound l (callsIn_wide.2 (write_any (m + 2) (m + 6) _ _ _ HI5.out.2.2.1 HLE.out))).mono ?_
    rintro e w6 ⟨rfl, hb6, hB6, hk6, hs6⟩
    have HI6 := Lib.hid (And.intro hb6 (And.intro hB6 (And.intro hk6 hs6)))
    clear hb6 hB6 hk6 hs6
    gi_wp2_with fail
    have hu5 := HI5.out.2.2.2
    have hsz : m + 6 ≤ W.heap.size := by have := HI.out.2.2.2.size; omega
    refine ⟨⟨Nat.le_trans hu5.size HI6.out.2.2.1.1, fun k o hk ho hc => ?_⟩, fun q h1 h2 => ?_, ⟨?_, ?_, ?_⟩, ?_⟩
    · refine HI6.out.2.2.1.2 k o ?_ (fun c t fr e => by subst e; cases hc)
      rw [hu5.same k (Array.getElem?_eq_some_iff.1 ho).1 (by omega)]
      exact ho
    · rw [HI6.out.2.2.2 q (by omega) (by omega), hu5.same q (by omega) (by omega)]
    · rw [HST.out]
      exact HI6.out.2.2.1.get HI5.out.1 (by decide)
    · exact HI6.out.2.2.1.get HI5.out.2.1 (by decide)
    · rw [HST.out]
      exact HI6.out.1
    · exact HI.out.2.2.2.trans ((hu5.low m (Nat.le_refl _) (by omega)).trans (HI6.out.2.1.mono (by omega)))
  case done =>
    rintro D xs W hD rfl ⟨⟨hs, h1, hbl⟩, hB⟩ hK
    have hbw : Below m w W := hb.trans hB
    have HST := Lib.hid (Tryz.Builder_String_any_k (m + 2) (m + 2) (runS (splitB 10 t)).1 W (hbl.is.imp Lib.BuilderAtF.of Lib.BuilderAtF.of) (by have := blk_lt h1; have := hbl.2.1; omega))
    have HK := Lib.hid hK
    have HBW := Lib.hid hbw
    obtain ⟨so, hso⟩ : ∃ so, (runS (splitB 10 t)).1 = so := ⟨_, rfl⟩
    rw [hso] at HST
    have HSO := Lib.hid hso
    have HSZ : Hid (m + 6 ≤ W.heap.size) := hbl.2.1
    clear hs h1 hbl hB hK hbw hso
    gi_wp2_with (refine ⟨trivial, ?_⟩; gi_at_call 17; refine (callsIn_wide.2 HST.out).mono ?_; rintro e w7 ⟨rfl, _, hb7, ho7⟩; have HB7 := Lib.hid (And.intro hb7 ho7); clear hb7 ho7)
    have hk7 : w7.heap[D]? = some (.deferred (some [])) := HB7.out.2 D _ HK.out (fun e => by injection e with e; omega) (fun c fz e => by cases e)
    refine ⟨by simp, .inl ⟨_, _, rfl, run_takeDeferred hk7, ?_⟩⟩
    refine ⟨_, results_t2 rfl _ _ _ _ rfl rfl, ?_⟩
    rw [HSO.out]
    refine ⟨rfl, ?_⟩
    rw [← HM.out]
    exact below_put (HBW.out.trans (HB7.out.1.mono (by omega))) _ (by have := HSZ.out; have := HB7.out.1.size; omega) (by omega)
  case stop =>
    rintro D c pre W hD hSp h hK
    exact h.elim
end Go.Proofs.YtbiajfkencamiaaGreatDoor.SH
