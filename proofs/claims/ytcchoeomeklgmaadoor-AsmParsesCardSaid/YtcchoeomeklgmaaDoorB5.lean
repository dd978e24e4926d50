/- The document's program in memory, and its reading of a line. -/
import Derived.Test.YtcchoeomeklgmaaDoorB4
import Derived.Test.YtcchoeomeklgmaaDoorAB
import Derived.Outline
namespace Go.Proofs.YtcchoeomeklgmaaDoor.Core.RT
open Go.RowKit Go.Shelf Go.Proofs.YtcchoeomeklgmaaDoorW.PrintWords Go.Proofs.YtcchoeomeklgmaaDoorW.PrintMore Go.Proofs.YtcchoeomeklgmaaDoor.P2 Go.Proofs.YtcchoeomeklgmaaDoor
open Go.Proofs.YtcchoeomeklgmaaDoor.PAsmParses (S69 k69 z69 S67 k67 z67 k67_openM k67_mkM k69_openM k69_mkM)
set_option linter.unusedVariables false
set_option linter.unusedSimpArgs false
def toI (i : Int × List Int) : S69 := ⟨i.1, i.2.getD 0 0, i.2.getD 1 0, i.2.getD 2 0, i.2.getD 3 0⟩
def toP (f : Fn) : S67 := ⟨f.1, f.2.map toI⟩
/-- A row of functions, or of instructions. -/
def rowT (o : Obj) : Prop := ∃ c, o = .cells c 67 (0, 0) ∨ o = .cells c 69 (0, 0)
structure KeepsT (w w' : World) : Prop where
  size : w.heap.size ≤ w'.heap.size
  same : ∀ (k : Nat) (o : Obj), w.heap[k]? = some o → ¬ rowT o → w'.heap[k]? = some o
theorem KeepsT.trans {a b c : World} (h : KeepsT a b) (k : KeepsT b c) : KeepsT a c := ⟨Nat.le_trans h.size k.size, fun q o h1 h2 => k.same q o (h.same q o h1 h2) h2⟩
theorem KeepsT.grown {w w' : World} {row : Option Nat} (hg : w.grownBy w' row) (hrow : ∀ j, row = some j → ∃ c, w.heap[j]? = some (.cells c 67 (0, 0)) ∨ w.heap[j]? = some (.cells c 69 (0, 0))) : KeepsT w w' :=
  ⟨hg.size, fun k o hk ho => (hg.block k (Array.getElem?_eq_some_iff.1 hk).1 (fun e => ho (by
    obtain ⟨c, hc⟩ := hrow k e.symm
    rw [hk] at hc
    exact ⟨c, hc.imp (fun h => Option.some.inj h) (fun h => Option.some.inj h)⟩))).trans hk⟩
theorem KeepsT.set {w : World} {g : Nat} {c : Array Value} (o : Nat) (v : Value) (hg : w.heap[g]? = some (.cells c 67 (0, 0))) : KeepsT w (w.setCell ⟨g, o, none⟩ v) :=
  ⟨(KeepsOthers.setCell w _ v).size, fun k x hk hx => by
    by_cases e : k = g
    · subst e
      rw [hg] at hk
      injection hk with hk
      exact absurd ⟨c, .inl hk.symm⟩ hx
    · exact (Below.heap_setCell w _ v k (by exact e)).trans hk⟩
theorem KeepsT.others {w w' : World} (h : KeepsT w w') : KeepsOthers w w' := ⟨h.size, fun k o hk ho => h.same k o hk (fun ⟨c, hc⟩ => by rcases hc with rfl | rfl <;> cases ho)⟩
theorem KeepsT.block {w w' : World} (h : KeepsT w w') {k t : Nat} {c : Array Value} (hk : w.heap[k]? = some (.cells c t (0, 0))) (h1 : t ≠ 67) (h2 : t ≠ 69) : w'.heap[k]? = some (.cells c t (0, 0)) :=
  h.same k _ hk (fun ⟨c', hc⟩ => by
    rcases hc with hc | hc
    · injection hc with _ hc; exact h1 hc
    · injection hc with _ hc; exact h2 hc)
/-- Nothing below base has turned, and nothing but such rows. -/
def Turned (base : Nat) (w w' : World) : Prop := Below base w w' ∧ KeepsT w w'
theorem Turned.refl (base : Nat) (w : World) : Turned base w w := ⟨Below.refl _ _, Nat.le_refl _, fun _ _ h _ => h⟩
theorem Turned.trans {base : Nat} {a b c : World} (h : Turned base a b) (k : Turned base b c) : Turned base a c := ⟨h.1.trans k.1, h.2.trans k.2⟩
theorem keepsT_below {w w' : World} (h : Below w.heap.size w w') : KeepsT w w' := ⟨h.size, fun k o hk _ => blk_below hk h⟩
theorem Turned.below {base : Nat} {w w' : World} (hb : base ≤ w.heap.size) (h : Below w.heap.size w w') : Turned base w w' := ⟨h.mono hb, keepsT_below h⟩
theorem Turned.set {base : Nat} {w : World} {b : Nat} {c : Array Value} (o : Nat) (hb : base ≤ b) (v : Value) (hg : w.heap[b]? = some (.cells c 67 (0, 0))) : Turned base w (w.setCell ⟨b, o, none⟩ v) := ⟨(Below.refl _ _).setCell (p := ⟨b, o, none⟩) hb _, KeepsT.set o v hg⟩
/-- A program of the call's own. -/
def PrgP (w : World) (base : Nat) (v : Value) (p : List Fn) : Prop := Kd.S k67 67 w base (fun _ => True) v (p.map toP)
theorem PrgP.nil (w : World) (base : Nat) : PrgP w base (.slice none 0 0) [] := Kd.S_nil _ _ _ _ _
theorem PrgP.below {w w' : World} {base : Nat} {v : Value} {p : List Fn} (h : PrgP w base v p) (hb : Below w.heap.size w w') : PrgP w' base v p := Kd.S_below h hb
theorem PrgP.slice {w : World} {base : Nat} {v : Value} {p : List Fn} (h : PrgP w base v p) : ∃ A c, v = .slice A p.length c ∧ p.length ≤ c := by
  obtain ⟨A, c, h1, h2, _⟩ := Kd.S_reads h
  rw [List.length_map] at h1 h2
  exact ⟨A, c, h1, h2⟩
theorem PrgP.keeps {w w1 : World} {base : Nat} {v : Value} {p : List Fn} (h : PrgP w base v p) (hg : w.grownBy w1 v.ownBlock) : KeepsT w w1 :=
  KeepsT.grown hg (fun j ej => by
    obtain ⟨cells, hc⟩ := Kd.S_typed h j ej
    exact ⟨cells, .inl hc⟩)
/-- A cell of another type is written. -/
theorem PrgP.set {w : World} {base : Nat} {v : Value} {p : List Fn} {g t : Nat} {c : Array Value} (h : PrgP w base v p) (hb : w.heap[g]? = some (.cells c t (0, 0))) (h1 : t ≠ 67) (h2 : t ≠ 69) (j : Nat) (u : Value) : PrgP (w.setCell ⟨g, j, none⟩ u) base v p :=
  Kd.S_set h hb (fun q hq => by
    have : q = 67 ∨ q = 69 := by
      have hE : k67.E = [69] := rfl
      rw [hE] at hq
      simpa using hq
    rcases this with rfl | rfl
    · exact h1.symm
    · exact h2.symm) j u
/-- The last function of a program, lent. -/
def LastP (w : World) (base : Nat) (g cap : Nat) (p : List Fn) (f : Fn) (oki : Nat → Prop) (vl : Value) : Prop :=
  (k69.R 69 w base oki vl (f.2.map toI)) ∧ (∀ k, oki k → k ≠ g) ∧ (∃ c, w.heap[g]? = some (.cells c 67 (0, 0))) ∧ Kd.H k67 67 w base (fun _ => True) (.slice (some ⟨g, 0, none⟩) p.length cap) (p.map toP) ((p.length : Int) - 1) oki [.int .i64 f.1, vl]
theorem prg_last {w : World} {base : Nat} {v : Value} {p : List Fn} {f : Fn} (h : PrgP w base v p) (hf : p.getLast? = some f) : ∃ g cap oki vl, v = .slice (some ⟨g, 0, none⟩) p.length cap ∧ base ≤ g ∧ g < w.heap.size ∧
    w.cell? ⟨g, (p.length - 1) * 2 + 1, none⟩ = some vl ∧ w.frozen? ⟨g, (p.length - 1) * 2 + 1, none⟩ = false ∧ LastP w base g cap p f oki vl := by
  have hp : 0 < p.length := by
    cases p with
    | nil => cases hf
    | cons a t => simp
  obtain ⟨g, cap, rfl, hg1, hg2, hgt⟩ := Kd.S_form h (by rw [List.length_map]; exact hp)
  rw [List.length_map] at h ⊢
  obtain ⟨oki, c, hcl, hM, hcc, hfr, hoki, hH⟩ := Kd.S_elem h z67 ((p.length : Int) - 1) (by omega) (by omega)
  have hi : ((p.length : Int) - 1).toNat = p.length - 1 := by omega
  rw [hi] at hM hcc hfr
  have hget : (p.map toP).getD (p.length - 1) z67 = toP f := by
    rw [List.getLast?_eq_getElem?] at hf
    rw [List.getD_eq_getElem?_getD, List.getElem?_map, hf]
    rfl
  rw [hget] at hM
  obtain ⟨vl, rfl, hR⟩ := k67_openM hM
  exact ⟨g, cap, oki, vl, rfl, hg1, hg2, hcc 1 vl rfl, hfr 1, hR, fun k hk => (hoki k hk).2, hgt, hH⟩
/-- Behind the append and the store. -/
theorem prg_grown {w w1 : World} {base g cap : Nat} {p : List Fn} {f : Fn} {oki : Nat → Prop} {vl v1 : Value} {i : Int × List Int} (h : LastP w base g cap p f oki vl) (hp : 0 < p.length)
    (hR : k69.R 69 w1 base (fun k => oki k ∨ True ∧ w.heap.size ≤ k) v1 (f.2.map toI ++ [toI i])) (hg : w.grownBy w1 vl.ownBlock) :
    PrgP (w1.setCell ⟨g, (p.length - 1) * 2 + 1, none⟩ v1) base (.slice (some ⟨g, 0, none⟩) p.length cap) (p.set (p.length - 1) (f.1, f.2 ++ [i])) := by
  obtain ⟨h1, h2, _, h3⟩ := h
  have h4 := Kd.H_widen h3
  have h5 := Kd.H_grown h4 hg (fun k hk => .inl (h1.1 k hk))
  have hglt : g < w.heap.size := by
    obtain ⟨_, f', hR'⟩ := h3
    exact Kd.R_lt hR' g (by simp [Value.ownBlock])
  have hi : ((p.length : Int) - 1).toNat = p.length - 1 := by omega
  have hone := (Kd.R_val hR).2
  obtain ⟨h6, h7⟩ := Kd.H_seg h5 (by omega) (by omega) (seg := [v1]) (j := 1) (by show _ ≤ 2; simp) (by intro q hq; rw [List.mem_singleton.1 hq]; exact hone)
  rw [hi, setCells_one] at h6 h7
  simp only [List.take_succ_cons, List.take_zero, List.length_cons, List.length_nil, List.drop_succ_cons, List.drop_nil, List.append_nil, List.cons_append, List.nil_append] at h6
  have hsz : k67.sz = 2 := rfl
  rw [hsz] at h6 h7
  have hne : ∀ k, (oki k ∨ True ∧ w.heap.size ≤ k) → k ≠ g := by
    intro k hk
    rcases hk with hk | ⟨_, hk⟩
    · exact h2 k hk
    · omega
  have hR2 := Kd.R_far (p := ⟨g, (p.length - 1) * 2 + 1, none⟩) hR (fun k hk => hne k hk) v1
  have hM := k67_mkM _ base _ (toP (f.1, f.2 ++ [i])) (v1 := v1) (show k69.R 69 _ _ _ v1 ((f.2 ++ [i]).map toI) by rw [List.map_append]; exact hR2)
  have h8 := Kd.H_back h6 hM (fun k hk => hk)
  rw [hi] at h8
  unfold PrgP
  rw [List.map_set]
  exact h8
theorem info67 : (Tryd.prog.info? 67).map (fun i => (i.zero, i.size, i.bytes)) = some (some (.agg #[(.int .i64 0), (.slice none 0 0)]), 2, 32) := by kernel_rfl
theorem info69 : (Tryd.prog.info? 69).map (fun i => (i.zero, i.size, i.bytes)) = some (some (.agg #[(.int .i64 0), (.int .i64 0), (.int .i64 0), (.int .i64 0), (.int .i64 0)]), 5, 40) := by kernel_rfl
theorem results_tt {fn : Func} {P : Program} {p q : Tmp} (h : fn.results = #[.tmp p, .tmp q]) (tmps : Array Value) (w : World) (u v : Value) (hp : tmps.getD p undef = u) (hq : tmps.getD q undef = v) :
    (results fn tmps).run P w = .ok (.tuple #[u, v]) w := by
  have hp' : tmps[p]?.getD undef = u := by simpa using hp
  have hq' : tmps[q]?.getD undef = v := by simpa using hq
  simp [results, h, hp', hq']
/-- A program with a line more, or an error's number. -/
def GivesP (base : Nat) (w : World) : Except Int (List Fn) → Ending → World → Prop
  | .ok q, e, w' => ∃ v', e = .returned (.tuple #[v', .int .i64 0]) ∧ PrgP w' base v' q ∧ Turned base w w'
  | .error c, e, w' => e = .returned (.tuple #[.slice none 0 0, .int .i64 c]) ∧ Turned base w w'
theorem LastP.below {w w' : World} {base g cap : Nat} {p : List Fn} {f : Fn} {oki : Nat → Prop} {vl : Value} (h : LastP w base g cap p f oki vl) (hb : Below w.heap.size w w') : LastP w' base g cap p f oki vl :=
  ⟨Kd.R_below h.1 hb, h.2.1, by obtain ⟨c, hc⟩ := h.2.2.1; exact ⟨c, blk_below hc hb⟩, Kd.H_below h.2.2.2 hb⟩
set_option maxRecDepth 100000 in
set_option maxHeartbeats 4000000 in
theorem rtake_nil (t : List UInt8) (ht : t.length ≤ 100000) (hw : wordsL t = []) (w : World) (p : List Fn) (v : Value) (base : Nat) (hS : PrgP w base v p) (hbase : base ≤ w.heap.size) :
    Calls Tryd.prog 14 #[v, .string ⟨t.toArray⟩] w (GivesP base w (.ok p)) := by
  have HWD := Lib.hid (fun W => rwords_any t (by omega) W)
  rw [hw] at HWD
  have HS := Lib.hid hS
  have HB := Lib.hid hbase
  clear hw hS hbase ht
  go_enter Tryd.func14, Tryd.ntmps14
  go_wp2_with fail
  refine (HWD.out _).mono ?_
  rintro _ w1 ⟨v1, rfl, hR1, hb1⟩
  obtain ⟨A1, c1, rfl⟩ := Kd.R_slice hR1
  have HB1 := Lib.hid hb1
  clear hR1 hb1
  go_wp2_with fail
  refine bodyPost_ret (results_tt rfl _ _ _ _ rfl rfl) rfl ?_
  exact ⟨_, rfl, HS.out.below HB1.out, Turned.below HB.out HB1.out⟩
set_option maxRecDepth 100000 in
set_option maxHeartbeats 4000000 in
theorem rtake_func_no (t : List UInt8) (ht : t.length ≤ 100000) (rest : List (List UInt8)) (hw : wordsL t = funcW :: rest) (h1 : rest.length ≠ 1) (w : World) (v : Value) (base : Nat) (hbase : base ≤ w.heap.size) :
    Calls Tryd.prog 14 #[v, .string ⟨t.toArray⟩] w (GivesP base w (.error 4)) := by
  have HWD := Lib.hid (fun W => rwords_any t (by omega) W)
  rw [hw] at HWD
  have HB := Lib.hid hbase
  clear hw hbase ht
  go_enter Tryd.func14, Tryd.ntmps14
  go_wp2_with fail
  refine (HWD.out _).mono ?_
  rintro _ w1 ⟨v1, rfl, hR1, hb1⟩
  obtain ⟨A1, c1, rfl⟩ := Kd.R_slice hR1
  obtain ⟨ad, hA, hc0⟩ := head_str ⟨funcW.toArray⟩ (wB rest) A1 w1 (Kd.R_reads' hR1).2.2
  subst hA
  obtain ⟨n, hn⟩ : ∃ n, n = (wB (funcW :: rest)).length := ⟨_, rfl⟩
  rw [← hn] at hR1 ⊢
  have hn2 : (((n : Int)) != 2) = true := by rw [bne_iff_ne]; simp at hn; omega
  have hnz : (((n : Int)) == 0) = false := by rw [beq_eq_false_iff_ne]; simp at hn; omega
  have hn0 : (0 : Int) < (n : Int) := by simp at hn; omega
  change w1.cell? ad = some (.string ⟨#[102, 117, 110, 99]⟩) at hc0
  have HB1 := Lib.hid hb1
  clear hR1 hb1 hn h1 HWD
  go_wp2_with fail
  refine bodyPost_ret (results_tt rfl _ _ _ _ rfl rfl) rfl ?_
  exact ⟨rfl, Turned.below HB.out HB1.out⟩
set_option maxRecDepth 100000 in
set_option maxHeartbeats 4000000 in
theorem rtake_func_yes (t : List UInt8) (ht : t.length ≤ 100000) (y : List UInt8) (hw : wordsL t = [funcW, y]) (w : World) (p : List Fn) (v : Value) (base : Nat) (hS : PrgP w base v p) (hF : Few p) (hbase : base ≤ w.heap.size) :
    Calls Tryd.prog 14 #[v, .string ⟨t.toArray⟩] w (GivesP base w (takeL p [funcW, y])) := by
  have HWD := Lib.hid (fun W => rwords_any t (by omega) W)
  rw [hw] at HWD
  obtain ⟨A0, c0, rfl, hpc⟩ := hS.slice
  obtain ⟨r, hr, hnb⟩ := rnumber_plain y
  have HP := Lib.hid hnb
  have hsp : takeL p [funcW, y] = (match plainL y with
          | some n => if n ≤ 255 then (if p.length < 255 then .ok (p ++ [(n, [])]) else .error 3) else .error 4
          | none => .error 4) := by rw [takeL, if_pos rfl]; all_goals (cases plainL y <;> rfl)
  obtain ⟨sp, hspd⟩ : ∃ sp, sp = takeL p [funcW, y] := ⟨_, rfl⟩
  rw [← hspd] at hsp ⊢
  generalize plainL y = yv at HP hr hsp
  have HSP := Lib.hid hsp
  have HS := Lib.hid hS
  have HF := Lib.hid hF.1
  have HB := Lib.hid hbase
  clear hw hspd hsp hS hF hbase ht hnb
  go_enter Tryd.func14, Tryd.ntmps14
  go_wp2_with fail
  refine (HWD.out _).mono ?_
  rintro _ w1 ⟨v1, rfl, hR1, hb1⟩
  obtain ⟨A1, c1, rfl⟩ := Kd.R_slice hR1
  obtain ⟨ad, hA, hc0, hc1⟩ := second_str ⟨funcW.toArray⟩ ⟨y.toArray⟩ [] A1 w1 (Kd.R_reads' hR1).2.2
  subst hA
  have hl2 : (wB [funcW, y]).length = 2 := rfl
  rw [hl2]
  obtain ⟨Y, hY⟩ : ∃ Y : ByteArray, Y = ⟨y.toArray⟩ := ⟨_, rfl⟩
  rw [← hY] at hc1
  have HP2 : Hid (∀ W, Calls Tryd.prog 27 #[.string Y, .bool false] W fun e w' => e = .returned (.tuple #[.int .i64 r, .bool yv.isSome]) ∧ Below W.heap.size W w') := fun W => by rw [hY]; exact HP.out W
  change w1.cell? ad = some (.string ⟨#[102, 117, 110, 99]⟩) at hc0
  have HB1 := Lib.hid hb1
  clear hR1 hb1 hl2 hY HP HWD
  go_wp2_with fail
  refine (HP2.out _).mono ?_
  rintro _ w2 ⟨rfl, hb2⟩
  have HBW : Hid (Below w.heap.size w w2) := HB1.out.trans (hb2.mono HB1.out.size)
  clear hb2 hc0 hc1
  cases yv with
  | none =>
    have hu : sp = .error 4 := HSP.out
    go_wp2_with fail
    refine bodyPost_ret (results_tt rfl _ _ _ _ rfl rfl) rfl ?_
    rw [hu]
    exact ⟨rfl, Turned.below HB.out HBW.out⟩
  | some n =>
    obtain rfl : r = n := hr n rfl
    have hu : sp = if r ≤ 255 then (if p.length < 255 then .ok (p ++ [(r, [])]) else .error 3) else .error 4 := HSP.out
    by_cases h255 : r ≤ 255
    · rw [if_pos h255] at hu
      have g3 : decide (r > 255) = false := decide_eq_false (by omega)
      by_cases hlt : p.length < 255
      · rw [if_pos hlt] at hu
        have HU := Lib.hid hu
        have hlt2 : ((p.length : Int) == 255) = false := by rw [beq_eq_false_iff_ne]; omega
        obtain ⟨W1, hW1⟩ : ∃ W, w2 = W := ⟨_, rfl⟩
        rw [hW1]
        have HS1 : Hid (PrgP W1 base (.slice A0 p.length c0) p) := by rw [← hW1]; exact HS.out.below HBW.out
        have HT1 : Hid (Turned base w W1) := by rw [← hW1]; exact Turned.below HB.out HBW.out
        have HZ1 : Hid (base ≤ W1.heap.size) := by rw [← hW1]; exact Nat.le_trans HB.out HBW.out.size
        clear hW1 HBW hu
        go_wp2_with (at_builtin; refine Kd.S_append k67 (w0 := w) base rfl (.tmp 41) (.tmp 44) 36 67 (.agg #[(.int .i64 0), (.slice none 0 0)]) 32 rfl Tryd.underlying36 info67 rfl (by decide) (by omega) (.slice A0 p.length c0) (p.map toP) (toP (r, [])) [.int .i64 r, .slice none 0 0] (fun _ => True) (fun _ => False) rfl rfl (k67_mkM _ _ _ (toP (r, [])) (Kd.R_nil _ _ _ _ _)) (fun _ hk => hk.elim) (fun _ _ => trivial) (Kd.S_mono HS1.out (fun _ _ => ⟨trivial, fun h => h⟩)) HT1.out.1 HZ1.out (by rw [List.length_map]; omega) ?_; intro v1 w2 hs2 hb2 hg2 hat2)
        refine bodyPost_ret (results_tt rfl _ _ _ _ rfl rfl) rfl ?_
        rw [HU.out]
        refine ⟨v1, rfl, ?_, hb2, HT1.out.2.trans (HS1.out.keeps hg2)⟩
        unfold PrgP
        rw [List.map_append]
        exact hs2
      · rw [if_neg hlt] at hu
        have HU := Lib.hid hu
        have hlt2 : p.length = 255 := by have := HF.out; omega
        have hlt3 : ((p.length : Int) == 255) = true := by rw [beq_iff_eq]; omega
        clear hu hlt
        go_wp2_with fail
        refine bodyPost_ret (results_tt rfl _ _ _ _ rfl rfl) rfl ?_
        rw [HU.out]
        exact ⟨rfl, Turned.below HB.out HBW.out⟩
    · rw [if_neg h255] at hu
      have HU := Lib.hid hu
      have g3n : r > 255 := by omega
      have g3 : decide (r > 255) = true := decide_eq_true g3n
      clear hu
      go_wp2_with fail
      refine bodyPost_ret (results_tt rfl _ _ _ _ rfl rfl) rfl ?_
      rw [HU.out]
      exact ⟨rfl, Turned.below HB.out HBW.out⟩
end Go.Proofs.YtcchoeomeklgmaaDoor.Core.RT
