/- eval.Eval: what a program comes to. Printed by gen_se12.py. -/
import Derived.Test.YtbiajfkencamiaaGreatDoorE11
/-! E12 -/
namespace Go.Proofs.YtbiajfkencamiaaGreatDoor.EV
open Go.Proofs.YtbiajfkencamiaaGreatDoorW.PrintMore Go.Proofs.YtbiajfkencamiaaGreatDoor Go.Proofs.YtbiajfkencamiaaGreatDoor.Core Go.RowKit Go.Proofs.YtbiajfkencamiaaGreatDoorW.PrintWords
open Go.Proofs.YtbiajfkencamiaaGreatDoor.PK (S121 k121 z121 S124 k124 z124 at_T124 at_T121 rd_T124 rd_T121)
set_option linter.unusedVariables false
set_option linter.unusedSimpArgs false
theorem results_c2 {fn : Func} {p p' : Tmp} {ty ty' : TypeId} {P : Program} (h : fn.results = #[.cell p ty, .cell p' ty']) (tmps : Array Value) (w : World) (A A' : Addr) (u u' : Value)
    (hp : tmps.getD p undef = .pointer (some A)) (hp' : tmps.getD p' undef = .pointer (some A')) (hl : (loadVar ty A).run P w = .ok u w) (hl' : (loadVar ty' A').run P w = .ok u' w) :
    (results fn tmps).run P w = .ok (.tuple #[u, u']) w := by
  have h1 : tmps[p]?.getD undef = .pointer (some A) := by simpa using hp
  have h2 : tmps[p']?.getD undef = .pointer (some A') := by simpa using hp'
  simp [results, h, h1, h2, asAddr, hl, hl']
theorem size91 : (Tryz.prog.info? 91).map (·.size) = some 4 := by kernel_rfl
theorem eres {W : World} {tmps : Array Value} {b8 b9 : Nat} {r0 r1 r2 r3 : Value} {er : Int} (h8 : W.heap[b8]? = some (.cells #[r0, r1, r2, r3] 91 (0, 0))) (h9 : W.heap[b9]? = some (.cells #[.int .i64 er] 29 (0, 0))) (t8 : tmps.getD 8 undef = .pointer (some ⟨b8, 0, none⟩)) (t9 : tmps.getD 9 undef = .pointer (some ⟨b9, 0, none⟩)) :
    (results Tryz.f48 tmps).run Tryz.prog W = .ok (.tuple #[.agg #[r0, r1, r2, r3], .int .i64 er]) W :=
  results_c2 (by rfl) tmps W ⟨b8, 0, none⟩ ⟨b9, 0, none⟩ _ _ t8 t9 (run_loadVar_row W b8 91 91 _ (0, 0) _ h8 Tryz.underlying91 rfl (by rw [size91]; rfl)) (load29 _ _ _ h9)
/-- A panic leaves Eval by its deferred function. -/
theorem eleave {gv b8 b9 : Nat} {R : Ending → World → Prop} {a : Act} {W : World} {x : Value} {r0 r1 r2 r3 : Value} {er : Int} (hd : a.defers = [{ target := Target.fn (Go.Fn.func 80) #[.pointer (some ⟨gv, 0, none⟩), .pointer (some ⟨b8, 0, none⟩), .pointer (some ⟨b9, 0, none⟩)], args := #[] }]) (t8 : a.tmps[8]?.getD undef = .pointer (some ⟨b8, 0, none⟩)) (t9 : a.tmps[9]?.getD undef = .pointer (some ⟨b9, 0, none⟩))
    (h : CallsD Tryz.prog 80 #[.pointer (some ⟨gv, 0, none⟩), .pointer (some ⟨b8, 0, none⟩), .pointer (some ⟨b9, 0, none⟩)] (.panicking [{ v := x, recovered := false }]) W fun en u' w' => en = .returned (.tuple #[]) ∧ u' = .panicking [{ v := x, recovered := true }] ∧ w'.heap[b8]? = some (.cells #[r0, r1, r2, r3] 91 (0, 0)) ∧ w'.heap[b9]? = some (.cells #[.int .i64 er] 29 (0, 0)) ∧ R (.returned (.tuple #[.agg #[r0, r1, r2, r3], .int .i64 er])) w') :
    bodyPostD Tryz.prog Tryz.f48 R (Exit.panic [{ v := x, recovered := false }]) a W := by
  obtain ⟨tmps, defers⟩ := a
  obtain rfl : defers = _ := hd
  refine leaves_cons (f := 80) (args := #[.pointer (some ⟨gv, 0, none⟩), .pointer (some ⟨b8, 0, none⟩), .pointer (some ⟨b9, 0, none⟩)]) (by simp) (by simp [go_sem]) ?_
  refine h.mono ?_
  rintro e u' w'' ⟨rfl, rfl, h8, h9, hR⟩
  exact ⟨_, eres h8 h9 (by simpa using t8) (by simpa using t9), hR⟩
def ev0 : Ev := { left := 10000, log := [], told := [] }
abbrev hands0 : List (Bool × Int) := [(false, 0), (false, 0), (false, 0), (false, 0)]
def outF (p : List Fn) (args : List Int) (B D : Int) : Out := runF p B D 10001 { ev0 with log := ev0.log ++ [0] } (tk0 0 args hands0 0) 0
def evO : Out → Except Int (Int × Int × List Int)
  | .ok e v => .ok (v, 0, e.told)
  | .fail e why => .ok (0, why, e.told)
  | .long _ => .error 3
/-- What Eval answers: value, fail, told; or an error. -/
def evalF (p : List Fn) (args : List Int) (B D : Int) : Except Int (Int × Int × List Int) :=
  if rightB p args.length B D = true then
    evO (outF p args B D)
  else .error 1
def GivesE (w : World) : Except Int (Int × Int × List Int) → Ending → World → Prop
  | .ok r, e, w' => ∃ TA tc LA ln lc, e = .returned (.tuple #[.agg #[.int .i64 r.1, .int .i64 r.2.1, .slice TA r.2.2.length tc, .slice LA ln lc], .int .i64 0]) ∧ w'.ownsRow w.heap.size 2 1 (.slice TA r.2.2.length tc) r.2.2.length (r.2.2.map (.int .i64)) ∧ Below w.heap.size w w'
  | .error x, e, w' => e = .returned (.tuple #[.agg res0, .int .i64 x]) ∧ Below w.heap.size w w'
/-- Behind the run: where it stands, and Eval's variables. -/
structure EG (c : Cx) (W0 : World) (e : Ev) (X : World) : Prop where
  kq : Kq [142, 2, 229] W0 X
  bel : Below c.base c.w00 X
  ev : c.ev X e
/-- .. and its value is stored. -/
structure EH (c : Cx) (W0 : World) (e : Ev) (v : Int) (X : World) : Prop where
  kq : Kq [142, 2, 229] W0 X
  bel : Below c.base c.w00 X
  ex : ∃ TA tc LA lc, X.heap[c.gw]? = some (.cells #[c.pv, .int .i64 c.B, .int .i64 c.D, .int .i64 (e.left : Int), .int .i64 v, .int .i64 0, .slice TA e.told.length tc, .slice LA e.log.length lc] 142 (0, 0)) ∧ X.ownsRow c.base 2 1 (.slice TA e.told.length tc) e.told.length (e.told.map (.int .i64))
theorem EvR.open {c : Cx} {X : World} {e : Ev} (h : c.ev X e) : c.base ≤ c.gw ∧ ∃ TA tc LA lc, X.heap[c.gw]? = some (.cells #[c.pv, .int .i64 c.B, .int .i64 c.D, .int .i64 (e.left : Int), .int .i64 0, .int .i64 0, .slice TA e.told.length tc, .slice LA e.log.length lc] 142 (0, 0)) ∧ X.ownsRow c.base 2 1 (.slice TA e.told.length tc) e.told.length (e.told.map (.int .i64)) := by
  obtain ⟨hb, tv, lv, lx, q1, q2, q3, q4⟩ := h
  obtain ⟨TA, tc, rfl⟩ := own_slice q2
  obtain ⟨LA, lc, rfl⟩ := own_slice q3
  exact ⟨hb, TA, tc, LA, lc, q1, q2⟩
theorem EG.store {c : Cx} {W0 X : World} {e : Ev} (h : EG c W0 e X) (v : Int) : EH c W0 e v (X.setCell ⟨c.gw, 4, none⟩ (.int .i64 v)) := by
  obtain ⟨h1, h2, h3⟩ := h
  obtain ⟨hb, TA, tc, LA, lc, q1, q2⟩ := EvR.open h3
  have hk : Kq [142] X (X.setCell ⟨c.gw, 4, none⟩ (.int .i64 v)) := Kq.set q1 (by simp) 4 _
  exact ⟨h1.trans (hk.more (by intro t ht; simp at ht; subst ht; simp)), h2.setCell (p := ⟨c.gw, 4, none⟩) hb _, TA, tc, LA, lc, by rw [blk_set q1 4]; rfl, hk.own q2 (by decide)⟩
set_option maxRecDepth 100000 in
set_option maxHeartbeats 8000000 in
theorem eval_any (p : List Fn) (A : Option Addr) (cp : Nat) (sp : Option Addr) (ac : Nat) (args : List Int) (B D : Int) (w : World) (hC : Kd.C k124 w A p.length (p.map toP)) (hcp : p.length ≤ cp) (ha : ArgsR w (.slice sp args.length ac) args) :
    Calls Tryz.prog 48 #[.slice A p.length cp, .slice sp args.length ac, .agg #[.int .i64 B, .int .i64 D], .int .i64 10000] w (GivesE w (evalF p args B D)) := by
  have hmf : ∀ (fn : Go.Fn) (first cap : Array Value) (w : World), (Instr.makeFunc fn first cap).run Tryz.prog w = .ok (.func fn first cap) w := fun _ _ _ _ => rfl
  obtain ⟨rr, hrr⟩ : ∃ rr, evalF p args B D = rr := ⟨_, rfl⟩
  rw [hrr]
  obtain ⟨W1, hW1⟩ : ∃ X : World, X = ((w.alloc (.cells #[.int .i64 B, .int .i64 D] 35)).alloc (.cells res0 91)).alloc (.cells #[.int .i64 0] 29) := ⟨_, rfl⟩
  have hb1 : Below w.heap.size w W1 := by
    rw [hW1]
    exact (((Below.refl _ _).alloc (Nat.le_refl _) _).alloc (by simp) _).alloc (by simp; omega) _
  have hz1 : W1.heap.size = w.heap.size + 3 := by rw [hW1]; simp
  have l0 : W1.heap[w.heap.size]? = some (.cells #[.int .i64 B, .int .i64 D] 35 (0, 0)) := by
    rw [hW1]
    exact (Below.heap_alloc _ _ _ (by simp; omega)).trans ((Below.heap_alloc _ _ _ (by simp)).trans (heap_alloc_new w _))
  have l8 : W1.heap[w.heap.size + 1]? = some (.cells res0 91 (0, 0)) := by
    rw [hW1]
    refine (Below.heap_alloc _ _ _ (by simp)).trans ?_
    have := heap_alloc_new (w.alloc (.cells #[.int .i64 B, .int .i64 D] 35)) (.cells res0 91)
    rwa [World.size_alloc] at this
  have l9 : W1.heap[w.heap.size + 1 + 1]? = some (.cells #[.int .i64 0] 29 (0, 0)) := by
    rw [hW1]
    have := heap_alloc_new ((w.alloc (.cells #[.int .i64 B, .int .i64 D] 35)).alloc (.cells res0 91)) (.cells #[.int .i64 0] 29)
    rwa [World.size_alloc, World.size_alloc] at this
  have HRT := Lib.hid (fun X (hX : Below w.heap.size w X) => right_any p A cp sp args.length ac B D X (Kd.C_below hC hX))
  have HB1 := Lib.hid hb1
  have HZ1 := Lib.hid hz1
  have HL := Lib.hid (And.intro l0 (And.intro l8 l9))
  have k0 := (blk_cell l0 0).trans rfl
  have k1 := (blk_cell l0 1).trans rfl
  have HC := Lib.hid (And.intro hC (And.intro hcp ha))
  have HRR := Lib.hid hrr
  have HW1 := Lib.hid hW1
  obtain ⟨an, han⟩ : ∃ an, an = args.length := ⟨_, rfl⟩
  rw [← han] at HRT ⊢
  have HAN := Lib.hid han
  obtain ⟨n, hn⟩ : ∃ n, n = p.length := ⟨_, rfl⟩
  rw [← hn] at HRT ⊢
  have HN := Lib.hid hn
  clear hrr hW1 hb1 hz1 l0 l8 l9 hC hcp ha han hn
  go_enter_defers Tryz.func48, Tryz.ntmps48
  rw [HW1.out] at k0 k1
  go_wp2_with fail
  rw [← HW1.out]
  generalize h9 : w.heap.size + 1 + 1 = b9 at HL ⊢
  generalize h8 : w.heap.size + 1 = b8 at HL ⊢
  have HLE : Hid (w.heap.size ≤ b8 ∧ w.heap.size ≤ b9) := by constructor <;> omega
  have HNE : Hid (b8 < W1.heap.size ∧ b9 < W1.heap.size) := by rw [HZ1.out]; constructor <;> omega
  clear h8 h9 k0 k1
  refine (HRT.out W1 HB1.out).mono ?_
  rintro _ w1 ⟨rfl, hb⟩
  have l0 := blk_below HL.out.1 hb
  have l8 := blk_below HL.out.2.1 hb
  have l9 := blk_below HL.out.2.2 hb
  have HB2 : Hid (Below w.heap.size w w1) := HB1.out.trans (hb.mono HB1.out.size)
  have HS2 : Hid (W1.heap.size ≤ w1.heap.size) := hb.size
  have n4 : ¬ b8 = b9 := fun e => by rw [e, l9] at l8; cases l8
  have m4 : ¬ b9 = b8 := fun e => n4 e.symm
  clear hb
  cases hr : rightB p an B D with
  | false =>
    have HEND : Hid ((((((w1.setCell ⟨b8, 0, none⟩ (.int .i64 0)).setCell ⟨b8, 1, none⟩ (.int .i64 0)).setCell ⟨b8, 2, none⟩ (.slice none 0 0)).setCell ⟨b8, 3, none⟩ (.slice none 0 0)).setCell ⟨b9, 0, none⟩ (.int .i64 1)).heap[b8]? = some (.cells res0 91 (0, 0)) ∧ (((((w1.setCell ⟨b8, 0, none⟩ (.int .i64 0)).setCell ⟨b8, 1, none⟩ (.int .i64 0)).setCell ⟨b8, 2, none⟩ (.slice none 0 0)).setCell ⟨b8, 3, none⟩ (.slice none 0 0)).setCell ⟨b9, 0, none⟩ (.int .i64 1)).heap[b9]? = some (.cells #[.int .i64 1] 29 (0, 0)) ∧ Below w.heap.size w (((((w1.setCell ⟨b8, 0, none⟩ (.int .i64 0)).setCell ⟨b8, 1, none⟩ (.int .i64 0)).setCell ⟨b8, 2, none⟩ (.slice none 0 0)).setCell ⟨b8, 3, none⟩ (.slice none 0 0)).setCell ⟨b9, 0, none⟩ (.int .i64 1))) := by
      have a2 := blk_set l8 0 (.int .i64 0)
      have a3 := blk_set a2 1 (.int .i64 0)
      have a4 := blk_set a3 2 (.slice none 0 0)
      have a5 := blk_set a4 3 (.slice none 0 0)
      have e1 := blk_far (p := ⟨b8, 3, none⟩) (blk_far (p := ⟨b8, 2, none⟩) (blk_far (p := ⟨b8, 1, none⟩) (blk_far (p := ⟨b8, 0, none⟩) l9 m4 (.int .i64 0)) m4 (.int .i64 0)) m4 (.slice none 0 0)) m4 (.slice none 0 0)
      refine ⟨blk_far a5 n4 _, blk_set e1 0 _, ?_⟩
      exact ((((HB2.out.setCell (p := ⟨b8, 0, none⟩) HLE.out.1 _).setCell (p := ⟨b8, 1, none⟩) HLE.out.1 _).setCell (p := ⟨b8, 2, none⟩) HLE.out.1 _).setCell (p := ⟨b8, 3, none⟩) HLE.out.1 _).setCell (p := ⟨b9, 0, none⟩) HLE.out.2 _
    have HF : Hid (rr = .error 1) := by
      show rr = _
      rw [← HRR.out]
      unfold evalF
      rw [← HAN.out, hr]
      rfl
    have x0 := (blk_cell l8 0).trans rfl
    have x1 := (blk_cell l8 1).trans rfl
    have x2 := (blk_cell l8 2).trans rfl
    have x3 := (blk_cell l8 3).trans rfl
    have x4 := (blk_cell l9 0).trans rfl
    have y0 := blk_frozen l8 0
    have y1 := blk_frozen l8 1
    have y2 := blk_frozen l8 2
    have y3 := blk_frozen l8 3
    have y4 := blk_frozen l9 0
    clear l0 l8 l9 hr
    go_wp2_with fail
    rw [HF.out]
    refine ⟨_, eres HEND.out.1 HEND.out.2.1 rfl rfl, rfl, HEND.out.2.2⟩
  | true =>
    have k0 := (blk_cell l0 0).trans rfl
    have k1 := (blk_cell l0 1).trans rfl
    have HR := Lib.hid hr
    have HL2 := Lib.hid (And.intro l8 l9)
    obtain ⟨gw, hgw⟩ : ∃ gw, gw = w1.heap.size := ⟨_, rfl⟩
    obtain ⟨W0, hW0⟩ : ∃ X : World, X = (w1.alloc (.cells #[.slice A n cp, .int .i64 B, .int .i64 D, .int .i64 10000, .int .i64 0, .int .i64 0, .slice none 0 0, .slice none 0 0] 142)).alloc (.cells #[.pointer (some ⟨gw, 0, none⟩)] 140) := ⟨_, rfl⟩
    have hbw : Below w1.heap.size w1 W0 := by
      rw [hW0]
      exact ((Below.refl _ _).alloc (Nat.le_refl _) _).alloc (by simp) _
    have hGW : W0.heap[gw]? = some (.cells #[.slice A n cp, .int .i64 B, .int .i64 D, .int .i64 10000, .int .i64 0, .int .i64 0, .slice none 0 0, .slice none 0 0] 142 (0, 0)) := by
      rw [hW0, hgw]
      exact (Below.heap_alloc _ _ _ (by simp)).trans (heap_alloc_new w1 _)
    have hGV : W0.heap[gw + 1]? = some (.cells #[.pointer (some ⟨gw, 0, none⟩)] 140 (0, 0)) := by
      rw [hW0]
      have := heap_alloc_new (w1.alloc (.cells #[.slice A n cp, .int .i64 B, .int .i64 D, .int .i64 10000, .int .i64 0, .int .i64 0, .slice none 0 0, .slice none 0 0] 142)) (.cells #[.pointer (some ⟨gw, 0, none⟩)] 140)
      rwa [World.size_alloc, ← hgw] at this
    clear l0 l8 l9 hr
    go_wp2_with fail
    rw [show max (10000 : Int) 0 = 10000 from by decide]
    rw [← hgw]
    rw [← hW0]
    obtain ⟨oo, hoo⟩ : ∃ oo, outF p args B D = oo := ⟨_, rfl⟩
    have HOO : Hid (evO oo = rr) := by
      show evO oo = rr
      rw [← HRR.out, ← hoo]
      unfold evalF
      rw [← HAN.out, HR.out]
      rfl
    obtain ⟨c, hc⟩ : ∃ c : Cx, c = { p := p, B := B, D := D, w00 := w, gw := gw, A := A, cp := cp } := ⟨_, rfl⟩
    have ec : c.gw = gw := by rw [hc]
    have ec0 : c.w00 = w := by rw [hc]
    have hlen : args.length ≤ 4 ∧ D ≤ 30 ∧ 0 ≤ D ∧ validB p = true := by
      have h := HR.out
      unfold rightB limB at h
      simp only [Bool.and_eq_true, decide_eq_true_eq, beq_iff_eq] at h
      have h1 := (valid_fn h.1.1 0 (by have := (valid_len h.1.1).1; omega)).ar
      have h2 := h.2
      have h3 : arityOf p 0 ≤ 4 := h1.2
      rw [HAN.out] at h2
      exact ⟨by omega, h.1.2.2.2, h.1.2.2.1, h.1.1⟩
    have hok : c.Ok := by
      rw [hc]
      exact ⟨hlen.2.2.2, HC.out.2.1, HC.out.1, by show D ≤ 1000; omega⟩
    have hbx : Below w.heap.size w W0 := HB2.out.trans (hbw.mono HB2.out.size)
    have HBG : Hid (∀ X, Below W0.heap.size W0 X → Calls Tryz.prog 81 #[.pointer (some ⟨c.gw, 0, none⟩), .int .i64 0, .slice none 0 0, .slice sp an ac, .agg #[.bool false, .int .i64 0, .bool false, .int .i64 0, .bool false, .int .i64 0, .bool false, .int .i64 0]] X (RP c X oo)) := fun X hX => by
      have hbX : Below w.heap.size w X := hbx.trans (hX.mono hbx.size)
      have hev : c.ev X ev0 := by
        rw [hc]
        refine ⟨?_, .slice none 0 0, .slice none 0 0, [], ?_, own_nil _ _ _ _, own_nil _ _ _ _, LogOf.nil⟩
        · show w.heap.size ≤ gw
          rw [hgw]
          exact HB2.out.size
        · have := blk_below hGW hX
          rw [HN.out] at this
          exact this
      have := begin_any hok 10001 (run_any hok 10001) X ev0 0 0 (.slice none 0 0) (.slice sp args.length ac) args hands0 (by rw [hc]; exact (valid_len hlen.2.2.2).1) hev ⟨by decide, by decide, by decide⟩ (by decide) ⟨[], own_nil _ _ _ _⟩ (HC.out.2.2.below hbX) (by omega) rfl (by rw [ec0, show c.base = w.heap.size from by rw [hc]]; exact hbX) (by rw [hc]; exact hlen.2.2.1)
      rw [HAN.out, ← hoo]
      rw [hc] at this ⊢
      exact this
    rw [← ec]
    have HLE2 : Hid (c.base ≤ b8 ∧ c.base ≤ b9) := by rw [hc]; exact HLE.out
    have HGV : Hid (W0.heap[gw + 1]? = some (.cells #[.pointer (some ⟨c.gw, 0, none⟩)] 140 (0, 0))) := by rw [ec]; exact hGV
    have H89 : Hid (W0.heap[b8]? = some (.cells res0 91 (0, 0)) ∧ W0.heap[b9]? = some (.cells #[.int .i64 0] 29 (0, 0))) := ⟨blk_below HL2.out.1 hbw, blk_below HL2.out.2 hbw⟩
    rw [← ec] at HGV
    generalize c.gw + 1 = gv at HGV ⊢
    have ew : w = c.w00 := ec0.symm
    clear hoo hok hlen hbx hbw hGW hGV hc ec hgw hW0 n4 m4 HLE HL HNE HL2 HC HR HRR HB1 HB2 HZ1 HS2 HRT HN HAN HW1 k0 k1
    subst ec0
    have HLE := HLE2
    clear HLE2 ew
    refine Reg.wp_region_phase (by kernel_rfl) [4, 8] (fun i => match i with | 0 => fun v => v = .pointer (some ⟨c.gw, 0, none⟩) | 1 => fun v => v = .pointer (some ⟨c.gw, 0, none⟩) | 2 => fun v => v = .slice sp an ac | 3 => fun v => v = .agg #[.bool false, .int .i64 0, .bool false, .int .i64 0, .bool false, .int .i64 0, .bool false, .int .i64 0] | 5 => fun v => v = .pointer (some ⟨c.gw, 0, none⟩) | 6 => fun v => v = .pointer (some ⟨c.gw, 4, none⟩) | 7 => fun v => v = .pointer (some ⟨c.gw, 4, none⟩) | _ => fun _ => True) (fun k f9 X => match k with | 0 => Below W0.heap.size W0 X | 1 => ∃ e2 v, oo = .ok e2 v ∧ f9 28 = .int .i64 v ∧ EG c W0 e2 X | _ => ∃ e2 v, oo = .ok e2 v ∧ EH c W0 e2 v X) (by kernel_rfl) (by kernel_rfl) (by decide) (by decide) ?hJ ?h0 ?pure ?act ?fin
    case hJ => (intro k f9 f' X h hj; match k, hj with
    | 0, hj => exact hj
    | 1, hj => (obtain ⟨e2, v, h1, h2, h3⟩ := hj; exact ⟨e2, v, h1, (h 0 (by omega) (by decide) 28 (by kernel_rfl)).symm.trans h2, h3⟩)
    | k + 2, hj => exact hj)
    case h0 => exact pw_below_drewN (Below.refl _ _) 1
    case pure =>
      intro i o k a w_ ho hE hk hmc hf hst hkn hj
      have hi : i < 9 := (Array.getElem?_eq_some_iff.1 ho).1
      obtain rfl | rfl | rfl | rfl | rfl | rfl | rfl : i = 0 ∨ i = 1 ∨ i = 2 ∨ i = 3 ∨ i = 5 ∨ i = 6 ∨ i = 7 := by
        simp only [List.mem_cons, List.not_mem_nil, or_false, not_or] at hE
        omega
      · skip
        obtain rfl := Reg.oper_eq ho rfl
        have e10 : a.eval (.tmp 10) = .pointer (some ⟨gv, 0, none⟩) := (hf.eval 10 (by kernel_rfl)).trans rfl
        have g10 := Reg.eval_getD e10
        have hz : w_.heap[gv]? = some (.cells #[.pointer (some ⟨c.gw, 0, none⟩)] 140 (0, 0)) := by
          have hk3 : k = 0 ∨ k = 1 ∨ k = 2 := by (simp only [List.length_cons, List.length_nil] at hk; omega)
          rcases hk3 with rfl | rfl | rfl
          · exact blk_below HGV.out hj
          · obtain ⟨e2, v, _, _, h3⟩ := hj
            exact h3.kq.get HGV.out (by decide)
          · obtain ⟨e2, v, _, h3⟩ := hj
            exact h3.kq.get HGV.out (by decide)
        have kf := (blk_cell hz 0).trans rfl
        exact Reg.op_value rfl rfl (by simp only [List.getElem_toArray, List.getElem_cons_zero, List.getElem_cons_succ, execOp, e10]; go_simp) ⟨_, rfl, rfl, hj⟩
      · skip
        obtain rfl := Reg.oper_eq ho rfl
        have e10 : a.eval (.tmp 10) = .pointer (some ⟨gv, 0, none⟩) := (hf.eval 10 (by kernel_rfl)).trans rfl
        have g10 := Reg.eval_getD e10
        have hz : w_.heap[gv]? = some (.cells #[.pointer (some ⟨c.gw, 0, none⟩)] 140 (0, 0)) := by
          have hk3 : k = 0 ∨ k = 1 ∨ k = 2 := by (simp only [List.length_cons, List.length_nil] at hk; omega)
          rcases hk3 with rfl | rfl | rfl
          · exact blk_below HGV.out hj
          · obtain ⟨e2, v, _, _, h3⟩ := hj
            exact h3.kq.get HGV.out (by decide)
          · obtain ⟨e2, v, _, h3⟩ := hj
            exact h3.kq.get HGV.out (by decide)
        have kf := (blk_cell hz 0).trans rfl
        exact Reg.op_value rfl rfl (by simp only [List.getElem_toArray, List.getElem_cons_zero, List.getElem_cons_succ, execOp, e10]; go_simp) ⟨_, rfl, rfl, hj⟩
      · skip
        obtain rfl := Reg.oper_eq ho rfl
        have e1 : a.eval (.tmp 1) = .slice sp an ac := (hf.eval 1 (by kernel_rfl)).trans rfl
        have g1 := Reg.eval_getD e1
        exact Reg.op_value rfl rfl (by simp only [List.getElem_toArray, List.getElem_cons_zero, List.getElem_cons_succ, execOp, e1]; go_simp) ⟨_, rfl, rfl, hj⟩
      · skip
        obtain rfl := Reg.oper_eq ho rfl
        exact Reg.op_value rfl rfl (by simp only [List.getElem_toArray, List.getElem_cons_zero, List.getElem_cons_succ, execOp]; go_simp) ⟨_, rfl, rfl, hj⟩
      · skip
        obtain rfl := Reg.oper_eq ho rfl
        have e24 : a.eval (.tmp 24) = .pointer (some ⟨c.gw, 0, none⟩) := hkn.eval 0 24 (by kernel_rfl) (by kernel_rfl)
        have g24 := Reg.eval_getD e24
        exact Reg.op_value rfl rfl (by simp only [List.getElem_toArray, List.getElem_cons_zero, List.getElem_cons_succ, execOp, e24]; go_simp) ⟨_, rfl, rfl, hj⟩
      · skip
        obtain rfl := Reg.oper_eq ho rfl
        have e29 : a.eval (.tmp 29) = .pointer (some ⟨c.gw, 0, none⟩) := hkn.eval 5 29 (by kernel_rfl) (by kernel_rfl)
        have g29 := Reg.eval_getD e29
        exact Reg.op_value rfl rfl (by simp only [List.getElem_toArray, List.getElem_cons_zero, List.getElem_cons_succ, execOp, e29]; go_simp) ⟨_, rfl, rfl, hj⟩
      · skip
        obtain rfl := Reg.oper_eq ho rfl
        have e30 : a.eval (.tmp 30) = .pointer (some ⟨c.gw, 4, none⟩) := hkn.eval 6 30 (by kernel_rfl) (by kernel_rfl)
        have g30 := Reg.eval_getD e30
        exact Reg.op_value rfl rfl (by simp only [List.getElem_toArray, List.getElem_cons_zero, List.getElem_cons_succ, execOp, e30]; go_simp) ⟨_, rfl, rfl, hj⟩
    case act =>
      intro k o a w_ hk ho hf hst hkn hj
      obtain rfl | rfl : k = 0 ∨ k = 1 := by simp only [List.length_cons, List.length_nil] at hk; omega
      · skip
        obtain rfl := Reg.oper_eq ho rfl
        have e25 : a.eval (.tmp 25) = .pointer (some ⟨c.gw, 0, none⟩) := hkn.eval 1 25 (by kernel_rfl) (by kernel_rfl)
        have e26 : a.eval (.tmp 26) = .slice sp an ac := hkn.eval 2 26 (by kernel_rfl) (by kernel_rfl)
        have e27 : a.eval (.tmp 27) = .agg #[.bool false, .int .i64 0, .bool false, .int .i64 0, .bool false, .int .i64 0, .bool false, .int .i64 0] := hkn.eval 3 27 (by kernel_rfl) (by kernel_rfl)
        have g25 := Reg.eval_getD e25
        have g26 := Reg.eval_getD e26
        have g27 := Reg.eval_getD e27
        refine Reg.op_call (f := 81) (args := #[.pointer (some ⟨c.gw, 0, none⟩), .int .i64 0, .slice none 0 0, .slice sp an ac, .agg #[.bool false, .int .i64 0, .bool false, .int .i64 0, .bool false, .int .i64 0, .bool false, .int .i64 0]]) (w' := w_) rfl rfl (by simp only [List.getElem_toArray, List.getElem_cons_zero, List.getElem_cons_succ, execOp, e25, e26, e27]; go_simp) ((HBG.out w_ hj).mono ?_)
        rintro e9 w2 hrp
        have hd := hf.defers
        have e8 : a.eval (.tmp 8) = .pointer (some ⟨b8, 0, none⟩) := (hf.eval 8 (by kernel_rfl)).trans rfl
        have e9' : a.eval (.tmp 9) = .pointer (some ⟨b9, 0, none⟩) := (hf.eval 9 (by kernel_rfl)).trans rfl
        have t8 := Reg.eval_getD e8
        have t9 := Reg.eval_getD e9'
        obtain ⟨g1, g2, g3⟩ := hrp
        have k8 := g1.get (blk_below H89.out.1 hj) (by decide)
        have k9 := g1.get (blk_below H89.out.2 hj) (by decide)
        have kv := g1.get (blk_below HGV.out hj) (by decide)
        cases oo with
        | ok e2 v =>
          obtain ⟨rfl, g4⟩ := g3
          exact .inl ⟨_, rfl, _, rfl, trivial, e2, v, rfl, Reg.val_put_in hf (by kernel_rfl), (Kq.below hj).trans g1, g2, g4⟩
        | fail e2 why =>
          obtain ⟨rfl, g4⟩ := g3
          refine .inr ⟨_, rfl, ?_⟩
          obtain ⟨hb, TA, tc, LA, lc, q1, q2⟩ := EvR.open g4
          refine eleave (r0 := .int .i64 0) (r1 := .int .i64 why) (r2 := .slice TA e2.told.length tc) (r3 := .slice LA e2.log.length lc) (er := 0) hd t8 t9 ((ecatch_fail gv b8 b9 c.gw c.pv TA LA _ tc _ lc c.B c.D _ why [] w2 kv q1 k8 k9).mono ?_)
          rintro e u' w' ⟨rfl, rfl, hc⟩
          refine ⟨rfl, rfl, hc.x8, hc.x9, ?_⟩
          rw [← HOO.out]
          exact ⟨TA, tc, _, _, _, rfl, hc.kq.own q2 (by decide), g2.trans (hc.bel _ hb HLE.out.1 HLE.out.2 g2.size)⟩
        | long e2 =>
          obtain ⟨rfl, g4⟩ := g3
          refine .inr ⟨_, rfl, ?_⟩
          obtain ⟨hb, TA, tc, LA, lc, q1, q2⟩ := EvR.open g4
          refine eleave (r0 := .int .i64 0) (r1 := .int .i64 0) (r2 := .slice none 0 0) (r3 := .slice none 0 0) (er := 3) hd t8 t9 ((ecatch_long gv b8 b9 c.gw [] w2 k8 k9).mono ?_)
          rintro e u' w' ⟨rfl, rfl, hc⟩
          refine ⟨rfl, rfl, hc.x8, hc.x9, ?_⟩
          rw [← HOO.out]
          exact ⟨rfl, g2.trans (hc.bel _ hb HLE.out.1 HLE.out.2 g2.size)⟩
      · skip
        obtain rfl := Reg.oper_eq ho rfl
        have e31 : a.eval (.tmp 31) = .pointer (some ⟨c.gw, 4, none⟩) := hkn.eval 7 31 (by kernel_rfl) (by kernel_rfl)
        have g31 := Reg.eval_getD e31
        obtain ⟨e2, v, h1, h28, h3⟩ := hj
        have e28' : a.eval (.tmp 28) = .int .i64 v := (Reg.eval_val a 28).trans h28
        have g28 := Reg.eval_getD e28'
        obtain ⟨hb, TA, tc, LA, lc, q1, q2⟩ := EvR.open h3.ev
        have kf := (blk_cell q1 4).trans rfl
        have qf := blk_frozen q1 4
        exact Reg.op_unit (w' := w_.setCell ⟨c.gw, 4, none⟩ (.int .i64 v)) rfl rfl (by simp only [List.getElem_toArray, List.getElem_cons_zero, List.getElem_cons_succ, execOp, e28', e31]; go_simp) ⟨_, rfl, trivial, e2, v, h1, h3.store v⟩
    case fin =>
      intro a w_ hf hkn hj
      have e24 : Reg.val a 24 = _ := hkn 0 24 (by show _ < _; decide) (by kernel_rfl)
      have e25 : Reg.val a 25 = _ := hkn 1 25 (by show _ < _; decide) (by kernel_rfl)
      have e26 : Reg.val a 26 = _ := hkn 2 26 (by show _ < _; decide) (by kernel_rfl)
      have e27 : Reg.val a 27 = _ := hkn 3 27 (by show _ < _; decide) (by kernel_rfl)
      have e29 : Reg.val a 29 = _ := hkn 5 29 (by show _ < _; decide) (by kernel_rfl)
      have e30 : Reg.val a 30 = _ := hkn 6 30 (by show _ < _; decide) (by kernel_rfl)
      have e31 : Reg.val a 31 = _ := hkn 7 31 (by show _ < _; decide) (by kernel_rfl)
      rw [Reg.frm_fold hf [24, 25, 26, 27, 28, 29, 30, 31] (by kernel_rfl) (by kernel_rfl)]
      simp only [List.foldl_cons, List.foldl_nil, Act.put, List.setIfInBounds_toArray, List.set_cons_zero, List.set_cons_succ, e24, e25, e26, e27, e29, e30, e31]
      generalize Reg.val a 28 = v28_ at *
      clear hkn hf e24 e25 e26 e27 e29 e30 e31
      obtain ⟨e2, v, h1, h3⟩ := hj
      subst h1
      have k8 := h3.kq.get H89.out.1 (by decide)
      have k9 := h3.kq.get H89.out.2 (by decide)
      have kv := h3.kq.get HGV.out (by decide)
      obtain ⟨TA, tc, LA, lc, q1, q2⟩ := h3.ex
      obtain ⟨tn, htn⟩ : ∃ tn, tn = e2.told.length := ⟨_, rfl⟩
      obtain ⟨ln, hln⟩ : ∃ ln, ln = e2.log.length := ⟨_, rfl⟩
      rw [← htn] at q1 q2
      rw [← hln] at q1
      have HTN := Lib.hid htn
      clear htn hln
      have d0 := (blk_cell kv 0).trans rfl
      have c0 := (blk_cell q1 4).trans rfl
      have c1 := (blk_cell q1 5).trans rfl
      have c2 := (blk_cell q1 6).trans rfl
      have c3 := (blk_cell q1 7).trans rfl
      have x0 := (blk_cell k8 0).trans rfl
      have x1 := (blk_cell k8 1).trans rfl
      have x2 := (blk_cell k8 2).trans rfl
      have x3 := (blk_cell k8 3).trans rfl
      have x4 := (blk_cell k9 0).trans rfl
      have y0 := blk_frozen k8 0
      have y1 := blk_frozen k8 1
      have y2 := blk_frozen k8 2
      have y3 := blk_frozen k8 3
      have y4 := blk_frozen k9 0
      have n1 : ¬ c.gw = b8 := fun e => by rw [e, k8] at q1; cases q1
      have n2 : ¬ b8 = c.gw := fun e => n1 e.symm
      have n3 : ¬ b8 = b9 := fun e => by rw [e, k9] at k8; cases k8
      have n4 : ¬ b9 = b8 := fun e => n3 e.symm
      have n5 : ¬ gv = b8 := fun e => by rw [e, k8] at kv; cases kv
      have n6 : ¬ b8 = gv := fun e => n5 e.symm
      have HEND : Hid ((((((w_.setCell ⟨b8, 0, none⟩ (.int .i64 v)).setCell ⟨b8, 1, none⟩ (.int .i64 0)).setCell ⟨b8, 2, none⟩ (.slice TA tn tc)).setCell ⟨b8, 3, none⟩ (.slice LA ln lc)).setCell ⟨b9, 0, none⟩ (.int .i64 0)).heap[b8]? = some (.cells #[.int .i64 v, .int .i64 0, .slice TA tn tc, .slice LA ln lc] 91 (0, 0)) ∧ (((((w_.setCell ⟨b8, 0, none⟩ (.int .i64 v)).setCell ⟨b8, 1, none⟩ (.int .i64 0)).setCell ⟨b8, 2, none⟩ (.slice TA tn tc)).setCell ⟨b8, 3, none⟩ (.slice LA ln lc)).setCell ⟨b9, 0, none⟩ (.int .i64 0)).heap[b9]? = some (.cells #[.int .i64 0] 29 (0, 0)) ∧ (((((w_.setCell ⟨b8, 0, none⟩ (.int .i64 v)).setCell ⟨b8, 1, none⟩ (.int .i64 0)).setCell ⟨b8, 2, none⟩ (.slice TA tn tc)).setCell ⟨b8, 3, none⟩ (.slice LA ln lc)).setCell ⟨b9, 0, none⟩ (.int .i64 0)).ownsRow c.base 2 1 (.slice TA tn tc) tn (e2.told.map (.int .i64)) ∧ Below c.base c.w00 (((((w_.setCell ⟨b8, 0, none⟩ (.int .i64 v)).setCell ⟨b8, 1, none⟩ (.int .i64 0)).setCell ⟨b8, 2, none⟩ (.slice TA tn tc)).setCell ⟨b8, 3, none⟩ (.slice LA ln lc)).setCell ⟨b9, 0, none⟩ (.int .i64 0))) := by
        have a2 := blk_set k8 0 (.int .i64 v)
        have a3 := blk_set a2 1 (.int .i64 0)
        have a4 := blk_set a3 2 (.slice TA tn tc)
        have a5 := blk_set a4 3 (.slice LA ln lc)
        have e1 := blk_far (p := ⟨b8, 3, none⟩) (blk_far (p := ⟨b8, 2, none⟩) (blk_far (p := ⟨b8, 1, none⟩) (blk_far (p := ⟨b8, 0, none⟩) k9 n4 (.int .i64 v)) n4 (.int .i64 0)) n4 (.slice TA tn tc)) n4 (.slice LA ln lc)
        have hk : Kq [91, 29] w_ _ := ((((((Kq.refl [91, 29] w_).set3 k8 (by simp) 0 (.int .i64 v)).set3 a2 (by simp) 1 (.int .i64 0)).set3 a3 (by simp) 2 (.slice TA tn tc)).set3 a4 (by simp) 3 (.slice LA ln lc))).set3 e1 (by simp) 0 (.int .i64 0)
        refine ⟨blk_far a5 n3 _, blk_set e1 0 _, hk.own q2 (by decide), ?_⟩
        exact (((((h3.bel).setCell (p := ⟨b8, 0, none⟩) HLE.out.1 _).setCell (p := ⟨b8, 1, none⟩) HLE.out.1 _).setCell (p := ⟨b8, 2, none⟩) HLE.out.1 _).setCell (p := ⟨b8, 3, none⟩) HLE.out.1 _).setCell (p := ⟨b9, 0, none⟩) HLE.out.2 _
      clear k8 k9 kv q1 q2 h3
      go_wp2_with fail
      refine leaves_cons (f := 80) (args := #[.pointer (some ⟨gv, 0, none⟩), .pointer (some ⟨b8, 0, none⟩), .pointer (some ⟨b9, 0, none⟩)]) (by simp) (by simp [go_sem]) ?_
      refine (ecatch_idle _ _ _ _).mono ?_
      rintro e u' w'' ⟨rfl, rfl, rfl⟩
      refine ⟨_, eres HEND.out.1 HEND.out.2.1 rfl rfl, ?_⟩
      rw [← HOO.out, HTN.out]
      have h3 := HEND.out.2.2
      rw [HTN.out] at h3
      exact ⟨TA, tc, _, _, _, rfl, h3.1, h3.2⟩
end Go.Proofs.YtbiajfkencamiaaGreatDoor.EV
