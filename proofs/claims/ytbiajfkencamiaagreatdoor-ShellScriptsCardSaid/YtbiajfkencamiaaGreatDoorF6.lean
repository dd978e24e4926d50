/- shell: eval. Printed by gen_sf6.py. -/
import Derived.Test.YtbiajfkencamiaaGreatDoorF5
/-! F6 -/
namespace Go.Proofs.YtbiajfkencamiaaGreatDoor.SH
open Go.RowKit Go.Shelf Go.Proofs.YtbiajfkencamiaaGreatDoorW.PrintWords Go.Proofs.YtbiajfkencamiaaGreatDoorW.PrintMore Go.Proofs.YtbiajfkencamiaaGreatDoor.P1 Go.Proofs.YtbiajfkencamiaaGreatDoor Go.Proofs.YtbiajfkencamiaaGreatDoor.Core
open Go.Proofs.YtbiajfkencamiaaGreatDoor.EV (Upd Upd.set Upd.below Upd.trans R64 evalF GivesE ArgsR evalF_v evalF_err ResV eval_any res0 Kq)
open Go.Proofs.YtbiajfkencamiaaGreatDoor.PK (S121 k121 z121 S124 k124 z124 at_T124 at_T121 rd_T124 rd_T121)
set_option linter.unusedVariables false
set_option linter.unusedSimpArgs false
theorem args_own {W : World} {base : Nat} {v : Value} {l : List Int} (h : W.ownsRow base 2 1 v l.length (nums .i64 l)) : ArgsR W v l := by
  obtain ⟨A, c, rfl⟩ := own_slice h
  refine ⟨A, c, rfl, fun h0 => ?_⟩
  obtain ⟨m, hm⟩ : ∃ m, l.length = m + 1 := ⟨l.length - 1, by omega⟩
  obtain ⟨g, cap, e⟩ : ∃ g cap, Value.slice A l.length c = .slice (some ⟨g, 0, none⟩) l.length cap := by
    rw [hm] at h ⊢
    exact ownsRow_succ h
  injection e with e1 e2 e3
  subst e1
  exact ⟨_, rfl, fun j u hj => h.cells (g := g) rfl j u hj⟩
theorem own_mono {w : World} {base base' : Nat} {e : TypeId} {size : Nat} {u : Value} {n : Nat} {xs : List Value} (hb : base' ≤ base) (h : w.ownsRow base e size u n xs) : w.ownsRow base' e size u n xs := by
  obtain ⟨h1, h2⟩ := h
  refine ⟨h1, ?_⟩
  rcases h2 with h2 | ⟨g, cap, cur, rfl, hg, hh, r⟩
  · exact .inl h2
  · exact .inr ⟨g, cap, cur, rfl, Nat.le_trans hb hg, hh, r⟩
/-- A result's four cells. -/
structure D8 where
  r0 : Int
  r1 : Int
  TA : Option Addr
  tn : Nat
  tc : Nat
  LA : Option Addr
  ln : Nat
  lc : Nat
abbrev D8.cells (d : D8) : Array Value := #[.int .i64 d.r0, .int .i64 d.r1, .slice d.TA d.tn d.tc, .slice d.LA d.ln d.lc]
abbrev EvR8 := Except Int (Int × Int × List Int)
def erOf : EvR8 → Int
  | .ok _ => 0
  | .error x => x
/-- The cells are those of what was evaluated. -/
def OK8 (r : EvR8) (d : D8) (X : World) : Prop := match r with
  | .ok r => d.r0 = r.1 ∧ d.r1 = r.2.1 ∧ d.tn = r.2.2.length ∧ X.ownsRow 0 2 1 (.slice d.TA d.tn d.tc) d.tn (r.2.2.map (.int .i64))
  | .error _ => True
theorem OK8.below {r : EvR8} {d : D8} {X X' : World} (h : OK8 r d X) (hb : Below X.heap.size X X') : OK8 r d X' := by
  cases r with
  | ok r => exact ⟨h.1, h.2.1, h.2.2.1, pw_own_below h.2.2.2 hb⟩
  | error x => exact h
theorem OK8.set {r : EvR8} {d : D8} {X : World} (h : OK8 r d X) {b : Nat} {cs : Array Value} (hb : X.heap[b]? = some (.cells cs 91 (0, 0))) (j : Nat) (v : Value) : OK8 r d (X.setCell ⟨b, j, none⟩ v) := by
  cases r with
  | ok r => exact ⟨h.1, h.2.1, h.2.2.1, (Kq.set hb (ts := [91]) (by simp) j v).own h.2.2.2 (by decide)⟩
  | error x => exact h
theorem gives8 {w w' : World} {r : EvR8} {e : Ending} (h : GivesE w r e w') : ∃ d : D8, e = .returned (.tuple #[.agg d.cells, .int .i64 (erOf r)]) ∧ OK8 r d w' ∧ Below w.heap.size w w' := by
  cases r with
  | ok r =>
    obtain ⟨TA, tc, LA, ln, lc, rfl, ho, hb⟩ := h
    exact ⟨⟨r.1, r.2.1, TA, _, tc, LA, ln, lc⟩, rfl, ⟨rfl, rfl, rfl, own_mono (Nat.zero_le _) ho⟩, hb⟩
  | error x =>
    obtain ⟨rfl, hb⟩ := h
    exact ⟨⟨0, 0, none, 0, 0, none, 0, 0⟩, rfl, trivial, hb⟩
theorem prg_reads {W : World} {base : Nat} {u : Value} {p : List Core.Fn} (h : PrgP W base u p) : ∃ A c, u = .slice A p.length c ∧ p.length ≤ c ∧ Kd.C k124 W A p.length (p.map toP) := by
  obtain ⟨A, c, h1, h2, h3⟩ := Kd.S_reads h
  rw [List.length_map] at h1 h2 h3
  exact ⟨A, c, h1, h2, h3⟩
def outE : EvR8 → Except Nat (List UInt8)
  | .ok r => .ok (endedL r.1 r.2.1 r.2.2)
  | .error x => .error x.toNat
def evalX (T : List UInt8) (own : List (List UInt8)) : Except Nat (List UInt8) := match argsS own with
  | none => .error 13
  | some args => match parseL [] 0 (splitB 10 T) with
    | .error x => .error x.2.toNat
    | .ok p => outE (evalF p args 100 4)
theorem argS_range {x : List UInt8} {n : Int} (h : argS x = some n) : R64 n := by
  unfold argS at h
  obtain ⟨m, h1, h2⟩ := Option.bind_eq_some_iff.1 h
  have hr := plainS_range h1
  unfold R64
  split at h2
  · split at h2
    · injection h2 with h2; omega
    · cases h2
  · injection h2 with h2; omega
theorem args_range : ∀ (ws : List (List UInt8)) (l : List Int), argsS ws = some l → ∀ x ∈ l, R64 x
  | [], l, h => by injection h with h; subst h; intro x hx; cases hx
  | y :: t, l, h => by
    have h' : (argS y).bind (fun n => (mapP argS t).map (n :: ·)) = some l := h
    obtain ⟨n, h1, h2⟩ := Option.bind_eq_some_iff.1 h'
    obtain ⟨r, h3, rfl⟩ := Option.map_eq_some_iff.1 h2
    intro x hx
    rcases List.mem_cons.1 hx with rfl | hx
    · exact argS_range h1
    · exact args_range t r h3 x hx
set_option maxRecDepth 100000 in
set_option maxHeartbeats 8000000 in
theorem eval_x {gs : Nat} {T : List UInt8} {w : World} {v : Value} (own : List (List UInt8)) (h : ShW gs T w) (hw : WordsR w v own) (hl : own.length ≤ 1000000) (hT : T.length ≤ 65536) (hA : TabA w) (hTb : Tab w) : Calls Tryz.prog 28 #[.pointer (some ⟨gs, 0, none⟩), v] w (GivesX gs T w (evalX T own)) := by
  obtain ⟨r, hr⟩ : ∃ r, argsS own = r := ⟨_, rfl⟩
  have HN := Lib.hid (arguments_any own v w hw hl)
  obtain ⟨rr, hrr⟩ : ∃ rr, evalX T own = rr := ⟨_, rfl⟩
  rw [hrr]
  unfold evalX at hrr
  have hra := fun l (hx : r = some l) => args_range own l (hr.trans hx)
  have hn := HN.out
  change Calls _ _ _ _ (GivesNs 2 .i64 w (argsS own)) at hn
  rw [hr] at hn hrr
  obtain ⟨pr, hpr⟩ : ∃ pr, parseL [] 0 (splitB 10 T) = pr := ⟨_, rfl⟩
  rw [hpr] at hrr
  have HP := Lib.hid (fun X (hX : Below w.heap.size w X) => by
    have := program_any (ShW.below h hX) hT (hA.below hX)
    rw [hpr] at this
    exact this)
  have HPE := Lib.hid (fun x (hx : pr = .error x) => parse_err _ _ _ x (hpr.trans hx))
  have HRR := Lib.hid hrr
  have HRA := Lib.hid hra
  have HS0 := Lib.hid h
  have HTB := Lib.hid hTb
  have HN := Lib.hid hn
  obtain ⟨bk, o, c, rfl, _⟩ := hw
  clear h hl hr hrr hn hra hT hA hTb hpr
  go_enter Tryz.func28, Tryz.ntmps28
  go_wp2_with fail
  refine HN.out.mono ?_
  intro e w1 hg
  cases r with
  | none =>
    obtain ⟨rfl, hb⟩ := hg
    rw [← HRR.out]
    exact ⟨rfl, rfl, HS0.out.below hb, Upd.below hb⟩
  | some l =>
    obtain ⟨v', rfl, ho, hb⟩ := hg
    obtain ⟨sp, ac, rfl⟩ := own_slice ho
    have HAR := Lib.hid (args_own ho)
    have HB1 := Lib.hid hb
    have hll := HRA.out l rfl
    obtain ⟨an, han⟩ : ∃ an, an = l.length := ⟨_, rfl⟩
    rw [← han] at HAR ⊢
    have HAN := Lib.hid han
    have HLL := Lib.hid hll
    clear ho hb HN hll han
    go_wp2_with fail
    cases pr with
    | error x =>
      have HF : Hid (rr = .error x.2.toNat) := HRR.out.symm
      refine Reg.wp_region_phase (by kernel_rfl) [1, 7, 12] (fun i => match i with | 0 => fun v => v = .pointer (some ⟨gs, 0, none⟩) | 2 => fun v => v = .slice sp an ac | 3 => fun v => v = .pointer (some ⟨gs, 0, none⟩) | 4 => fun v => v = .pointer (some ⟨gs, 0, none⟩) | 5 => fun v => v = .pointer (some ⟨gs, 1, none⟩) | 6 => fun v => v = .agg #[.int .i64 100, .int .i64 4] | _ => fun _ => True) (fun k f9 X => match k with | 0 => Below w1.heap.size w1 X | _ => False) (by kernel_rfl) (by kernel_rfl) (by decide) (by decide) ?hJ ?h0 ?pure ?act ?fin
      case hJ => (intro k f9 f' X h hj; match k, hj with
    | 0, hj => exact hj
    | k + 1, hj => exact hj.elim)
      case h0 => exact pw_below_drewN (Below.refl _ _) 1
      case pure =>
        intro i o k a w_ ho hE hk hmc hf hst hkn hj
        have hi : i < 14 := (Array.getElem?_eq_some_iff.1 ho).1
        obtain rfl | rfl | rfl | rfl | rfl | rfl | rfl | rfl | rfl | rfl | rfl : i = 0 ∨ i = 2 ∨ i = 3 ∨ i = 4 ∨ i = 5 ∨ i = 6 ∨ i = 8 ∨ i = 9 ∨ i = 10 ∨ i = 11 ∨ i = 13 := by
          simp only [List.mem_cons, List.not_mem_nil, or_false, not_or] at hE
          omega
        · skip
          obtain rfl := Reg.oper_eq ho rfl
          have e0 : a.eval (.tmp 0) = .pointer (some ⟨gs, 0, none⟩) := (hf.eval 0 (by kernel_rfl)).trans rfl
          have g0 := Reg.eval_getD e0
          exact Reg.op_value rfl rfl (by simp only [List.getElem_toArray, List.getElem_cons_zero, List.getElem_cons_succ, execOp, e0]; go_simp) ⟨_, rfl, rfl, hj⟩
        · skip
          obtain rfl := Reg.oper_eq ho rfl
          have e5 : a.eval (.tmp 5) = .slice sp an ac := (hf.eval 5 (by kernel_rfl)).trans rfl
          have g5 := Reg.eval_getD e5
          exact Reg.op_value rfl rfl (by simp only [List.getElem_toArray, List.getElem_cons_zero, List.getElem_cons_succ, execOp, e5]; go_simp) ⟨_, rfl, rfl, hj⟩
        · skip
          obtain rfl := Reg.oper_eq ho rfl
          have e0 : a.eval (.tmp 0) = .pointer (some ⟨gs, 0, none⟩) := (hf.eval 0 (by kernel_rfl)).trans rfl
          have g0 := Reg.eval_getD e0
          exact Reg.op_value rfl rfl (by simp only [List.getElem_toArray, List.getElem_cons_zero, List.getElem_cons_succ, execOp, e0]; go_simp) ⟨_, rfl, rfl, hj⟩
        · skip
          obtain rfl := Reg.oper_eq ho rfl
          have e14 : a.eval (.tmp 14) = .pointer (some ⟨gs, 0, none⟩) := hkn.eval 3 14 (by kernel_rfl) (by kernel_rfl)
          have g14 := Reg.eval_getD e14
          exact Reg.op_value rfl rfl (by simp only [List.getElem_toArray, List.getElem_cons_zero, List.getElem_cons_succ, execOp, e14]; go_simp) ⟨_, rfl, rfl, hj⟩
        · skip
          obtain rfl := Reg.oper_eq ho rfl
          have e15 : a.eval (.tmp 15) = .pointer (some ⟨gs, 0, none⟩) := hkn.eval 4 15 (by kernel_rfl) (by kernel_rfl)
          have g15 := Reg.eval_getD e15
          exact Reg.op_value rfl rfl (by simp only [List.getElem_toArray, List.getElem_cons_zero, List.getElem_cons_succ, execOp, e15]; go_simp) ⟨_, rfl, rfl, hj⟩
        · skip
          obtain rfl := Reg.oper_eq ho rfl
          have e16 : a.eval (.tmp 16) = .pointer (some ⟨gs, 1, none⟩) := hkn.eval 5 16 (by kernel_rfl) (by kernel_rfl)
          have g16 := Reg.eval_getD e16
          have hk0 : k = 0 := by
            match k, hj with
            | 0, hj => rfl
            | k + 1, hj => exact hj.elim
          subst hk0
          have hs1 := HS0.out.below (HB1.out.trans (Below.mono hj HB1.out.size))
          have kf := (blk_cell hs1 1).trans rfl
          have kg := (blk_cell hs1 2).trans rfl
          exact Reg.op_value rfl rfl (by simp only [List.getElem_toArray, List.getElem_cons_zero, List.getElem_cons_succ, execOp, e16]; go_simp) ⟨_, rfl, rfl, hj⟩
        · skip
          obtain rfl := Reg.oper_eq ho rfl
          match k, hj with
          | 0, hj => exact Bool.noConfusion (hmc.symm.trans (show Reg.mayComeB _ _ _ _ = false from by kernel_rfl))
          | k + 1, hj => exact hj.elim
        · skip
          obtain rfl := Reg.oper_eq ho rfl
          match k, hj with
          | 0, hj => exact Bool.noConfusion (hmc.symm.trans (show Reg.mayComeB _ _ _ _ = false from by kernel_rfl))
          | k + 1, hj => exact hj.elim
        · skip
          obtain rfl := Reg.oper_eq ho rfl
          match k, hj with
          | 0, hj => exact Bool.noConfusion (hmc.symm.trans (show Reg.mayComeB _ _ _ _ = false from by kernel_rfl))
          | k + 1, hj => exact hj.elim
        · skip
          obtain rfl := Reg.oper_eq ho rfl
          match k, hj with
          | 0, hj => exact Reg.op_value (v := .pointer (some ⟨w_.heap.size, 0, none⟩)) (w' := w_.alloc (.cells res0 91)) rfl rfl (by simp only [List.getElem_toArray, List.getElem_cons_zero, List.getElem_cons_succ, execOp]; go_simp) ⟨_, rfl, trivial, hj.alloc hj.size _⟩
          | k + 1, hj => exact hj.elim
        · skip
          obtain rfl := Reg.oper_eq ho rfl
          match k, hj with
          | 0, hj => exact Bool.noConfusion (hmc.symm.trans (show Reg.mayComeB _ _ _ _ = false from by kernel_rfl))
          | k + 1, hj => exact hj.elim
      case act =>
        intro k o a w_ hk ho hf hst hkn hj
        obtain rfl | rfl | rfl : k = 0 ∨ k = 1 ∨ k = 2 := by simp only [List.length_cons, List.length_nil] at hk; omega
        · skip
          obtain rfl := Reg.oper_eq ho rfl
          have e11 : a.eval (.tmp 11) = .pointer (some ⟨gs, 0, none⟩) := hkn.eval 0 11 (by kernel_rfl) (by kernel_rfl)
          have g11 := Reg.eval_getD e11
          refine Reg.op_call (f := 46) (args := #[.pointer (some ⟨gs, 0, none⟩)]) (w' := w_) rfl rfl (by simp only [List.getElem_toArray, List.getElem_cons_zero, List.getElem_cons_succ, execOp, e11]; go_simp) ((HP.out w_ (HB1.out.trans (Below.mono hj HB1.out.size))).mono ?_)
          rintro e9 w2 ⟨rfl, q2⟩
          obtain ⟨kx, hkx, _⟩ := HPE.out x rfl
          rw [HF.out, hkx]
          refine .inr ⟨_, rfl, hf.defers, ?_, HS0.out.below (HB1.out.trans ((Below.trans hj (Below.mono q2 hj.size)).mono HB1.out.size)), Upd.below (HB1.out.trans ((Below.trans hj (Below.mono q2 hj.size)).mono HB1.out.size))⟩
          rfl
        · skip
          obtain rfl := Reg.oper_eq ho rfl
          have e13 : a.eval (.tmp 13) = .slice sp an ac := hkn.eval 2 13 (by kernel_rfl) (by kernel_rfl)
          have e17 : a.eval (.tmp 17) = .agg #[.int .i64 100, .int .i64 4] := hkn.eval 6 17 (by kernel_rfl) (by kernel_rfl)
          have g13 := Reg.eval_getD e13
          have g17 := Reg.eval_getD e17
          exact hj.elim
        · skip
          obtain rfl := Reg.oper_eq ho rfl
          exact hj.elim
      case fin =>
        intro a w_ hf hkn hj
        exact hj.elim
    | ok p =>
      obtain ⟨ev, hev⟩ : ∃ ev, evalF p l 100 4 = ev := ⟨_, rfl⟩
      have HF : Hid (rr = outE ev) := by
        show rr = _
        rw [← HRR.out, ← hev]
      have HEV : Hid (∀ X, Below w1.heap.size w1 X → ∀ A c, p.length ≤ c → Kd.C k124 X A p.length (p.map toP) → Calls Tryz.prog 48 #[.slice A p.length c, .slice sp an ac, .agg #[.int .i64 100, .int .i64 4], .int .i64 10000] X (GivesE X ev)) := fun X hX A c h1 h2 => by
        have h3 := HAR.out.below hX
        rw [HAN.out] at h3 ⊢
        have := eval_any p A c sp ac l 100 4 X h2 h1 h3
        rw [hev] at this
        exact this
      have HER := Lib.hid (fun x (hx : ev = .error x) => evalF_err (hev.trans hx))
      have HEO := Lib.hid (fun r (hx : ev = .ok r) => evalF_v HLL.out (hev.trans hx))
      clear hev
      refine Reg.wp_region_float (by kernel_rfl) [1, 7, 8, 9, 12] 11 (fun i => match i with | 0 => fun v => v = .pointer (some ⟨gs, 0, none⟩) | 2 => fun v => v = .slice sp an ac | 3 => fun v => v = .pointer (some ⟨gs, 0, none⟩) | 4 => fun v => v = .pointer (some ⟨gs, 0, none⟩) | 5 => fun v => v = .pointer (some ⟨gs, 1, none⟩) | 6 => fun v => v = .agg #[.int .i64 100, .int .i64 4] | 8 => fun v => ∃ dv, v = .tuple #[dv, .int .i64 (erOf ev)] | 10 => fun v => v = .int .i64 (erOf ev) | 13 => fun v => v = .int .i64 (erOf ev) | _ => fun _ => True) (fun k b f9 X => Below w1.heap.size w1 X ∧ (match k with | 0 => True | 1 => ∃ A c, f9 12 = .slice A p.length c ∧ p.length ≤ c ∧ Kd.C k124 X A p.length (p.map toP) | 2 => ∃ d : D8, f9 18 = .tuple #[.agg d.cells, .int .i64 (erOf ev)] ∧ OK8 ev d X | 3 => ∃ d : D8, f9 10 = .tuple #[.agg d.cells, .int .i64 (erOf ev)] ∧ OK8 ev d X | 4 => ∃ d : D8, f9 19 = .agg d.cells ∧ OK8 ev d X | _ => ∃ d : D8, OK8 ev d X ∧ b = true ∧ ∃ g6, f9 6 = .pointer (some ⟨g6, 0, none⟩) ∧ X.heap[g6]? = some (.cells d.cells 91 (0, 0))) ∧ (k < 5 → b = true → ∃ g6, f9 6 = .pointer (some ⟨g6, 0, none⟩) ∧ w1.heap.size ≤ g6 ∧ X.heap[g6]? = some (.cells res0 91 (0, 0)))) (by kernel_rfl) (by kernel_rfl) (by decide) (by decide) (by decide) (by decide) ?hJ ?h0 ?pure ?flo ?act ?fin
      case hJ => (intro k b f9 f' X h hb hj; refine ⟨hj.1, ?_, fun h5 h1 => (hb h1 6 (by kernel_rfl)) ▸ hj.2.2 h5 h1⟩; have h2 := hj.2.1; match k, h2 with
        | 0, h2 => trivial
        | 1, h2 => (obtain ⟨A, c, h3, h4⟩ := h2; exact ⟨A, c, (h 0 (by omega) (by decide) 12 (by kernel_rfl)).symm.trans h3, h4⟩)
        | 2, h2 => (obtain ⟨d, h3, h4⟩ := h2; exact ⟨d, (h 1 (by omega) (by decide) 18 (by kernel_rfl)).symm.trans h3, h4⟩)
        | 3, h2 => (obtain ⟨d, h3, h4⟩ := h2; exact ⟨d, (h 2 (by omega) (by decide) 10 (by kernel_rfl)).symm.trans h3, h4⟩)
        | 4, h2 => (obtain ⟨d, h3, h4⟩ := h2; exact ⟨d, (h 3 (by omega) (by decide) 19 (by kernel_rfl)).symm.trans h3, h4⟩)
        | k + 5, h2 => (obtain ⟨d, h3, h9, g6, h4, h5⟩ := h2; exact ⟨d, h3, h9, g6, (hb h9 6 (by kernel_rfl)).symm.trans h4, h5⟩))
      case h0 => exact ⟨pw_below_drewN (Below.refl _ _) 1, trivial, fun _ h => absurd h (by decide)⟩
      case pure =>
        intro i o k bq a w_ ho hE hne hk hmc hf hst hkn hj
        have hi : i < 14 := (Array.getElem?_eq_some_iff.1 ho).1
        obtain rfl | rfl | rfl | rfl | rfl | rfl | rfl | rfl : i = 0 ∨ i = 2 ∨ i = 3 ∨ i = 4 ∨ i = 5 ∨ i = 6 ∨ i = 10 ∨ i = 13 := by
          simp only [List.mem_cons, List.not_mem_nil, or_false, not_or] at hE
          omega
        · skip
          obtain rfl := Reg.oper_eq ho rfl
          have e0 : a.eval (.tmp 0) = .pointer (some ⟨gs, 0, none⟩) := (hf.eval 0 (by kernel_rfl)).trans rfl
          have g0 := Reg.eval_getD e0
          exact Reg.op_value rfl rfl (by simp only [List.getElem_toArray, List.getElem_cons_zero, List.getElem_cons_succ, execOp, e0]; go_simp) ⟨_, rfl, rfl, hj⟩
        · skip
          obtain rfl := Reg.oper_eq ho rfl
          have e5 : a.eval (.tmp 5) = .slice sp an ac := (hf.eval 5 (by kernel_rfl)).trans rfl
          have g5 := Reg.eval_getD e5
          exact Reg.op_value rfl rfl (by simp only [List.getElem_toArray, List.getElem_cons_zero, List.getElem_cons_succ, execOp, e5]; go_simp) ⟨_, rfl, rfl, hj⟩
        · skip
          obtain rfl := Reg.oper_eq ho rfl
          have e0 : a.eval (.tmp 0) = .pointer (some ⟨gs, 0, none⟩) := (hf.eval 0 (by kernel_rfl)).trans rfl
          have g0 := Reg.eval_getD e0
          exact Reg.op_value rfl rfl (by simp only [List.getElem_toArray, List.getElem_cons_zero, List.getElem_cons_succ, execOp, e0]; go_simp) ⟨_, rfl, rfl, hj⟩
        · skip
          obtain rfl := Reg.oper_eq ho rfl
          have e14 : a.eval (.tmp 14) = .pointer (some ⟨gs, 0, none⟩) := hkn.eval 3 14 (by kernel_rfl) (by kernel_rfl)
          have g14 := Reg.eval_getD e14
          exact Reg.op_value rfl rfl (by simp only [List.getElem_toArray, List.getElem_cons_zero, List.getElem_cons_succ, execOp, e14]; go_simp) ⟨_, rfl, rfl, hj⟩
        · skip
          obtain rfl := Reg.oper_eq ho rfl
          have e15 : a.eval (.tmp 15) = .pointer (some ⟨gs, 0, none⟩) := hkn.eval 4 15 (by kernel_rfl) (by kernel_rfl)
          have g15 := Reg.eval_getD e15
          exact Reg.op_value rfl rfl (by simp only [List.getElem_toArray, List.getElem_cons_zero, List.getElem_cons_succ, execOp, e15]; go_simp) ⟨_, rfl, rfl, hj⟩
        · skip
          obtain rfl := Reg.oper_eq ho rfl
          have e16 : a.eval (.tmp 16) = .pointer (some ⟨gs, 1, none⟩) := hkn.eval 5 16 (by kernel_rfl) (by kernel_rfl)
          have g16 := Reg.eval_getD e16
          have hs1 := HS0.out.below (HB1.out.trans (Below.mono hj.1 HB1.out.size))
          have kf := (blk_cell hs1 1).trans rfl
          have kg := (blk_cell hs1 2).trans rfl
          exact Reg.op_value rfl rfl (by simp only [List.getElem_toArray, List.getElem_cons_zero, List.getElem_cons_succ, execOp, e16]; go_simp) ⟨_, rfl, rfl, hj⟩
        · skip
          obtain rfl := Reg.oper_eq ho rfl
          have e10 := hkn.eval 8 10 (by kernel_rfl) (by kernel_rfl)
          obtain ⟨dv, h10⟩ : ∃ dv, a.eval (.tmp 10) = .tuple #[dv, .int .i64 (erOf ev)] := hkn.eval 8 10 (by kernel_rfl) (by kernel_rfl)
          have g10 := Reg.eval_getD h10
          exact Reg.op_value (v := .int .i64 (erOf ev)) (w' := w_) rfl rfl (by simp only [List.getElem_toArray, List.getElem_cons_zero, List.getElem_cons_succ, execOp, h10]; go_simp) ⟨_, rfl, rfl, hj⟩
        · skip
          obtain rfl := Reg.oper_eq ho rfl
          have e20 : a.eval (.tmp 20) = .int .i64 (erOf ev) := hkn.eval 10 20 (by kernel_rfl) (by kernel_rfl)
          have g20 := Reg.eval_getD e20
          exact Reg.op_value rfl rfl (by simp only [List.getElem_toArray, List.getElem_cons_zero, List.getElem_cons_succ, execOp, e20]; go_simp) ⟨_, rfl, rfl, hj⟩
      case flo =>
        intro o k a w_ ho hk hmc hf hst hkn hj
        · skip
          obtain rfl := Reg.oper_eq ho rfl
          have hk5 : k < 5 := by
            refine Nat.lt_of_le_of_ne (by simpa using hk) (fun h5 => ?_)
            subst h5
            exact Bool.noConfusion (hmc.symm.trans (show Reg.mayComeB _ _ _ _ = false from by kernel_rfl))
          have hal : Below w_.heap.size w_ (w_.alloc (.cells res0 91)) := (Below.refl _ _).alloc (Nat.le_refl _) _
          refine Reg.op_value (v := .pointer (some ⟨w_.heap.size, 0, none⟩)) (w' := w_.alloc (.cells res0 91)) rfl rfl (by simp only [List.getElem_toArray, List.getElem_cons_zero, List.getElem_cons_succ, execOp]; go_simp) ⟨_, rfl, trivial, hj.1.trans (hal.mono hj.1.size), ?_, fun _ _ => ⟨w_.heap.size, Reg.val_put_in hf (by kernel_rfl), hj.1.size, heap_alloc_new _ _⟩⟩
          have h2 := hj.2.1
          match k, h2, hk5 with
          | 0, h2, _ => trivial
          | 1, h2, _ => (obtain ⟨A, cc, h3, h4, h5⟩ := h2; exact ⟨A, cc, (by rw [Reg.val_put_ne _ _ _ _ (by decide)]; exact h3), h4, Kd.C_below h5 hal⟩)
          | 2, h2, _ => (obtain ⟨d, h3, h4⟩ := h2; exact ⟨d, (by rw [Reg.val_put_ne _ _ _ _ (by decide)]; exact h3), h4.below hal⟩)
          | 3, h2, _ => (obtain ⟨d, h3, h4⟩ := h2; exact ⟨d, (by rw [Reg.val_put_ne _ _ _ _ (by decide)]; exact h3), h4.below hal⟩)
          | 4, h2, _ => (obtain ⟨d, h3, h4⟩ := h2; exact ⟨d, (by rw [Reg.val_put_ne _ _ _ _ (by decide)]; exact h3), h4.below hal⟩)
          | k + 5, h2, h => exact absurd h (by omega)
      case act =>
        intro k bq o a w_ hk ho hbf hf hst hkn hj
        obtain rfl | rfl | rfl | rfl | rfl : k = 0 ∨ k = 1 ∨ k = 2 ∨ k = 3 ∨ k = 4 := by simp only [List.length_cons, List.length_nil] at hk; omega
        · skip
          obtain rfl := Reg.oper_eq ho rfl
          have e11 : a.eval (.tmp 11) = .pointer (some ⟨gs, 0, none⟩) := hkn.eval 0 11 (by kernel_rfl) (by kernel_rfl)
          have g11 := Reg.eval_getD e11
          refine Reg.op_call (f := 46) (args := #[.pointer (some ⟨gs, 0, none⟩)]) (w' := w_) rfl rfl (by simp only [List.getElem_toArray, List.getElem_cons_zero, List.getElem_cons_succ, execOp, e11]; go_simp) ((HP.out w_ (HB1.out.trans (Below.mono hj.1 HB1.out.size))).mono ?_)
          rintro e9 w2 ⟨u, rfl, hp, hb2⟩
          obtain ⟨A, cc, rfl, h1, h2⟩ := prg_reads hp
          exact .inl ⟨_, rfl, _, rfl, trivial, hj.1.trans (hb2.mono hj.1.size), ⟨A, cc, Reg.val_put_in hf (by kernel_rfl), h1, h2⟩, (fun h5 h1 => (by obtain ⟨g6, q1, q2, q3⟩ := hj.2.2 (by omega) h1; exact ⟨g6, (by rw [Reg.val_put_ne _ _ _ _ (by decide)]; exact q1), q2, blk_below q3 hb2⟩))⟩
        · skip
          obtain rfl := Reg.oper_eq ho rfl
          have e13 : a.eval (.tmp 13) = .slice sp an ac := hkn.eval 2 13 (by kernel_rfl) (by kernel_rfl)
          have e17 : a.eval (.tmp 17) = .agg #[.int .i64 100, .int .i64 4] := hkn.eval 6 17 (by kernel_rfl) (by kernel_rfl)
          have g13 := Reg.eval_getD e13
          have g17 := Reg.eval_getD e17
          obtain ⟨A, cc, h12, h1, h2⟩ := hj.2.1
          have e12' : a.eval (.tmp 12) = .slice A p.length cc := (Reg.eval_val a 12).trans h12
          have g12 := Reg.eval_getD e12'
          refine Reg.op_call (f := 48) (args := #[.slice A p.length cc, .slice sp an ac, .agg #[.int .i64 100, .int .i64 4], .int .i64 10000]) (w' := w_) rfl rfl (by simp only [List.getElem_toArray, List.getElem_cons_zero, List.getElem_cons_succ, execOp, e12', e13, e17]; go_simp) ((HEV.out w_ hj.1 A cc h1 h2).mono ?_)
          intro e9 w2 hg
          obtain ⟨d, rfl, ho, hb2⟩ := gives8 hg
          exact .inl ⟨_, rfl, _, rfl, trivial, hj.1.trans (hb2.mono hj.1.size), ⟨d, Reg.val_put_in hf (by kernel_rfl), ho⟩, (fun h5 h1 => (by obtain ⟨g6, q1, q2, q3⟩ := hj.2.2 (by omega) h1; exact ⟨g6, (by rw [Reg.val_put_ne _ _ _ _ (by decide)]; exact q1), q2, blk_below q3 hb2⟩))⟩
        · skip
          obtain rfl := Reg.oper_eq ho rfl
          obtain ⟨d, h18, ho⟩ := hj.2.1
          have e18' : a.eval (.tmp 18) = .tuple #[.agg d.cells, .int .i64 (erOf ev)] := (Reg.eval_val a 18).trans h18
          have g18 := Reg.eval_getD e18'
          exact Reg.op_value (v := .tuple #[.agg d.cells, .int .i64 (erOf ev)]) (w' := w_) rfl rfl (by simp only [List.getElem_toArray, List.getElem_cons_zero, List.getElem_cons_succ, execOp, e18']; go_simp) ⟨_, rfl, ⟨_, rfl⟩, hj.1, ⟨d, Reg.val_put_in hf (by kernel_rfl), ho⟩, (fun h5 h1 => (by obtain ⟨g6, q1, q2, q3⟩ := hj.2.2 (by omega) h1; exact ⟨g6, (by rw [Reg.val_put_ne _ _ _ _ (by decide)]; exact q1), q2, q3⟩))⟩
        · skip
          obtain rfl := Reg.oper_eq ho rfl
          have e10 := hkn.eval 8 10 (by kernel_rfl) (by kernel_rfl)
          obtain ⟨d, h10, ho⟩ := hj.2.1
          have e10' : a.eval (.tmp 10) = .tuple #[.agg d.cells, .int .i64 (erOf ev)] := (Reg.eval_val a 10).trans h10
          have g10 := Reg.eval_getD e10'
          exact Reg.op_value (v := .agg d.cells) (w' := w_) rfl rfl (by simp only [List.getElem_toArray, List.getElem_cons_zero, List.getElem_cons_succ, execOp, e10']; go_simp) ⟨_, rfl, trivial, hj.1, ⟨d, Reg.val_put_in hf (by kernel_rfl), ho⟩, (fun h5 h1 => (by obtain ⟨g6, q1, q2, q3⟩ := hj.2.2 (by omega) h1; exact ⟨g6, (by rw [Reg.val_put_ne _ _ _ _ (by decide)]; exact q1), q2, q3⟩))⟩
        · skip
          obtain rfl := Reg.oper_eq ho rfl
          obtain ⟨d, h19, ho⟩ := hj.2.1
          obtain ⟨g6, h6, hw6, hc⟩ := hj.2.2 (by decide) (hbf (by kernel_rfl))
          have e19' : a.eval (.tmp 19) = .agg d.cells := (Reg.eval_val a 19).trans h19
          have e6' : a.eval (.tmp 6) = .pointer (some ⟨g6, 0, none⟩) := (Reg.eval_val a 6).trans h6
          have g19 := Reg.eval_getD e19'
          have g6' := Reg.eval_getD e6'
          have x0 := (blk_cell hc 0).trans rfl
          have x1 := (blk_cell hc 1).trans rfl
          have x2 := (blk_cell hc 2).trans rfl
          have x3 := (blk_cell hc 3).trans rfl
          have y0 := blk_frozen hc 0
          have y1 := blk_frozen hc 1
          have y2 := blk_frozen hc 2
          have y3 := blk_frozen hc 3
          have b1 := blk_set hc 0 (.int .i64 d.r0)
          have b2 := blk_set b1 1 (.int .i64 d.r1)
          have b3 := blk_set b2 2 (.slice d.TA d.tn d.tc)
          have b4 := blk_set b3 3 (.slice d.LA d.ln d.lc)
          have o4 := (((ho.set hc 0 (.int .i64 d.r0)).set b1 1 (.int .i64 d.r1)).set b2 2 (.slice d.TA d.tn d.tc)).set b3 3 (.slice d.LA d.ln d.lc)
          exact Reg.op_unit (w' := (((w_.setCell ⟨g6, 0, none⟩ (.int .i64 d.r0)).setCell ⟨g6, 1, none⟩ (.int .i64 d.r1)).setCell ⟨g6, 2, none⟩ (.slice d.TA d.tn d.tc)).setCell ⟨g6, 3, none⟩ (.slice d.LA d.ln d.lc)) rfl rfl (by simp only [List.getElem_toArray, List.getElem_cons_zero, List.getElem_cons_succ, execOp, e6', e19']; go_simp) ⟨_, rfl, trivial, (((hj.1.setCell (p := ⟨g6, 0, none⟩) hw6 _).setCell (p := ⟨g6, 1, none⟩) hw6 _).setCell (p := ⟨g6, 2, none⟩) hw6 _).setCell (p := ⟨g6, 3, none⟩) hw6 _, ⟨d, o4, hbf (by kernel_rfl), g6, h6, b4⟩, fun h5 => absurd h5 (by decide)⟩
      case fin =>
        intro a w_ hf hkn hj
        have e11 : Reg.val a 11 = _ := hkn 0 11 (by show _ < _; decide) (by kernel_rfl)
        have e13 : Reg.val a 13 = _ := hkn 2 13 (by show _ < _; decide) (by kernel_rfl)
        have e14 : Reg.val a 14 = _ := hkn 3 14 (by show _ < _; decide) (by kernel_rfl)
        have e15 : Reg.val a 15 = _ := hkn 4 15 (by show _ < _; decide) (by kernel_rfl)
        have e16 : Reg.val a 16 = _ := hkn 5 16 (by show _ < _; decide) (by kernel_rfl)
        have e17 : Reg.val a 17 = _ := hkn 6 17 (by show _ < _; decide) (by kernel_rfl)
        have e20 : Reg.val a 20 = _ := hkn 10 20 (by show _ < _; decide) (by kernel_rfl)
        have e7 : Reg.val a 7 = _ := hkn 13 7 (by show _ < _; decide) (by kernel_rfl)
        rw [Reg.frm_fold hf [11, 12, 13, 14, 15, 16, 17, 18, 10, 19, 20, 6, 7] (by kernel_rfl) (by kernel_rfl)]
        simp only [List.foldl_cons, List.foldl_nil, Act.put, List.setIfInBounds_toArray, List.set_cons_zero, List.set_cons_succ, e11, e13, e14, e15, e16, e17, e20, e7]
        generalize Reg.val a 12 = v12_ at *
        generalize Reg.val a 18 = v18_ at *
        generalize Reg.val a 10 = v10_ at *
        generalize Reg.val a 19 = v19_ at *
        generalize Reg.val a 6 = v6_ at *
        clear hkn hf e11 e13 e14 e15 e16 e17 e20 e7
        obtain ⟨hB, ⟨d, ho, _, g6, h6, hc⟩, _⟩ := hj
        subst h6
        have HS9 := Lib.hid (HS0.out.below (HB1.out.trans (Below.mono hB HB1.out.size)))
        have HU9 : Hid (Upd gs w w_) := Upd.below (HB1.out.trans (Below.mono hB HB1.out.size))
        have HT9 := Lib.hid (Tab.below HTB.out (HB1.out.trans (Below.mono hB HB1.out.size)))
        have c0 := (blk_cell hc 0).trans rfl
        have c1 := (blk_cell hc 1).trans rfl
        have c2 := (blk_cell hc 2).trans rfl
        have HO := Lib.hid ho
        clear hB ho hc
        cases ev with
        | error x =>
          obtain ⟨kx, hkx, hk2⟩ := HER.out x rfl
          obtain rfl : x = (kx : Int) := hkx
          have e0 : ((kx : Int) == 0) = false := by rw [beq_eq_false_iff_ne]; omega
          have HF2 : Hid (rr = .error kx) := HF.out
          clear hk2
          rw [show erOf (Except.error (kx : Int)) = (kx : Int) from rfl]
          go_wp2_with fail
          refine (need_no (kx : Int) _).mono ?_
          rintro _ w2 ⟨rfl, hw2⟩
          subst hw2
          rw [HF2.out]
          exact ⟨rfl, rfl, HS9.out, HU9.out⟩
        | ok r =>
          obtain ⟨r0, r1, TA, tn, tc, LA, ln, lc⟩ := d
          obtain ⟨q0, q1, q2, q3⟩ := HO.out
          change r0 = _ at q0
          change r1 = _ at q1
          change tn = _ at q2
          subst q0 q1 q2
          have hv := HEO.out r rfl
          have HEN := Lib.hid (fun X (hX : Below w_.heap.size w_ X) => ended_any r.1 r.2.1 r.2.2 TA tc X hv.v hv.f hv.told (Nat.le_trans hv.len (by decide)) (HT9.out.below hX) (pw_own_below q3 hX))
          have HF2 : Hid (rr = .ok (endedL r.1 r.2.1 r.2.2)) := HF.out
          clear q3 hv
          rw [show erOf (Except.ok r) = 0 from rfl]
          go_wp2_with fail
          refine (need_ok 0 _).mono ?_
          rintro _ w2 ⟨rfl, hw2⟩
          obtain rfl := hw2
          go_wp2_with (refine (HEN.out _ (Below.refl _ _)).mono ?_; rintro _ w3 ⟨rfl, hb3⟩; have HB3 := Lib.hid hb3; clear hb3)
          go_ret
          rw [HF2.out]
          exact ⟨rfl, HS9.out.below HB3.out, HU9.out.trans (Upd.below HB3.out)⟩
end Go.Proofs.YtbiajfkencamiaaGreatDoor.SH
