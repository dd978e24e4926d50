/- eval: a task's run. -/
import Derived.Test.YtbiajfkencamiaaGreatDoorE9
/-! E10 -/
namespace Go.Proofs.YtbiajfkencamiaaGreatDoor.EV
open Go.Proofs.YtbiajfkencamiaaGreatDoorW.PrintMore Go.Proofs.YtbiajfkencamiaaGreatDoor Go.Proofs.YtbiajfkencamiaaGreatDoor.Core Go.RowKit Go.Proofs.YtbiajfkencamiaaGreatDoorW.PrintWords
open Go.Proofs.YtbiajfkencamiaaGreatDoor.PK (S121 k121 z121 S124 k124 z124 at_T124 at_T121 rd_T124 rd_T121)
set_option linter.unusedVariables false
set_option linter.unusedSimpArgs false
set_option maxRecDepth 100000 in
theorem run_deed {F : Nat} (h : F ∈ deedF) (args : Array Value) (w : World) : Sem.run Tryz.prog (callFunc F args) w = .ok (.enter F args) w := by
  simp only [deedF, List.mem_cons, List.not_mem_nil, or_false] at h
  rcases h with rfl | rfl | rfl | rfl | rfl | rfl | rfl | rfl | rfl | rfl | rfl | rfl | rfl | rfl | rfl | rfl <;> kernel_rfl
/-- A run, m of its fuel left. -/
structure RS (c : Cx) (wb : World) (gt f n m : Nat) (oo : Out) (mb : Nat) (X : World) (e : Ev) (t : Tk) : Prop where
  run : runF c.p c.B c.D m e t f = oo
  le : m ≤ n
  ev : c.ev X e
  eo : EvOk e
  left : e.left < m
  tk : TkR wb.heap.size gt c.gw X t
  tok : TkOk (codeOf c.p f).length e t
  kq : Kq [142, 2, 229] wb X
  bel : Below c.base c.w00 X
  map : MapD X mb
  dep : (t.dep : Int) ≤ c.D
theorem RS.below {c : Cx} {wb : World} {gt f n m mb : Nat} {oo : Out} {X X' : World} {e : Ev} {t : Tk} (h : RS c wb gt f n m oo mb X e t) (hb : Below X.heap.size X X') : RS c wb gt f n m oo mb X' e t :=
  ⟨h.run, h.le, EvR.below h.ev hb, h.eo, h.left, h.tk.below hb, h.tok, h.kq.trans (Kq.below hb), h.bel.trans (hb.mono h.bel.size), h.map.kq (ts := []) (Kq.below hb), h.dep⟩
theorem MapD.km {X X' : World} {b : Nat} (h : MapD X b) (hk : Km X X') : MapD X' b := by
  obtain ⟨es, clock, h1, h2⟩ := h
  exact ⟨es, clock, hk _ _ h1 (fun _ _ _ e => by cases e), h2⟩
theorem deed_dep {p : List Fn} {D : Int} {child : Ev → Tk → Int → Out} {i : Int × List Int} {e e2 : Ev} {t t2 : Tk} (h : deed p D child i e t = .go e2 t2) : t2.dep = t.dep := by
  unfold deed at h
  dsimp only at h
  split at h
  all_goals first
    | (injection h with _ g; subst g; rfl)
    | (injection h with _ g; subst g; split <;> rfl)
    | (split at h <;> first | (injection h with _ g; subst g; rfl) | (injection h with _ g; subst g; split <;> rfl) | cases h)
    | cases h
    | (split at h
       · cases h
       · split at h
         · (injection h with _ g; subst g; split <;> rfl)
         · cases h)
theorem deed_stop {p : List Fn} {D : Int} {child : Ev → Tk → Int → Out} {i : Int × List Int} {e : Ev} {t : Tk} {o : Out} (h : deed p D child i e t = .stop o) : ∀ e3 v, o ≠ .ok e3 v := by
  unfold deed at h
  dsimp only at h
  intro e3 v ho
  subst ho
  split at h
  all_goals first
    | cases h
    | (split at h <;> cases h)
    | (split at h
       · cases h
       · split at h
         · cases h
         · (injection h with h; rename_i hne; exact hne _ _ h))
theorem op_ret {p : List Fn} {f : Fn} {i : Int × List Int} (h : OpF p f i) (h17 : i.1 = 17) : regOk (fd i 0) := by
  cases h with
  | ret ho a => exact a
  | arith ho _ _ _ => omega
  | _ => omega
set_option maxRecDepth 100000 in
set_option maxHeartbeats 16000000 in
theorem run_any {c : Cx} (hc : c.Ok) : ∀ n, RunSpec c n := by
  intro n
  induction n using Nat.strongRecOn with
  | _ n ih =>
  intro wb W gt e t f A1 c1 hf hE heo hl hT hTO hdep hK hB hbz hcl hC
  obtain ⟨oo, hoo⟩ : ∃ oo, runF c.p c.B c.D n e t f = oo := ⟨_, rfl⟩
  rw [hoo]
  have HIH := Lib.hid ih
  have HC := Lib.hid (And.intro hc (And.intro hf (And.intro hbz (And.intro hcl hC))))
  have HR0 := Lib.hid (fun (X : World) (mb : Nat) (hb : Below W.heap.size W X) (hm : MapD X mb) => (RS.mk hoo (Nat.le_refl n) (EvR.below hE hb) heo hl (hT.below hb) hTO (hK.trans (Kq.below hb)) (hB.trans (hb.mono hB.size)) hm hdep : RS c wb gt f n n oo mb X e t))
  obtain ⟨len, hlen⟩ : ∃ len, len = (codeOf c.p f).length := ⟨_, rfl⟩
  rw [← hlen]
  have HLEN := Lib.hid hlen
  clear ih hc hf hbz hcl hC hoo hE heo hl hT hTO hdep hK hB hlen
  go_enter Tryz.func121, Tryz.ntmps121
  go_wp2_with fail
  refine (deeds_any _).mono ?_
  rintro _ w1 ⟨mb, rfl, hM, hb1⟩
  have HR1 := Lib.hid (HR0.out w1 mb hb1 hM)
  clear hM hb1 HR0
  go_wp2_with fail
  go_loopg [6] n (fun d v X => ∃ e t, Hid (RS c wb gt f n d oo mb X e t))
  case atStart => exact ⟨e, t, HR1.out⟩
  case round =>
    clear HR1
    obtain ⟨e, t, hS⟩ := hrel
    obtain ⟨m, rfl⟩ : ∃ m, gk = m + 1 := ⟨gk - 1, by have := hS.out.left; omega⟩
    obtain ⟨hgw, tv, lv, lx, q1, q2, q3, q4⟩ := hS.out.ev
    have ha0 := hS.out.tok.at0
    obtain ⟨L, hL⟩ : ∃ L, L = e.log.length := ⟨_, rfl⟩
    rw [← hL] at q3 ha0
    obtain ⟨g, cl, hlv⟩ : ∃ g cl, lv = .slice (some ⟨g, 0, none⟩) L cl := by
      obtain ⟨L', hL'⟩ : ∃ L', L = L' + 1 := ⟨L - 1, by omega⟩
      rw [hL'] at q3 ⊢
      exact ownsRow_succ q3
    subst hlv
    obtain ⟨s, hs⟩ : ∃ s, e.log[t.at0]? = some s := ⟨_, List.getElem?_eq_getElem (by omega)⟩
    have hsD : e.log.getD t.at0 0 = s := by rw [List.getD_eq_getElem?_getD, hs]; rfl
    have cs : wr.cell? ⟨g, t.at0 * 2 + 1, none⟩ = some (.int .i64 (s : Int)) := (World.ownsRow.cellAt q3 (t.at0 * 2 + 1) (by omega)).trans (q4.2 _ _ hs)
    have zs := World.ownsRow.frozenAt q3 (t.at0 * 2 + 1)
    have c0 := hS.out.tk.own
    have c20 := hS.out.tk.pcAt
    have c21 := hS.out.tk.at0At
    have z20 := hS.out.tk.frozen 20
    have g1 := (blk_cell q1 1).trans rfl
    have g3 := (blk_cell q1 3).trans rfl
    have g7 := (blk_cell q1 7).trans rfl
    have zg := blk_frozen q1 3
    have i0 : (0 : Int) ≤ (t.at0 : Int) := by omega
    have i1 : (t.at0 : Int) < (L : Int) := by omega
    have hrun := hS.out.run
    unfold runF at hrun
    rw [hsD] at hrun
    have HQ := Lib.hid (And.intro hgw (And.intro q1 (And.intro q2 (And.intro q3 q4))))
    have HL := Lib.hid (And.intro hL (And.intro ha0 hs))
    clear hgw q1 q2 q3 q4 hL ha0 hs
    by_cases hB : (s : Int) = c.B
    · rw [if_pos hB] at hrun
      have e1 : ((s : Int) == c.B) = true := by rw [hB]; simp
      have HRUN := Lib.hid hrun
      clear hB hrun hsD
      go_wp2_with fail
      go_quiet (fail)
      go_wp2_with fail
      go_quiet (fail)
      go_wp2_with fail
      refine (fail_any 3 _).mono ?_
      rintro e9 w' ⟨rfl, rfl⟩
      rw [← HRUN.out]
      refine ⟨rfl, ?_, ?_, rfl, ?_⟩
      · exact (hS.out.below (pw_below_drewN (Below.refl _ _) _)).kq
      · exact (hS.out.below (pw_below_drewN (Below.refl _ _) _)).bel
      · exact (hS.out.below (pw_below_drewN (Below.refl _ _) _)).ev
    rw [if_neg hB] at hrun
    have e1 : ((s : Int) == c.B) = false := beq_eq_false_iff_ne.2 hB
    clear hB
    by_cases hz : e.left = 0
    · rw [if_pos hz] at hrun
      have e2 : ((e.left : Int) == 0) = true := by rw [hz]; rfl
      have HRUN := Lib.hid hrun
      clear hz hrun hsD
      go_wp2_with fail
      go_quiet (fail)
      go_wp2_with fail
      go_quiet (fail)
      go_wp2_with fail
      rw [← HRUN.out]
      refine ⟨rfl, ?_, ?_, rfl, ?_⟩
      · exact (hS.out.below (pw_below_drewN (Below.refl _ _) _)).kq
      · exact (hS.out.below (pw_below_drewN (Below.refl _ _) _)).bel
      · exact (hS.out.below (pw_below_drewN (Below.refl _ _) _)).ev
    rw [if_neg hz] at hrun
    have e2 : ((e.left : Int) == 0) = false := by rw [beq_eq_false_iff_ne]; omega
    clear hsD
    have HRUN := Lib.hid hrun
    have HZ := Lib.hid hz
    clear hrun hz
    go_wp2_with fail
    go_quiet (fail)
    revert nq
    intro n1
    go_wp2_with fail
    go_quiet (fail)
    clear cs zs c0 c20 c21 z20 g1 g3 g7 zg
    obtain ⟨X0, hX0⟩ : ∃ X : World, X = (wr.drewN n1).drewN nq := ⟨_, rfl⟩
    have hbX : Below wr.heap.size wr X0 := by rw [hX0]; exact pw_below_drewN (pw_below_drewN (Below.refl _ _) _) _
    have HS0 := Lib.hid (hS.out.below hbX)
    have q1 := blk_below HQ.out.2.1 hbX
    have q3 := pw_own_below HQ.out.2.2.2.1 hbX
    have q4 := HQ.out.2.2.2.2
    have HQ0 := Lib.hid (And.intro q1 (And.intro (pw_own_below HQ.out.2.2.1 hbX) q3))
    rw [← hX0]
    clear hX0 hbX hS
    have cs : X0.cell? ⟨g, t.at0 * 2 + 1, none⟩ = some (.int .i64 (s : Int)) := (World.ownsRow.cellAt q3 (t.at0 * 2 + 1) (by have := HL.out.2.1; omega)).trans (q4.2 _ _ HL.out.2.2)
    have zs := World.ownsRow.frozenAt q3 (t.at0 * 2 + 1)
    have c0 := HS0.out.tk.own
    have c20 := HS0.out.tk.pcAt
    have z20 := HS0.out.tk.frozen 20
    have g3 := (blk_cell q1 3).trans rfl
    have zg := blk_frozen q1 3
    have hqg : HQ.out = HQ.out := rfl
    obtain ⟨ct, hct⟩ := HS0.out.tk.blk
    have n1 : ¬ c.gw = g := by
      intro h
      have h1 := own_ne q3 q1 (by decide)
      exact h1 (by rw [h]; rfl)
    have n2 : ¬ gt = g := by
      intro h
      have h1 := own_ne q3 hct (by decide)
      exact h1 (by rw [h]; rfl)
    have n3 : ¬ gt = c.gw := by
      intro h
      rw [h, q1] at hct
      injection hct with hct
      injection hct with _ hct
      exact absurd hct (by decide)
    have n4 : ¬ g = c.gw := fun h => n1 h.symm
    have n5 : ¬ g = gt := fun h => n2 h.symm
    have n6 : ¬ c.gw = gt := fun h => n3 h.symm
    obtain ⟨ln, hln⟩ : ∃ ln, ln = e.left - 1 := ⟨_, rfl⟩
    obtain ⟨sn, hsn⟩ : ∃ sn, sn = s + 1 := ⟨_, rfl⟩
    obtain ⟨pn, hpn⟩ : ∃ pn, pn = t.pc + 1 := ⟨_, rfl⟩
    have hse : s + e.left ≤ big := HS0.out.eo.steps s (by have := HL.out.2.2; exact List.mem_of_getElem? this)
    have hle : e.left ≤ big := by omega
    have hpl := HS0.out.tok.pc
    have hz := HZ.out
    have hFn := valid_fn HC.out.1.valid f HC.out.2.1
    have hcl64 : (codeOf c.p f).length ≤ 64 := by simpa [codeOf] using hFn.len.2
    have w1 : wrap64 ((e.left : Int) - 1) = (ln : Int) := by unfold big at *; unfold wrap64; omega
    have w2 : wrap64 ((s : Int) + 1) = (sn : Int) := by unfold big at *; unfold wrap64; omega
    have w3 : wrap64 ((t.pc : Int) + 1) = (pn : Int) := by unfold wrap64; omega
    have HNE := Lib.hid (And.intro hln (And.intro hsn (And.intro hpn hFn)))
    clear hln hsn hpn hse hle hpl hz hFn hcl64 hqg q1 q3 q4 hct
    obtain ⟨i, hi⟩ : ∃ i, (codeOf c.p f).getD t.pc (0, []) = i := ⟨_, rfl⟩
    have HI := Lib.hid hi
    have hpc : t.pc < (codeOf c.p f).length := HS0.out.tok.pc
    obtain ⟨ad, hA, f0, f1, f2, f3, f4⟩ := at_T121 HC.out.2.2.2.2 (t.pc : Int) (by omega) (by omega)
    have e3 : rd_T121 ((codeOf c.p f).map toI) (t.pc : Int) = toI i := by
      have := rd56 (codeOf c.p f) t.pc hpc
      rw [hi] at this
      simpa using this
    rw [e3] at f0 f1 f2 f3 f4
    rw [Int.toNat_natCast] at f0 f1 f2 f3 f4
    have hx : ∀ {q : Addr} {u : Value}, c.w00.cell? q = some u → X0.cell? q = some u := fun h' => (HS0.out.bel.cell (World.block_lt_of_cell? _ _ h')).trans h'
    have hqb : (ad.add (t.pc * 5)).block < c.w00.heap.size := World.block_lt_of_cell? _ _ f0
    have n7 : ¬ (ad.add (t.pc * 5)).block = c.gw := by have h2 : c.w00.heap.size ≤ c.gw := HQ.out.1; omega
    have n8 : ¬ (ad.add (t.pc * 5)).block = gt := by have h2 : c.w00.heap.size ≤ wb.heap.size := HC.out.2.2.1; have h3 := HS0.out.tk.hb; omega
    have n9 : ¬ (ad.add (t.pc * 5)).block = g := by have h2 : c.w00.heap.size ≤ g := own_base HQ0.out.2.2 g rfl; omega
    replace f0 := hx f0
    replace f1 := hx f1
    replace f2 := hx f2
    replace f3 := hx f3
    replace f4 := hx f4
    subst hA
    clear hx hqb e3 hi
    have j0 : (0 : Int) ≤ (t.pc : Int) := by omega
    have j1 : (t.pc : Int) < (len : Int) := by rw [HLEN.out]; omega
    clear hpc
    have f0' : X0.cell? (ad.add (t.pc * 5)) = some (.int .i64 i.1) := f0
    have f1' : X0.cell? ⟨(ad.add (t.pc * 5)).block, (ad.add (t.pc * 5)).off + 1, none⟩ = some (.int .i64 (fd i 0)) := f1
    have f2' : X0.cell? ⟨(ad.add (t.pc * 5)).block, (ad.add (t.pc * 5)).off + 2, none⟩ = some (.int .i64 (fd i 1)) := f2
    have f3' : X0.cell? ⟨(ad.add (t.pc * 5)).block, (ad.add (t.pc * 5)).off + 3, none⟩ = some (.int .i64 (fd i 2)) := f3
    have f4' : X0.cell? ⟨(ad.add (t.pc * 5)).block, (ad.add (t.pc * 5)).off + 4, none⟩ = some (.int .i64 (fd i 3)) := f4
    have hfar : ∀ {q : Addr} {u : Value}, X0.cell? q = some u → q.block ≠ c.gw → q.block ≠ g → ((X0.setCell ⟨c.gw, 3, none⟩ (.int .i64 (ln : Int))).setCell ⟨g, t.at0 * 2 + 1, none⟩ (.int .i64 (sn : Int))).cell? q = some u := fun {q u} h h1 h2 => by
      rw [World.cell?_setCell_far _ _ _ _ (by simpa using fun e => h2 e.symm), World.cell?_setCell_far _ _ _ _ (by simpa using fun e => h1 e.symm)]
      exact h
    have y0 := hfar f0' n7 n9
    have y1 := hfar f1' n7 n9
    have y2 := hfar f2' n7 n9
    have y3 := hfar f3' n7 n9
    have y4 := hfar f4' n7 n9
    clear f0 f1 f2 f3 f4 f0' f1' f2' f3' f4' hfar
    obtain ⟨cg, hcg⟩ := own_typed HQ0.out.2.2 g rfl
    have hk1 : Kq [142] X0 (X0.setCell ⟨c.gw, 3, none⟩ (.int .i64 (ln : Int))) := Kq.set HQ0.out.1 (by simp) 3 _
    have hk2 : Kq [229] (X0.setCell ⟨c.gw, 3, none⟩ (.int .i64 (ln : Int))) ((X0.setCell ⟨c.gw, 3, none⟩ (.int .i64 (ln : Int))).setCell ⟨g, t.at0 * 2 + 1, none⟩ (.int .i64 (sn : Int))) := Kq.set (hk1.get hcg (by decide)) (by simp) _ _
    have HKA : Hid (Kq [142, 2, 229] X0 ((X0.setCell ⟨c.gw, 3, none⟩ (.int .i64 (ln : Int))).setCell ⟨g, t.at0 * 2 + 1, none⟩ (.int .i64 (sn : Int)))) := (hk1.more (by intro t ht; simp at ht; subst ht; simp)).trans (hk2.more (by intro t ht; simp at ht; subst ht; simp))
    have HTA : Hid (TkR wb.heap.size gt c.gw ((X0.setCell ⟨c.gw, 3, none⟩ (.int .i64 (ln : Int))).setCell ⟨g, t.at0 * 2 + 1, none⟩ (.int .i64 (sn : Int))) t) := (HS0.out.tk.kq hk1 (by decide) (by decide) (by decide)).kq hk2 (by decide) (by decide) (by decide)
    have HBA : Hid (Below c.base c.w00 ((X0.setCell ⟨c.gw, 3, none⟩ (.int .i64 (ln : Int))).setCell ⟨g, t.at0 * 2 + 1, none⟩ (.int .i64 (sn : Int)))) := (HS0.out.bel.setCell (p := ⟨c.gw, 3, none⟩) HQ.out.1 _).setCell (p := ⟨g, t.at0 * 2 + 1, none⟩) (own_base HQ0.out.2.2 g rfl) _
    have HEA : Hid (c.ev ((X0.setCell ⟨c.gw, 3, none⟩ (.int .i64 (ln : Int))).setCell ⟨g, t.at0 * 2 + 1, none⟩ (.int .i64 (sn : Int))) { e with left := ln, log := e.log.set t.at0 sn }) := by
      have r1 := hk1.own HQ0.out.2.2 (by decide)
      have r2 := r1.stored (t.at0 * 2 + 1) (.int .i64 (sn : Int))
      refine ⟨HQ.out.1, tv, .slice (some ⟨g, 0, none⟩) L cl, lx.set (t.at0 * 2 + 1) (.int .i64 (sn : Int)), ?_, hk2.own (hk1.own HQ0.out.2.1 (by decide)) (by decide), ?_, HQ.out.2.2.2.2.set t.at0 sn⟩
      · exact hk2.get ((blk_set HQ0.out.1 3 _).trans rfl) (by decide)
      · rw [show (e.log.set t.at0 sn).length = L from by rw [List.length_set]; exact HL.out.1.symm]
        exact r2.1
    have hab : Below (((X0.setCell ⟨c.gw, 3, none⟩ (.int .i64 (ln : Int))).setCell ⟨g, t.at0 * 2 + 1, none⟩ (.int .i64 (sn : Int)))).heap.size ((X0.setCell ⟨c.gw, 3, none⟩ (.int .i64 (ln : Int))).setCell ⟨g, t.at0 * 2 + 1, none⟩ (.int .i64 (sn : Int))) ((((X0.setCell ⟨c.gw, 3, none⟩ (.int .i64 (ln : Int))).setCell ⟨g, t.at0 * 2 + 1, none⟩ (.int .i64 (sn : Int)))).alloc (.cells #[.int .i64 i.1, .int .i64 (fd i 0), .int .i64 (fd i 1), .int .i64 (fd i 2), .int .i64 (fd i 3)] 121)) := (Below.refl _ _).alloc (Nat.le_refl _) _
    have c20 : ((((X0.setCell ⟨c.gw, 3, none⟩ (.int .i64 (ln : Int))).setCell ⟨g, t.at0 * 2 + 1, none⟩ (.int .i64 (sn : Int)))).alloc (.cells #[.int .i64 i.1, .int .i64 (fd i 0), .int .i64 (fd i 1), .int .i64 (fd i 2), .int .i64 (fd i 3)] 121)).cell? ⟨gt, 20, none⟩ = some (.int .i64 (t.pc : Int)) := (HTA.out.below hab).pcAt
    have z20 : ((((X0.setCell ⟨c.gw, 3, none⟩ (.int .i64 (ln : Int))).setCell ⟨g, t.at0 * 2 + 1, none⟩ (.int .i64 (sn : Int)))).alloc (.cells #[.int .i64 i.1, .int .i64 (fd i 0), .int .i64 (fd i 1), .int .i64 (fd i 2), .int .i64 (fd i 3)] 121)).frozen? ⟨gt, 20, none⟩ = false := (HTA.out.below hab).frozen 20
    have hbg := HTA.out.below hab
    obtain ⟨cy, hcy⟩ := hbg.blk
    have hk4 := Kq.set hcy (show 227 ∈ [227] by simp) 20 (.int .i64 (pn : Int))
    have hgne : X0.heap.size ≠ gt := by
      obtain ⟨cz, hcz⟩ := HS0.out.tk.blk
      have := blk_lt hcz
      omega
    obtain ⟨Y, hY, HY⟩ : ∃ Y : World, Y = ((((X0.setCell ⟨c.gw, 3, none⟩ (.int .i64 (ln : Int))).setCell ⟨g, t.at0 * 2 + 1, none⟩ (.int .i64 (sn : Int))).alloc (.cells #[.int .i64 i.1, .int .i64 (fd i 0), .int .i64 (fd i 1), .int .i64 (fd i 2), .int .i64 (fd i 3)] 121)).setCell ⟨gt, 20, none⟩ (.int .i64 (pn : Int))) ∧ Hid (Kq [142, 2, 229] wb Y ∧ Below c.base c.w00 Y ∧ c.ev Y { e with left := ln, log := e.log.set t.at0 sn } ∧ TkR wb.heap.size gt c.gw Y { t with pc := pn } ∧ MapD Y mb) :=
      ⟨_, rfl, (((HS0.out.kq.trans HKA.out).trans (Kq.below hab)).fresh gt HS0.out.tk.hb 20 _), ((HBA.out.trans (hab.mono HBA.out.size)).setCell (p := ⟨gt, 20, none⟩) (Nat.le_trans HC.out.2.2.1 HS0.out.tk.hb) _), EvR.keep (EvR.below HEA.out hab) hk4 (by decide) (by decide) (by decide), hbg.setPc pn, (((HS0.out.map.kq hk1).kq hk2).kq (Kq.below (ts := []) hab)).kq hk4⟩
    clear hbg hcy hk4
    clear hcg hk1 hk2 hab
    by_cases h17 : i.1 = 17
    · have e17 : (i.1 == 17) = true := by rw [h17]; rfl
      have H17 := Lib.hid h17
      clear h17
      have HYY := Lib.hid hY
      clear hY
      go_wp2_with fail
      rw [← HYY.out]
      refine (tsync_any HY.out.2.2.2.1 HS0.out.tok.wait (by have h1 := HS0.out.tok.wlen; have h2 : big ≤ 1000000 := by decide
                                                            show t.wait.length ≤ 1000000
                                                            omega) _ _ _ _ _).mono ?_
      rintro e9 w9 ⟨rfl, hu, ht⟩
      have HU := Lib.hid hu
      have HT9 := Lib.hid ht
      clear hu ht c20 z20 y0 y1 y2 y3 y4
      have hop : OpF c.p (c.p.getD f (0, [])) i := by
        rw [← HI.out]
        exact HNE.out.2.2.2.at_ t.pc HS0.out.tok.pc
      have hra : regOk (fd i 0) := op_ret hop H17.out
      obtain ⟨x, hx, hx8⟩ := reg_nat hra
      have hbx : Y.heap[X0.heap.size]? = some (.cells #[.int .i64 i.1, .int .i64 (fd i 0), .int .i64 (fd i 1), .int .i64 (fd i 2), .int .i64 (fd i 3)] 121 (0, 0)) := by
        rw [HYY.out]
        refine blk_far ?_ hgne _
        have e8 : ((X0.setCell ⟨c.gw, 3, none⟩ (.int .i64 (ln : Int))).setCell ⟨g, t.at0 * 2 + 1, none⟩ (.int .i64 (sn : Int))).heap.size = X0.heap.size := by rw [World.size_setCell, World.size_setCell]
        rw [← e8]
        exact heap_alloc_new _ _
      have hbx9 := (HU.out.same X0.heap.size (blk_lt hbx) hgne).trans hbx
      have k1 : w9.cell? ⟨X0.heap.size, 1, none⟩ = some (.int .i64 (x : Int)) := by
        rw [← hx]
        exact (blk_cell hbx9 1).trans rfl
      have k2 := HT9.out.reg x hx8
      obtain ⟨vv, hvv⟩ : ∃ vv, ({ t with pc := pn } : Tk).sync.regs.getD x 0 = vv := ⟨_, rfl⟩
      rw [hvv] at k2
      have HVV := Lib.hid hvv
      clear hvv
      have i8 : (0 : Int) ≤ (x : Int) := by omega
      have i9 : (x : Int) < 8 := by omega
      have HX := Lib.hid hx
      have HBX := Lib.hid (And.intro hbx hbx9)
      have HY' := HY.out
      have HFIN : Hid (Kq [142, 2, 229] wb w9 ∧ Below c.base c.w00 w9 ∧ c.ev w9 { e with left := ln, log := e.log.set t.at0 sn }) := by
        obtain ⟨cb, hcb⟩ := HY'.2.2.2.1.blk
        exact ⟨HY'.1.upd HU.out HY'.2.2.2.1.hb, HY'.2.1.trans (HU.out.low _ (Nat.le_trans HC.out.2.2.1 HY'.2.2.2.1.hb) HY'.2.1.size), EvR.keep HY'.2.2.1 (HU.out.kq hcb) (by decide) (by decide) (by decide)⟩
      clear hop hra hx hx8 hbx hbx9 HY'
      go_wp2_with fail
      go_quiet (fail)
      go_wp2_with fail
      go_ret
      have hr := HRUN.out
      rw [HI.out, if_pos H17.out] at hr
      rw [← hr]
      have hbd : Below w9.heap.size w9 _ := pw_below_drewN (Below.refl _ _) nq
      refine ⟨HFIN.out.1.trans (Kq.below hbd), HFIN.out.2.1.trans (hbd.mono HFIN.out.2.1.size), ?_, EvR.below ?_ hbd⟩
      · rw [HX.out, ← HNE.out.2.2.1]
        show Ending.returned (.int .i64 vv) = _
        rw [← HVV.out]
        rfl
      · rw [← HNE.out.1, ← HNE.out.2.1]
        exact HFIN.out.2.2
    · have e17 : (i.1 == 17) = false := beq_eq_false_iff_ne.2 h17
      have H17 := Lib.hid h17
      clear h17
      have hop : OpF c.p (c.p.getD f (0, [])) i := by
        rw [← HI.out]
        exact HNE.out.2.2.2.at_ t.pc HS0.out.tok.pc
      have heS : EvS { e with left := ln, log := e.log.set t.at0 sn } := by
        have hz9 := HZ.out
        have hl9 := HNE.out.1
        have hs9 := HNE.out.2.1
        refine ⟨?_, ?_, fun q hq => ?_⟩
        · have := HS0.out.eo.told
          show e.told.length + ln + 1 ≤ big
          omega
        · have := HS0.out.eo.log
          show (e.log.set _ _).length + ln + 1 ≤ big
          rw [List.length_set]
          omega
        · show q + ln ≤ big
          rcases List.mem_or_eq_of_mem_set hq with hq | hq
          · have := HS0.out.eo.steps q hq
            omega
          · have := HS0.out.eo.steps s (List.mem_of_getElem? HL.out.2.2)
            omega
      have hb9 : big ≤ 1000000 := by decide
      obtain ⟨F, hF, hlk, hcl⟩ := deed_call HC.out.1 m (HIH.out m (by have := HS0.out.le; omega)) _ i hop H17.out HY.out.2.2.2.1 HY.out.2.2.1 heS (by have := HS0.out.left; have := HNE.out.1; have := HZ.out; show ln < m; omega) HS0.out.tok.wait (by have h1 := HS0.out.tok.wlen; show t.wait.length ≤ big; omega) (by have h1 := HS0.out.tok.kids; show t.kids ≤ big; omega) HS0.out.dep HY.out.2.1 HC.out.2.2.1 HY.out.1 HY.out.2.2.2.2
      have HCL := Lib.hid hcl
      rw [hY] at hlk
      have HYY := Lib.hid hY
      have HES := Lib.hid heS
      clear hY hcl hop heS hb9
      go_wp2_with fail
      rw [← HYY.out]
      have hfc := run_deed hF
      simp only [hfc, Oper.upon]
      refine HCL.out.mono ?_
      rintro en9 w9 ⟨p1, p2, p3⟩
      have hr := HRUN.out
      rw [HI.out, if_neg H17.out, ← HNE.out.1, ← HNE.out.2.1, ← HNE.out.2.2.1] at hr
      revert p3 hr
      generalize hde : deed c.p c.D (runF c.p c.B c.D m) i { e with left := ln, log := e.log.set t.at0 sn } { t with pc := pn } = dr
      intro p3 hr
      have HDE := Lib.hid hde
      have HPP := Lib.hid (And.intro p1 p2)
      clear hde p1 p2
      cases dr with
      | go e2 t2 =>
        change en9 = _ ∧ c.ev w9 e2 ∧ _ ∧ Km Y w9 at p3
        obtain ⟨hen, q1, q2, q3⟩ := p3
        subst hen
        have HR2 := Lib.hid hr
        have HQ2 := Lib.hid (And.intro q1 (And.intro q2 q3))
        clear hr q1 q2 q3 c20 z20 y0 y1 y2 y3 y4 hfc hlk
        go_wp2_with fail
        go_roundg m
        case measure => exact Nat.lt_succ_self m
        case rel =>
          have hdo : DOk ({ e with left := ln, log := e.log.set t.at0 sn } : Ev) (DRes.go e2 t2) := by
            rw [← HDE.out]
            exact deed_ok (fun e t c h => runF_ok _ _ _ m e t c h) _ _ HES.out
          refine ⟨e2, t2, ⟨HR2.out, by have := HS0.out.le; omega, HQ2.out.1, hdo.1, ?_, HQ2.out.2.1, ?_, HPP.out.1, HPP.out.2, HY.out.2.2.2.2.km HQ2.out.2.2, ?_⟩⟩
          · have h1 := hdo.2.1
            change e2.left ≤ ln at h1
            have h2 := HS0.out.left
            have h3 := HNE.out.1
            have h4 := HZ.out
            omega
          · have ht0 := HS0.out.tok
            have h3 := HNE.out.1
            have h4 := HZ.out
            refine deed_tk (f := c.p.getD f (0, [])) (D := c.D) (child := runF c.p c.B c.D m) HNE.out.2.2.2 (fun e t cc h => runF_ok c.p c.B c.D m e t cc h) HI.out HES.out (t := t) ?_ ?_ ?_ H17.out ?_
            · refine ⟨ht0.regs, ht0.hands, ht0.wait, ?_, ?_, ht0.pc, ?_⟩
              · have := ht0.wlen; show t.wait.length + ln ≤ big; omega
              · have := ht0.kids; show t.kids + ln ≤ big; omega
              · have := ht0.at0; show t.at0 < (e.log.set _ _).length; rw [List.length_set]; exact this
            · have := ht0.wlen; show t.wait.length + ln + 1 ≤ big; omega
            · have := ht0.kids; show t.kids + ln + 1 ≤ big; omega
            · rw [← HNE.out.2.2.1]
              exact HDE.out
          · rw [deed_dep HDE.out]
            exact HS0.out.dep
      | stop o =>
        rw [← hr]
        have hns := deed_stop HDE.out
        have HQ3 := Lib.hid p3
        clear p3 hr
        cases o with
        | ok e3 v3 => exact absurd rfl (hns e3 v3)
        | fail e3 why =>
          obtain ⟨rfl, g4⟩ := HQ3.out
          exact ⟨rfl, HPP.out.1, HPP.out.2, rfl, g4⟩
        | long e3 =>
          obtain ⟨rfl, g4⟩ := HQ3.out
          exact ⟨rfl, HPP.out.1, HPP.out.2, rfl, g4⟩
end Go.Proofs.YtbiajfkencamiaaGreatDoor.EV
