/- eval, as plain lists: what a task's run comes to; what a program that may run is. An evaluation and its tasks in memory. (Merged and reduced by need2.py and pack.py: E1, E2) -/
import Derived.Test.YtbiajfkencamiaaGreatDoorV6
/-! E1 -/
section
namespace Go.Proofs.YtbiajfkencamiaaGreatDoor.EV
open Go.Proofs.YtbiajfkencamiaaGreatDoor Go.Proofs.YtbiajfkencamiaaGreatDoor.Core Go.RowKit
set_option linter.unusedVariables false
set_option linter.unusedSimpArgs false
abbrev Fn := Core.Fn
/-- How an evaluation stands: how many instructions are left, each task's steps, what was told. -/
structure Ev where
  left : Nat
  log : List Nat
  told : List Int
/-- A task: its depth, registers, handles, what waits, kids, place, and its place in the log. -/
structure Tk where
  dep : Nat
  regs : List Int
  hands : List (Bool × Int)
  wait : List (Int × Int)
  kids : Nat
  pc : Nat
  at0 : Nat
inductive Out where
  | ok (e : Ev) (v : Int)
  | fail (e : Ev) (why : Int)
  | long (e : Ev)
inductive DRes where
  | go (e : Ev) (t : Tk)
  | stop (o : Out)
abbrev wr (x : Int) : Int := wrap64 x
def Tk.reg (t : Tk) (n : Int) : Int := t.regs.getD n.toNat 0
def Tk.put (t : Tk) (n v : Int) : Tk := { t with regs := t.regs.set n.toNat v }
def Tk.sync (t : Tk) : Tk := { t with regs := t.wait.foldl (fun r x => r.set x.1.toNat x.2) t.regs, wait := [] }
def fd (i : Int × List Int) (n : Nat) : Int := i.2.getD n 0
def codeOf (p : List Fn) (f : Int) : List (Int × List Int) := (p.getD f.toNat (0, [])).2
def arityOf (p : List Fn) (f : Int) : Int := (p.getD f.toNat (0, [])).1
/-- What an instruction but ret does; child: what a task that is begun comes to. -/
def deed (p : List Fn) (D : Int) (child : Ev → Tk → Int → Out) (i : Int × List Int) (e : Ev) (t : Tk) : DRes :=
  let a := fd i 0
  let b := fd i 1
  let c := fd i 2
  let k := fd i 3
  match i.1 with
  | 1 => .go e (t.put a k)
  | 2 => .go e (t.put a (t.reg b))
  | 3 => .go e (t.put a (wr (t.reg b + t.reg c)))
  | 4 => .go e (t.put a (wr (t.reg b - t.reg c)))
  | 5 => .go e (t.put a (wr (t.reg b * t.reg c)))
  | 6 => if t.reg c = 0 then .stop (.fail e 1) else .go e (t.put a (wr ((t.reg b).tdiv (t.reg c))))
  | 7 => .go e (t.put a (if t.reg b < t.reg c then 1 else 0))
  | 8 => .go e (t.put a (if t.reg b = t.reg c then 1 else 0))
  | 9 => .go e { t with pc := k.toNat }
  | 10 => .go e (if t.reg a = 0 then { t with pc := k.toNat } else t)
  | 12 => .go e t.sync
  | 14 => if (t.hands.getD b.toNat (false, 0)).1 then .go e (t.put a (t.hands.getD b.toNat (false, 0)).2) else .stop (.fail e 2)
  | 15 => .go { e with told := e.told ++ [t.reg a] } t
  | 16 => .stop (.fail e k)
  | op =>
    if (t.dep : Int) = D then .stop (.fail e 4)
    else
      let n := (arityOf p c).toNat
      let regs := (t.regs.drop b.toNat).take n ++ List.replicate (8 - n) 0
      match child { e with log := e.log ++ [0] } { dep := t.dep + 1, regs := regs, hands := t.hands, wait := [], kids := 0, pc := 0, at0 := e.log.length } c with
      | .ok e2 v => .go e2 (if op = 11 then { t with kids := t.kids + 1, wait := t.wait ++ [(a, v)] } else { t with kids := t.kids + 1, hands := t.hands.set a.toNat (true, v) })
      | o => .stop o
/-- A task's run. -/
def runF (p : List Fn) (B D : Int) : Nat → Ev → Tk → Int → Out
  | 0, e, _, _ => .long e
  | n + 1, e, t, f =>
    if (e.log.getD t.at0 0 : Int) = B then .fail e 3
    else if e.left = 0 then .long e
    else
      let e1 : Ev := { e with left := e.left - 1, log := e.log.set t.at0 (e.log.getD t.at0 0 + 1) }
      let i := (codeOf p f).getD t.pc (0, [])
      let t1 : Tk := { t with pc := t.pc + 1 }
      if i.1 = 17 then .ok e1 (t1.sync.reg (fd i 0))
      else match deed p D (runF p B D n) i e1 t1 with
        | .go e2 t2 => runF p B D n e2 t2 f
        | .stop o => o
/-- What an instruction of a program that may run is. -/
def regOk (n : Int) : Prop := 0 ≤ n ∧ n < 8
def handOk (n : Int) : Prop := 0 ≤ n ∧ n < 4
inductive OpF (p : List Fn) (f : Fn) (i : Int × List Int) : Prop where
  | set (h : i.1 = 1) (a : regOk (fd i 0)) (k : -2147483648 ≤ fd i 3 ∧ fd i 3 < 2147483648)
  | move (h : i.1 = 2) (a : regOk (fd i 0)) (b : regOk (fd i 1))
  | arith (h : 3 ≤ i.1 ∧ i.1 ≤ 8) (a : regOk (fd i 0)) (b : regOk (fd i 1)) (c : regOk (fd i 2))
  | jump (h : i.1 = 9) (k : 0 ≤ fd i 3 ∧ fd i 3 < (f.2.length : Int))
  | zero (h : i.1 = 10) (a : regOk (fd i 0)) (k : 0 ≤ fd i 3 ∧ fd i 3 < (f.2.length : Int))
  | spawn (h : i.1 = 11) (a : regOk (fd i 0)) (b : regOk (fd i 1)) (c : 0 ≤ fd i 2 ∧ fd i 2 < (p.length : Int)) (ar : arOf p (fd i 2) ≤ 8 - fd i 1)
  | sync (h : i.1 = 12)
  | future (h : i.1 = 13) (a : handOk (fd i 0)) (b : regOk (fd i 1)) (c : 0 ≤ fd i 2 ∧ fd i 2 < (p.length : Int)) (ar : arOf p (fd i 2) ≤ 8 - fd i 1)
  | touch (h : i.1 = 14) (a : regOk (fd i 0)) (b : handOk (fd i 1))
  | emit (h : i.1 = 15) (a : regOk (fd i 0))
  | fail (h : i.1 = 16) (k : 16 ≤ fd i 3 ∧ fd i 3 < 2147483648)
  | ret (h : i.1 = 17) (a : regOk (fd i 0))
theorem op_facts {p : List Fn} {f : Fn} {i : Int × List Int} (h : instrOk p f i = true) : OpF p f i := by
  unfold instrOk instrB at h
  obtain ⟨o, fs⟩ := i
  change ((shapeV o).2.2.2.2 && _ && _ && _) = true at h
  have ho : 1 ≤ o ∧ o ≤ 17 := by
    by_cases hq : 1 ≤ o ∧ o ≤ 17
    · exact hq
    · have e : shapeV o = (0, 0, 0, 0, false) := by
        unfold shapeV
        repeat rw [if_neg (by omega)]
      rw [e] at h
      simp at h
  have hc : o = 1 ∨ o = 2 ∨ o = 3 ∨ o = 4 ∨ o = 5 ∨ o = 6 ∨ o = 7 ∨ o = 8 ∨ o = 9 ∨ o = 10 ∨ o = 11 ∨ o = 12 ∨ o = 13 ∨ o = 14 ∨ o = 15 ∨ o = 16 ∨ o = 17 := by omega
  rcases hc with rfl | rfl | rfl | rfl | rfl | rfl | rfl | rfl | rfl | rfl | rfl | rfl | rfl | rfl | rfl | rfl | rfl
  all_goals simp [shapeV, zeroB, fieldB] at h
  · exact .set (by first | rfl | (show _ ∧ _; omega)) (by simp only [fd, regOk, handOk, List.getD_eq_getElem?_getD]; omega) (by simp only [fd, regOk, handOk, List.getD_eq_getElem?_getD]; omega)
  · exact .move (by first | rfl | (show _ ∧ _; omega)) (by simp only [fd, regOk, handOk, List.getD_eq_getElem?_getD]; omega) (by simp only [fd, regOk, handOk, List.getD_eq_getElem?_getD]; omega)
  · exact .arith (by first | rfl | (show _ ∧ _; omega)) (by simp only [fd, regOk, handOk, List.getD_eq_getElem?_getD]; omega) (by simp only [fd, regOk, handOk, List.getD_eq_getElem?_getD]; omega) (by simp only [fd, regOk, handOk, List.getD_eq_getElem?_getD]; omega)
  · exact .arith (by first | rfl | (show _ ∧ _; omega)) (by simp only [fd, regOk, handOk, List.getD_eq_getElem?_getD]; omega) (by simp only [fd, regOk, handOk, List.getD_eq_getElem?_getD]; omega) (by simp only [fd, regOk, handOk, List.getD_eq_getElem?_getD]; omega)
  · exact .arith (by first | rfl | (show _ ∧ _; omega)) (by simp only [fd, regOk, handOk, List.getD_eq_getElem?_getD]; omega) (by simp only [fd, regOk, handOk, List.getD_eq_getElem?_getD]; omega) (by simp only [fd, regOk, handOk, List.getD_eq_getElem?_getD]; omega)
  · exact .arith (by first | rfl | (show _ ∧ _; omega)) (by simp only [fd, regOk, handOk, List.getD_eq_getElem?_getD]; omega) (by simp only [fd, regOk, handOk, List.getD_eq_getElem?_getD]; omega) (by simp only [fd, regOk, handOk, List.getD_eq_getElem?_getD]; omega)
  · exact .arith (by first | rfl | (show _ ∧ _; omega)) (by simp only [fd, regOk, handOk, List.getD_eq_getElem?_getD]; omega) (by simp only [fd, regOk, handOk, List.getD_eq_getElem?_getD]; omega) (by simp only [fd, regOk, handOk, List.getD_eq_getElem?_getD]; omega)
  · exact .arith (by first | rfl | (show _ ∧ _; omega)) (by simp only [fd, regOk, handOk, List.getD_eq_getElem?_getD]; omega) (by simp only [fd, regOk, handOk, List.getD_eq_getElem?_getD]; omega) (by simp only [fd, regOk, handOk, List.getD_eq_getElem?_getD]; omega)
  · exact .jump (by first | rfl | (show _ ∧ _; omega)) (by simp only [fd, regOk, handOk, List.getD_eq_getElem?_getD]; omega)
  · exact .zero (by first | rfl | (show _ ∧ _; omega)) (by simp only [fd, regOk, handOk, List.getD_eq_getElem?_getD]; omega) (by simp only [fd, regOk, handOk, List.getD_eq_getElem?_getD]; omega)
  · exact .spawn (by first | rfl | (show _ ∧ _; omega)) (by simp only [fd, regOk, handOk, List.getD_eq_getElem?_getD]; omega) (by simp only [fd, regOk, handOk, List.getD_eq_getElem?_getD]; omega) (by simp only [fd, regOk, handOk, List.getD_eq_getElem?_getD]; omega) (by simp only [fd, regOk, handOk, List.getD_eq_getElem?_getD]; omega)
  · exact .sync (by first | rfl | (show _ ∧ _; omega)) 
  · exact .future (by first | rfl | (show _ ∧ _; omega)) (by simp only [fd, regOk, handOk, List.getD_eq_getElem?_getD]; omega) (by simp only [fd, regOk, handOk, List.getD_eq_getElem?_getD]; omega) (by simp only [fd, regOk, handOk, List.getD_eq_getElem?_getD]; omega) (by simp only [fd, regOk, handOk, List.getD_eq_getElem?_getD]; omega)
  · exact .touch (by first | rfl | (show _ ∧ _; omega)) (by simp only [fd, regOk, handOk, List.getD_eq_getElem?_getD]; omega) (by simp only [fd, regOk, handOk, List.getD_eq_getElem?_getD]; omega)
  · exact .emit (by first | rfl | (show _ ∧ _; omega)) (by simp only [fd, regOk, handOk, List.getD_eq_getElem?_getD]; omega)
  · exact .fail (by first | rfl | (show _ ∧ _; omega)) (by simp only [fd, regOk, handOk, List.getD_eq_getElem?_getD]; omega)
  · exact .ret (by first | rfl | (show _ ∧ _; omega)) (by simp only [fd, regOk, handOk, List.getD_eq_getElem?_getD]; omega)
theorem valid_len {p : List Fn} (h : validB p = true) : 1 ≤ p.length ∧ p.length ≤ 16 := by
  simp [validB] at h
  exact h.1
structure FnF (p : List Fn) (f : Fn) : Prop where
  ar : 0 ≤ f.1 ∧ f.1 ≤ 4
  len : 1 ≤ f.2.length ∧ f.2.length ≤ 64
  at_ : ∀ r, r < f.2.length → OpF p f (f.2.getD r (0, []))
  next : ∀ r, r < f.2.length → (f.2.getD r (0, [])).1 ≠ 9 → (f.2.getD r (0, [])).1 ≠ 16 → (f.2.getD r (0, [])).1 ≠ 17 → r + 1 < f.2.length
theorem valid_fn {p : List Fn} (h : validB p = true) (q : Nat) (hq : q < p.length) : FnF p (p.getD q (0, [])) := by
  have hm : p.getD q (0, []) ∈ p := by
    rw [List.getD_eq_getElem?_getD, List.getElem?_eq_getElem hq]
    exact List.getElem_mem hq
  generalize p.getD q (0, []) = f at hm
  unfold validB at h
  rw [Bool.and_eq_true] at h
  have hf := List.all_eq_true.1 h.2 f hm
  unfold funcOk at hf
  rw [Bool.and_eq_true, Bool.and_eq_true, Bool.and_eq_true] at hf
  obtain ⟨⟨⟨h1, h2⟩, h3⟩, h4⟩ := hf
  simp at h1 h2
  have hi : ∀ r, r < f.2.length → f.2.getD r (0, []) ∈ f.2 := fun r hr => by
    rw [List.getD_eq_getElem?_getD, List.getElem?_eq_getElem hr]
    exact List.getElem_mem hr
  refine ⟨h1, h2, fun r hr => op_facts (List.all_eq_true.1 h3 _ (hi r hr)), fun r hr n1 n2 n3 => ?_⟩
  rcases Nat.lt_or_ge (r + 1) f.2.length with hlt | hge
  · exact hlt
  · obtain rfl : r = f.2.length - 1 := by omega
    unfold lastOk at h4
    simp only [Bool.or_eq_true, beq_iff_eq] at h4
    rcases h4 with (h4 | h4) | h4
    · exact absurd h4 n1
    · exact absurd h4 n2
    · exact absurd h4 n3
/-- The greatest number of anything. -/
def big : Nat := 20000
structure EvOk (e : Ev) : Prop where
  told : e.told.length + e.left ≤ big
  log : e.log.length + e.left ≤ big
  steps : ∀ s ∈ e.log, s + e.left ≤ big
/-- .. with room for one more. -/
structure EvS (e : Ev) : Prop where
  told : e.told.length + e.left + 1 ≤ big
  log : e.log.length + e.left + 1 ≤ big
  steps : ∀ s ∈ e.log, s + e.left ≤ big
theorem EvS.ok {e : Ev} (h : EvS e) : EvOk e := ⟨by have := h.told; omega, by have := h.log; omega, h.steps⟩
def OutOk (e0 : Ev) : Out → Prop
  | .ok e _ => EvOk e ∧ e.left ≤ e0.left ∧ e0.log.length ≤ e.log.length
  | .fail e _ => EvOk e ∧ e.left ≤ e0.left ∧ e0.log.length ≤ e.log.length
  | .long e => EvOk e ∧ e.left ≤ e0.left ∧ e0.log.length ≤ e.log.length
theorem OutOk.trans {e0 e1 : Ev} {o : Out} (h : OutOk e1 o) (h1 : e1.left ≤ e0.left) (h2 : e0.log.length ≤ e1.log.length) : OutOk e0 o := by
  cases o with
  | ok e v => exact ⟨h.1, Nat.le_trans h.2.1 h1, Nat.le_trans h2 h.2.2⟩
  | fail e v => exact ⟨h.1, Nat.le_trans h.2.1 h1, Nat.le_trans h2 h.2.2⟩
  | long e => exact ⟨h.1, Nat.le_trans h.2.1 h1, Nat.le_trans h2 h.2.2⟩
structure TkOk (cl : Nat) (e : Ev) (t : Tk) : Prop where
  regs : t.regs.length = 8
  hands : t.hands.length = 4
  wait : ∀ x ∈ t.wait, regOk x.1
  wlen : t.wait.length + e.left ≤ big
  kids : t.kids + e.left ≤ big
  pc : t.pc < cl
  at0 : t.at0 < e.log.length
theorem kid_ev {e : Ev} (h : EvS e) : EvOk { e with log := e.log ++ [0] } :=
  ⟨by have := h.told; show e.told.length + e.left ≤ big; omega, by have := h.log; simp; omega, fun s hs => by
    rcases List.mem_append.1 hs with hs | hs
    · exact h.steps s hs
    · simp at hs
      subst hs
      have := h.log
      show 0 + e.left ≤ big
      omega⟩
def DOk (e : Ev) : DRes → Prop
  | .go e2 _ => EvOk e2 ∧ e2.left ≤ e.left ∧ e.log.length ≤ e2.log.length
  | .stop o => OutOk e o
theorem deed_ok {p : List Fn} {D : Int} {child : Ev → Tk → Int → Out} (hc : ∀ e t c, EvOk e → OutOk e (child e t c)) (i : Int × List Int) {e : Ev} (t : Tk) (he : EvS e) : DOk e (deed p D child i e t) := by
  have hs : ∀ t2, DOk e (.go e t2) := fun t2 => ⟨he.ok, Nat.le_refl _, Nat.le_refl _⟩
  have hf : ∀ y, DOk e (.stop (.fail e y)) := fun y => ⟨he.ok, Nat.le_refl _, Nat.le_refl _⟩
  unfold deed
  dsimp only
  split
  all_goals first
    | exact hs _
    | exact hf _
    | (split <;> first | exact hs _ | exact hf _)
    | skip
  · refine ⟨⟨?_, he.ok.log, he.steps⟩, Nat.le_refl _, Nat.le_refl _⟩
    have := he.told
    simp
    omega
  · split
    · exact hf _
    · have hk := hc { e with log := e.log ++ [0] } { dep := t.dep + 1, regs := (t.regs.drop (fd i 1).toNat).take (arityOf p (fd i 2)).toNat ++ List.replicate (8 - (arityOf p (fd i 2)).toNat) 0, hands := t.hands, wait := [], kids := 0, pc := 0, at0 := e.log.length } (fd i 2) (kid_ev he)
      revert hk
      generalize child _ _ _ = o
      intro hk
      have hk2 : OutOk e o := hk.trans (Nat.le_refl _) (by simp)
      cases o with
      | ok e2 v => exact hk2
      | fail e2 v => exact hk2
      | long e2 => exact hk2
theorem runF_ok (p : List Fn) (B D : Int) : ∀ (n : Nat) (e : Ev) (t : Tk) (f : Int), EvOk e → OutOk e (runF p B D n e t f)
  | 0, e, t, f, he => ⟨he, Nat.le_refl _, Nat.le_refl _⟩
  | n + 1, e, t, f, he => by
    unfold runF
    split
    · exact ⟨he, Nat.le_refl _, Nat.le_refl _⟩
    · split
      · exact ⟨he, Nat.le_refl _, Nat.le_refl _⟩
      · rename_i hz
        have hs : EvS { e with left := e.left - 1, log := e.log.set t.at0 (e.log.getD t.at0 0 + 1) } := by
          refine ⟨?_, ?_, fun s hs => ?_⟩
          · have := he.told; show e.told.length + (e.left - 1) + 1 ≤ big; omega
          · have := he.log; show (e.log.set _ _).length + (e.left - 1) + 1 ≤ big; rw [List.length_set]; omega
          · show s + (e.left - 1) ≤ big
            rcases List.mem_or_eq_of_mem_set hs with hs | rfl
            · have := he.steps s hs; omega
            · rcases Nat.lt_or_ge t.at0 e.log.length with hl | hl
              · have := he.steps _ (List.getElem_mem hl)
                rw [List.getD_eq_getElem?_getD, List.getElem?_eq_getElem hl]
                simp only [Option.getD_some]
                omega
              · rw [List.getD_eq_getElem?_getD, List.getElem?_eq_none hl]
                have := he.log
                simp only [Option.getD_none]
                omega
        have hl : ({ e with left := e.left - 1, log := e.log.set t.at0 (e.log.getD t.at0 0 + 1) } : Ev).left ≤ e.left := Nat.sub_le _ _
        have hl2 : e.log.length ≤ ({ e with left := e.left - 1, log := e.log.set t.at0 (e.log.getD t.at0 0 + 1) } : Ev).log.length := by simp
        revert hs hl hl2
        generalize ({ e with left := e.left - 1, log := e.log.set t.at0 (e.log.getD t.at0 0 + 1) } : Ev) = e1
        intro hs hl hl2
        dsimp only
        split
        · exact ⟨hs.ok, hl, hl2⟩
        · have hd := deed_ok (p := p) (D := D) (child := runF p B D n) (fun e t c h => runF_ok p B D n e t c h) ((codeOf p f).getD t.pc (0, [])) { t with pc := t.pc + 1 } hs
          revert hd
          generalize deed p D (runF p B D n) ((codeOf p f).getD t.pc (0, [])) e1 { t with pc := t.pc + 1 } = r
          intro hd
          cases r with
          | go e2 t2 => exact (runF_ok p B D n e2 t2 f hd.1).trans (Nat.le_trans hd.2.1 hl) (Nat.le_trans hl2 hd.2.2)
          | stop o => exact OutOk.trans hd hl hl2
theorem foldl_set_len : ∀ (l : List (Int × Int)) (r : List Int), (l.foldl (fun r x => r.set x.1.toNat x.2) r).length = r.length
  | [], r => rfl
  | x :: l, r => by rw [List.foldl_cons, foldl_set_len l, List.length_set]
theorem deed_tk {p : List Fn} {f : Fn} (hf : FnF p f) {D : Int} {child : Ev → Tk → Int → Out} (hc : ∀ e t c, EvOk e → OutOk e (child e t c)) {e e2 : Ev} {t t2 : Tk} {i : Int × List Int} (hi : f.2.getD t.pc (0, []) = i) (hs : EvS e)
    (h : TkOk f.2.length e t) (hw : t.wait.length + e.left + 1 ≤ big) (hk : t.kids + e.left + 1 ≤ big) (h17 : i.1 ≠ 17) (hgo : deed p D child i e { t with pc := t.pc + 1 } = .go e2 t2) : TkOk f.2.length e2 t2 := by
  have hd := deed_ok (p := p) (D := D) hc i { t with pc := t.pc + 1 } hs
  rw [hgo] at hd
  obtain ⟨_, hl1, hl2⟩ := hd
  have hop := hf.at_ t.pc h.pc
  have hnx := hf.next t.pc h.pc
  rw [hi] at hop hnx
  have hb : TkOk f.2.length e t → t.pc + 1 < f.2.length → TkOk f.2.length e { t with pc := t.pc + 1 } := fun h hp => ⟨h.regs, h.hands, h.wait, h.wlen, h.kids, hp, h.at0⟩
  have hput : ∀ (tt : Tk) (n v : Int), TkOk f.2.length e tt → TkOk f.2.length e (tt.put n v) := fun tt n v h => ⟨by simp [Tk.put, h.regs], h.hands, h.wait, h.wlen, h.kids, h.pc, h.at0⟩
  have hsync : ∀ tt : Tk, TkOk f.2.length e tt → TkOk f.2.length e tt.sync := fun tt h => ⟨by simp [Tk.sync, foldl_set_len, h.regs], h.hands, by simp [Tk.sync], by have := h.wlen; simp [Tk.sync]; omega, h.kids, h.pc, h.at0⟩
  obtain ⟨o, fs⟩ := i
  change o ≠ 9 → o ≠ 16 → o ≠ 17 → _ at hnx
  cases hop with
  | set ho a k => obtain rfl : o = 1 := ho; injection hgo with g1 g2; subst g1 g2; exact hput _ _ _ (hb h (hnx (by decide) (by decide) (by decide)))
  | move ho a b => obtain rfl : o = 2 := ho; injection hgo with g1 g2; subst g1 g2; exact hput _ _ _ (hb h (hnx (by decide) (by decide) (by decide)))
  | arith ho a b c =>
    have ho' : o = 3 ∨ o = 4 ∨ o = 5 ∨ o = 6 ∨ o = 7 ∨ o = 8 := by have : 3 ≤ o ∧ o ≤ 8 := ho; omega
    have hb1 := hb h (hnx (by show o ≠ 9; omega) (by show o ≠ 16; omega) (by show o ≠ 17; omega))
    rcases ho' with rfl | rfl | rfl | rfl | rfl | rfl
    · injection hgo with g1 g2; subst g1 g2; exact hput _ _ _ hb1
    · injection hgo with g1 g2; subst g1 g2; exact hput _ _ _ hb1
    · injection hgo with g1 g2; subst g1 g2; exact hput _ _ _ hb1
    · change (if _ then _ else _) = _ at hgo
      split at hgo
      · cases hgo
      · injection hgo with g1 g2; subst g1 g2; exact hput _ _ _ hb1
    · injection hgo with g1 g2; subst g1 g2; exact hput _ _ _ hb1
    · injection hgo with g1 g2; subst g1 g2; exact hput _ _ _ hb1
  | jump ho k => obtain rfl : o = 9 := ho; injection hgo with g1 g2; subst g1 g2; exact ⟨h.regs, h.hands, h.wait, h.wlen, h.kids, by show (fd (9, fs) 3).toNat < _; omega, h.at0⟩
  | zero ho a k =>
    obtain rfl : o = 10 := ho
    injection hgo with g1 g2
    subst g1 g2
    split
    · exact ⟨h.regs, h.hands, h.wait, h.wlen, h.kids, by show (fd (10, fs) 3).toNat < _; omega, h.at0⟩
    · exact hb h (hnx (by decide) (by decide) (by decide))
  | spawn ho a b c ar =>
    obtain rfl : o = 11 := ho
    have hb1 := hb h (hnx (by decide) (by decide) (by decide))
    change (if _ then _ else _) = _ at hgo
    split at hgo
    · cases hgo
    · dsimp only at hgo
      split at hgo
      · injection hgo with g1 g2
        subst g1
        rw [if_pos rfl] at g2
        subst g2
        refine ⟨h.regs, h.hands, fun x hx => ?_, ?_, ?_, hb1.pc, Nat.lt_of_lt_of_le h.at0 hl2⟩
        · rcases List.mem_append.1 hx with hx | hx
          · exact h.wait x hx
          · obtain rfl : x = _ := by simpa using hx
            exact a
        · rw [List.length_append]; show t.wait.length + 1 + _ ≤ big; omega
        · show t.kids + 1 + _ ≤ big; omega
      · cases hgo
  | sync ho => obtain rfl : o = 12 := ho; injection hgo with g1 g2; subst g1 g2; exact hsync _ (hb h (hnx (by decide) (by decide) (by decide)))
  | future ho a b c ar =>
    obtain rfl : o = 13 := ho
    have hb1 := hb h (hnx (by decide) (by decide) (by decide))
    change (if _ then _ else _) = _ at hgo
    split at hgo
    · cases hgo
    · dsimp only at hgo
      split at hgo
      · injection hgo with g1 g2
        subst g1
        rw [if_neg (by decide)] at g2
        subst g2
        refine ⟨h.regs, by simp [h.hands], h.wait, ?_, ?_, hb1.pc, Nat.lt_of_lt_of_le h.at0 hl2⟩
        · show t.wait.length + _ ≤ big; omega
        · show t.kids + 1 + _ ≤ big; omega
      · cases hgo
  | touch ho a b =>
    obtain rfl : o = 14 := ho
    change (if _ then _ else _) = _ at hgo
    split at hgo
    · injection hgo with g1 g2; subst g1 g2; exact hput _ _ _ (hb h (hnx (by decide) (by decide) (by decide)))
    · cases hgo
  | emit ho a =>
    obtain rfl : o = 15 := ho
    injection hgo with g1 g2
    subst g1 g2
    have hb1 := hb h (hnx (by decide) (by decide) (by decide))
    exact ⟨hb1.regs, hb1.hands, hb1.wait, hb1.wlen, hb1.kids, hb1.pc, hb1.at0⟩
  | fail ho k => obtain rfl : o = 16 := ho; cases hgo
  | ret ho a => exact absurd ho h17
end Go.Proofs.YtbiajfkencamiaaGreatDoor.EV
end
/-! E2 -/
section
namespace Go.Proofs.YtbiajfkencamiaaGreatDoor.EV
open Go.Proofs.YtbiajfkencamiaaGreatDoor Go.Proofs.YtbiajfkencamiaaGreatDoor.Core Go.RowKit Go.Proofs.YtbiajfkencamiaaGreatDoorW.PrintWords
set_option linter.unusedVariables false
set_option linter.unusedSimpArgs false
/-- What is of no type of a list (what is no row of cells, too) stays as it is. -/
def Kq (ts : List Nat) (w w' : World) : Prop := w.heap.size ≤ w'.heap.size ∧ ∀ (k : Nat) (o : Obj), w.heap[k]? = some o → (∀ c t fr, o = .cells c t fr → t ∉ ts) → w'.heap[k]? = some o
theorem Kq.refl (ts : List Nat) (w : World) : Kq ts w w := ⟨Nat.le_refl _, fun _ _ h _ => h⟩
theorem Kq.trans {ts : List Nat} {w w1 w2 : World} (h : Kq ts w w1) (h' : Kq ts w1 w2) : Kq ts w w2 := ⟨Nat.le_trans h.1 h'.1, fun k o hk ho => h'.2 k o (h.2 k o hk ho) ho⟩
theorem Kq.more {ts ts' : List Nat} {w w1 : World} (h : Kq ts w w1) (hs : ∀ t, t ∈ ts → t ∈ ts') : Kq ts' w w1 := ⟨h.1, fun k o hk ho => h.2 k o hk (fun c t fr e ht => ho c t fr e (hs t ht))⟩
theorem Kq.below {ts : List Nat} {w w' : World} (h : Below w.heap.size w w') : Kq ts w w' := ⟨h.size, fun k o hk _ => (h.block k (Array.getElem?_eq_some_iff.1 hk).1).trans hk⟩
theorem Kq.set {ts : List Nat} {w : World} {b : Nat} {cb : Array Value} {tb : Nat} {fb : Nat × Nat} (hb : w.heap[b]? = some (Obj.cells cb tb fb)) (ht : tb ∈ ts) (j : Nat) (v : Value) : Kq ts w (w.setCell ⟨b, j, none⟩ v) :=
  ⟨Nat.le_of_eq (World.size_setCell _ _ _).symm, fun k o h hn => by
    have hne : k ≠ b := fun e => by
      rw [e, hb] at h
      injection h with h
      exact hn _ _ _ h.symm ht
    rw [Below.heap_setCell w ⟨b, j, none⟩ v k hne]
    exact h⟩
theorem Kq.fresh {ts : List Nat} {w W : World} (h : Kq ts w W) (g : Nat) (hg : w.heap.size ≤ g) (j : Nat) (v : Value) : Kq ts w (W.setCell ⟨g, j, none⟩ v) :=
  ⟨by rw [World.size_setCell]; exact h.1, fun k o hk ht => by
    have hlt := (Array.getElem?_eq_some_iff.1 hk).1
    rw [Below.heap_setCell W ⟨g, j, none⟩ v k (by show k ≠ g; omega)]
    exact h.2 k o hk ht⟩
theorem Kq.get {ts : List Nat} {w w' : World} (h : Kq ts w w') {k : Nat} {c : Array Value} {t : Nat} {fr : Nat × Nat} (hk : w.heap[k]? = some (.cells c t fr)) (ht : t ∉ ts) : w'.heap[k]? = some (.cells c t fr) :=
  h.2 k _ hk (fun _ _ _ e => by injection e with _ e _; exact e ▸ ht)
theorem Kq.own {ts : List Nat} {w w' : World} (h : Kq ts w w') {base e size n : Nat} {v : Value} {xs : List Value} (ho : w.ownsRow base e size v n xs) (ht : e ∉ ts) : w'.ownsRow base e size v n xs :=
  own_move ho (fun k hk => by
    obtain ⟨cells, hc⟩ := own_typed ho k hk
    rw [h.get hc ht, hc])
theorem Kq.row {ts : List Nat} {w w1 : World} {base e size n : Nat} {v : Value} {xs : List Value} (ho : w.ownsRow base e size v n xs) (ht : e ∈ ts) (hs : w.heap.size ≤ w1.heap.size) (hg : w.grownBy w1 v.ownBlock) : Kq ts w w1 :=
  ⟨hs, fun k o hk hn => by
    rw [hg.block k (Array.getElem?_eq_some_iff.1 hk).1 (fun he => ?_)]
    · exact hk
    · obtain ⟨cells, hc⟩ := own_typed ho k he.symm
      rw [hk] at hc
      injection hc with hc
      exact hn _ _ _ hc ht⟩
/-- The log's cells: each entry's steps stand behind its path. -/
def LogOf (xs : List Value) (ls : List Nat) : Prop := xs.length = ls.length * 2 ∧ ∀ (j s : Nat), ls[j]? = some s → xs[j * 2 + 1]? = some (.int .i64 (s : Int))
theorem LogOf.nil : LogOf [] [] := ⟨rfl, fun j s h => by simp at h⟩
theorem LogOf.snoc {xs : List Value} {ls : List Nat} (h : LogOf xs ls) (p : Value) (s : Nat) : LogOf (xs ++ [p, .int .i64 (s : Int)]) (ls ++ [s]) := by
  obtain ⟨h1, h2⟩ := h
  refine ⟨by simp [h1]; omega, fun j s' hj => ?_⟩
  rcases Nat.lt_or_ge j ls.length with hl | hl
  · rw [List.getElem?_append_left hl] at hj
    rw [List.getElem?_append_left (by omega)]
    exact h2 j s' hj
  · rw [List.getElem?_append_right hl] at hj
    have hj0 : j = ls.length := by
      have := (List.getElem?_eq_some_iff.1 hj).1
      simp at this
      omega
    subst hj0
    simp at hj
    subst hj
    rw [List.getElem?_append_right (by omega), h1, show ls.length * 2 + 1 - ls.length * 2 = 1 by omega]
    rfl
theorem LogOf.set {xs : List Value} {ls : List Nat} (h : LogOf xs ls) (j s : Nat) : LogOf (xs.set (j * 2 + 1) (.int .i64 (s : Int))) (ls.set j s) := by
  obtain ⟨h1, h2⟩ := h
  refine ⟨by simp [h1], fun k s' hk => ?_⟩
  by_cases he : j = k
  · subst he
    have hlt : j < ls.length := by
      have := (List.getElem?_eq_some_iff.1 hk).1
      simpa using this
    rw [List.getElem?_set_self hlt] at hk
    injection hk with hk
    rw [← hk]
    exact List.getElem?_set_self (by omega)
  · rw [List.getElem?_set_ne he] at hk
    rw [List.getElem?_set_ne (by omega)]
    exact h2 k s' hk
/-- The evaluation in memory. -/
structure EvR (base gw : Nat) (pv : Value) (B D : Int) (W : World) (e : Ev) : Prop where
  hb : base ≤ gw
  ex : ∃ tv lv lx, W.heap[gw]? = some (.cells #[pv, .int .i64 B, .int .i64 D, .int .i64 (e.left : Int), .int .i64 0, .int .i64 0, tv, lv] 142 (0, 0)) ∧ W.ownsRow base 2 1 tv e.told.length (e.told.map (.int .i64)) ∧ W.ownsRow base 229 2 lv e.log.length lx ∧ LogOf lx e.log
theorem EvR.keep {base gw : Nat} {pv : Value} {B D : Int} {W W' : World} {e : Ev} (h : EvR base gw pv B D W e) {ts : List Nat} (hk : Kq ts W W') (h1 : 142 ∉ ts) (h2 : 2 ∉ ts) (h3 : 229 ∉ ts) : EvR base gw pv B D W' e := by
  obtain ⟨hb, tv, lv, lx, q1, q2, q3, q4⟩ := h
  exact ⟨hb, tv, lv, lx, hk.get q1 h1, hk.own q2 h2, hk.own q3 h3, q4⟩
theorem EvR.below {base gw : Nat} {pv : Value} {B D : Int} {W W' : World} {e : Ev} (h : EvR base gw pv B D W e) (hb : Below W.heap.size W W') : EvR base gw pv B D W' e := h.keep (Kq.below (ts := []) hb) (by simp) (by simp) (by simp)
/-- A path: a row of so many numbers. -/
def PathR (W : World) (v : Value) (n : Nat) : Prop := ∃ ps : List Int, W.ownsRow 0 3 1 v n (nums .i64 ps)
abbrev waitC (l : List (Int × Int)) : List Value := l.flatMap (fun x => [.int .i64 x.1, .int .i64 x.2])
abbrev handC (l : List (Bool × Int)) : List Value := l.flatMap (fun h => [.bool h.1, .int .i64 h.2])
def tkC (gw : Nat) (pv wv : Value) (t : Tk) : List Value := [.pointer (some ⟨gw, 0, none⟩), pv] ++ (t.regs.map (.int .i64) ++ (handC t.hands ++ [wv, .int .i64 (t.kids : Int), .int .i64 (t.pc : Int), .int .i64 (t.at0 : Int)]))
theorem hand_len : ∀ l : List (Bool × Int), (handC l).length = l.length * 2
  | [] => rfl
  | x :: l => by simp only [handC, List.flatMap_cons, List.length_append, List.length_cons, List.length_nil]; have := hand_len l; simp only [handC] at this; omega
theorem hand_get : ∀ (l : List (Bool × Int)) (j : Nat), j < l.length → (handC l)[j * 2]? = some (.bool (l.getD j (false, 0)).1) ∧ (handC l)[j * 2 + 1]? = some (.int .i64 (l.getD j (false, 0)).2)
  | [], j, h => by simp at h
  | x :: l, 0, h => ⟨rfl, rfl⟩
  | x :: l, j + 1, h => by
    have := hand_get l j (by simpa using h)
    have e1 : (handC (x :: l))[(j + 1) * 2]? = (handC l)[j * 2]? := by
      rw [show (j + 1) * 2 = j * 2 + 1 + 1 by omega]; rfl
    have e2 : (handC (x :: l))[(j + 1) * 2 + 1]? = (handC l)[j * 2 + 1]? := by
      rw [show (j + 1) * 2 + 1 = j * 2 + 1 + 1 + 1 by omega]; rfl
    rw [e1, e2]
    exact this
theorem hand_set : ∀ (l : List (Bool × Int)) (j : Nat) (v : Int), j < l.length → ((handC l).set (j * 2) (.bool true)).set (j * 2 + 1) (.int .i64 v) = handC (l.set j (true, v))
  | [], j, v, h => by simp at h
  | x :: l, 0, v, h => rfl
  | x :: l, j + 1, v, h => by
    have := hand_set l j v (by simpa using h)
    rw [show (j + 1) * 2 = j * 2 + 1 + 1 by omega]
    show Value.bool x.1 :: Value.int .i64 x.2 :: (((handC l).set (j * 2) _).set (j * 2 + 1) _) = Value.bool x.1 :: Value.int .i64 x.2 :: handC (l.set j (true, v))
    rw [this]
/-- A task in memory; what waits is its own. -/
structure TkR (b0 gt gw : Nat) (W : World) (t : Tk) : Prop where
  hb : b0 ≤ gt
  regs : t.regs.length = 8
  hands : t.hands.length = 4
  ex : ∃ pv wv, W.heap[gt]? = some (.cells (tkC gw pv wv t).toArray 227 (0, 0)) ∧ PathR W pv t.dep ∧ W.ownsRow b0 355 2 wv t.wait.length (waitC t.wait)
theorem l4_get {P R H T : List Value} (hP : P.length = 2) (hR : R.length = 8) (hH : H.length = 8) (j : Nat) :
    (j < 8 → (P ++ (R ++ (H ++ T)))[2 + j]? = R[j]?) ∧ (j < 8 → (P ++ (R ++ (H ++ T)))[10 + j]? = H[j]?) ∧ (P ++ (R ++ (H ++ T)))[18 + j]? = T[j]? := by
  refine ⟨fun h => ?_, fun h => ?_, ?_⟩
  · rw [List.getElem?_append_right (by omega), List.getElem?_append_left (by omega), hP, show 2 + j - 2 = j by omega]
  · rw [List.getElem?_append_right (by omega), List.getElem?_append_right (by omega), List.getElem?_append_left (by omega), hP, hR, show 10 + j - 2 - 8 = j by omega]
  · rw [List.getElem?_append_right (by omega), List.getElem?_append_right (by omega), List.getElem?_append_right (by omega), hP, hR, hH, show 18 + j - 2 - 8 - 8 = j by omega]
theorem l4_set {P R H T : List Value} (hP : P.length = 2) (hR : R.length = 8) (hH : H.length = 8) (j : Nat) (v : Value) :
    (j < 8 → (P ++ (R ++ (H ++ T))).set (2 + j) v = P ++ (R.set j v ++ (H ++ T))) ∧ (j < 8 → (P ++ (R ++ (H ++ T))).set (10 + j) v = P ++ (R ++ (H.set j v ++ T))) ∧ (P ++ (R ++ (H ++ T))).set (18 + j) v = P ++ (R ++ (H ++ T.set j v)) := by
  refine ⟨fun h => ?_, fun h => ?_, ?_⟩
  · rw [List.set_append_right _ _ (by omega), List.set_append_left _ _ (by omega), hP, show 2 + j - 2 = j by omega]
  · rw [List.set_append_right _ _ (by omega), List.set_append_right _ _ (by omega), List.set_append_left _ _ (by omega), hP, hR, show 10 + j - 2 - 8 = j by omega]
  · rw [List.set_append_right _ _ (by omega), List.set_append_right _ _ (by omega), List.set_append_right _ _ (by omega), hP, hR, hH, show 18 + j - 2 - 8 - 8 = j by omega]
theorem reg_len {l : List Int} (h : l.length = 8) : (l.map (Value.int .i64)).length = 8 := by rw [List.length_map, h]
theorem hnd_len {l : List (Bool × Int)} (h : l.length = 4) : (handC l).length = 8 := by rw [hand_len, h]
theorem tk_reg {gw : Nat} {pv wv : Value} {t : Tk} (h : t.regs.length = 8) (h4 : t.hands.length = 4) (a : Nat) (ha : a < 8) : (tkC gw pv wv t)[2 + a]? = some (.int .i64 (t.regs.getD a 0)) := by
  unfold tkC
  rw [(l4_get rfl (reg_len h) (hnd_len h4) a).1 ha, List.getElem?_map, List.getD_eq_getElem?_getD, List.getElem?_eq_getElem (by omega)]
  rfl
theorem tk_hand {gw : Nat} {pv wv : Value} {t : Tk} (h : t.regs.length = 8) (h4 : t.hands.length = 4) (a : Nat) (ha : a < 4) :
    (tkC gw pv wv t)[10 + a * 2]? = some (.bool (t.hands.getD a (false, 0)).1) ∧ (tkC gw pv wv t)[10 + a * 2 + 1]? = some (.int .i64 (t.hands.getD a (false, 0)).2) := by
  unfold tkC
  have hg := hand_get t.hands a (by omega)
  rw [(l4_get rfl (reg_len h) (hnd_len h4) (a * 2)).2.1 (by omega), show 10 + a * 2 + 1 = 10 + (a * 2 + 1) by omega, (l4_get rfl (reg_len h) (hnd_len h4) (a * 2 + 1)).2.1 (by omega)]
  exact hg
theorem tk_tail {gw : Nat} {pv wv : Value} {t : Tk} (h : t.regs.length = 8) (h4 : t.hands.length = 4) (j : Nat) : (tkC gw pv wv t)[18 + j]? = ([wv, .int .i64 (t.kids : Int), .int .i64 (t.pc : Int), .int .i64 (t.at0 : Int)] : List Value)[j]? :=
  (l4_get rfl (reg_len h) (hnd_len h4) j).2.2
theorem tk_put {gw : Nat} {pv wv : Value} {t : Tk} (h : t.regs.length = 8) (h4 : t.hands.length = 4) (a : Nat) (ha : a < 8) (v : Int) : (tkC gw pv wv t).set (2 + a) (.int .i64 v) = tkC gw pv wv { t with regs := t.regs.set a v } := by
  unfold tkC
  rw [(l4_set rfl (reg_len h) (hnd_len h4) a _).1 ha, List.map_set]
theorem tk_hput {gw : Nat} {pv wv : Value} {t : Tk} (h : t.regs.length = 8) (h4 : t.hands.length = 4) (a : Nat) (ha : a < 4) (v : Int) :
    ((tkC gw pv wv t).set (10 + a * 2) (.bool true)).set (10 + a * 2 + 1) (.int .i64 v) = tkC gw pv wv { t with hands := t.hands.set a (true, v) } := by
  unfold tkC
  rw [(l4_set rfl (reg_len h) (hnd_len h4) (a * 2) _).2.1 (by omega), show 10 + a * 2 + 1 = 10 + (a * 2 + 1) by omega,
    (l4_set rfl (reg_len h) (by rw [List.length_set]; exact hnd_len h4) (a * 2 + 1) _).2.1 (by omega), hand_set t.hands a v (by omega)]
theorem tk_tput {gw : Nat} {pv wv : Value} {t : Tk} (h : t.regs.length = 8) (h4 : t.hands.length = 4) (j : Nat) (v : Value) : (tkC gw pv wv t).set (18 + j) v = [.pointer (some ⟨gw, 0, none⟩), pv] ++ (t.regs.map (.int .i64) ++ (handC t.hands ++ ([wv, .int .i64 (t.kids : Int), .int .i64 (t.pc : Int), .int .i64 (t.at0 : Int)] : List Value).set j v)) :=
  (l4_set rfl (reg_len h) (hnd_len h4) j v).2.2
/-- A task's block alone is turned, and new memory made. -/
structure Upd (gt : Nat) (w w' : World) : Prop where
  size : w.heap.size ≤ w'.heap.size
  same : ∀ k, k < w.heap.size → k ≠ gt → w'.heap[k]? = w.heap[k]?
  low : ∀ B, B ≤ gt → B ≤ w.heap.size → Below B w w'
theorem Upd.set {gt : Nat} {w W : World} (h : Upd gt w W) (j : Nat) (v : Value) : Upd gt w (W.setCell ⟨gt, j, none⟩ v) :=
  ⟨by rw [World.size_setCell]; exact h.size, fun k hk hn => (Below.heap_setCell W ⟨gt, j, none⟩ v k hn).trans (h.same k hk hn), fun B h1 h2 => (h.low B h1 h2).setCell (p := ⟨gt, j, none⟩) h1 v⟩
theorem Upd.below {gt : Nat} {w W : World} (h : Below w.heap.size w W) : Upd gt w W := ⟨h.size, fun k hk _ => h.block k hk, fun B _ h2 => h.mono h2⟩
theorem Upd.trans {gt : Nat} {w w1 w2 : World} (h : Upd gt w w1) (h' : Upd gt w1 w2) : Upd gt w w2 := ⟨Nat.le_trans h.size h'.size, fun k hk hn => (h'.same k (Nat.lt_of_lt_of_le hk h.size) hn).trans (h.same k hk hn), fun B h1 h2 => (h.low B h1 h2).trans (h'.low B h1 (Nat.le_trans h2 h.size))⟩
theorem Upd.kq {gt : Nat} {w w' : World} (h : Upd gt w w') {c : Array Value} {t : Nat} {fr : Nat × Nat} (hb : w.heap[gt]? = some (.cells c t fr)) : Kq [t] w w' :=
  ⟨h.size, fun k o hk hn => by
    rw [h.same k (Array.getElem?_eq_some_iff.1 hk).1 (fun e => ?_)]
    · exact hk
    · rw [e, hb] at hk
      injection hk with hk
      exact hn _ _ _ hk.symm (by simp)⟩
end Go.Proofs.YtbiajfkencamiaaGreatDoor.EV
end
