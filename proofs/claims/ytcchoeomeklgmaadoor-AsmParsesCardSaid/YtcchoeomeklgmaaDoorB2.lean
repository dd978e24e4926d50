/- The document's numbers are those of plain lists. -/
import Derived.Test.YtcchoeomeklgmaaDoorB1
import Derived.Test.YtcchoeomeklgmaaDoorAA
namespace Go.Proofs.YtcchoeomeklgmaaDoor.Core
open Go.RowKit Go.Proofs.YtcchoeomeklgmaaDoorW.PrintWords Go.Proofs.YtcchoeomeklgmaaDoorW.PrintMore Go.Proofs.YtcchoeomeklgmaaDoor.P2 Go.Proofs.YtcchoeomeklgmaaDoor
set_option linter.unusedVariables false
set_option linter.unusedSimpArgs false
theorem isDig_iff (c : UInt8) : isDig c = true ↔ 48 ≤ c.toNat ∧ c.toNat ≤ 57 := by
  unfold isDig
  simp only [Bool.and_eq_true, decide_eq_true_eq]
theorem val_take (t : List UInt8) (i : Nat) (h : i < t.length) : val 0 (t.take (i + 1)) = val 0 (t.take i) * 10 + (t[i].toNat - 48) := by
  rw [List.take_succ_eq_append_getElem h]
  unfold val
  rw [List.foldl_append]
  rfl
theorem dig_step (V C : Nat) (hV : V < 100000000000) (h1 : 48 ≤ C) (h2 : C ≤ 57) : wrap64 (wrap64 (10 * (V : Int)) + (((C : Int) - 48) % 256)) = ((V * 10 + (C - 48) : Nat) : Int) := by
  have e1 : wrap64 (10 * (V : Int)) = 10 * (V : Int) := by unfold wrap64; omega
  have e2 : ((C : Int) - 48) % 256 = (C : Int) - 48 := by omega
  rw [e1, e2]
  have e3 : wrap64 (10 * (V : Int) + ((C : Int) - 48)) = 10 * (V : Int) + ((C : Int) - 48) := by unfold wrap64; omega
  rw [e3]
  omega
/-- The loop over digits. -/
theorem number_go (t : List UInt8) (ht : t.length ≤ 10) (neg : Bool) : ∀ (d i : Nat), t.length - i = d → i ≤ t.length → (t.take i).all isDig = true →
    Ev (fun k => haymowref04_number.l0 k (bx t) neg (val 0 (t.take i) : Nat) i) (if t.all isDig = true then ((if neg = true then -((val 0 t : Nat) : Int) else ((val 0 t : Nat) : Int)), true) else (0, false)) := by
  intro d
  induction d with
  | zero =>
    intro i h1 h2 h3
    have hi : i = t.length := by omega
    subst hi
    rw [List.take_length] at h3 ⊢
    rw [if_pos h3]
    have hv := val_le t 0 h3
    rw [Nat.zero_add, Nat.one_mul] at hv
    have hp : 10 ^ t.length ≤ 10 ^ 10 := Nat.pow_le_pow_right (by omega) ht
    have h10 : (10 : Nat) ^ 10 = 10000000000 := by rfl
    have hw : wrap64 (-((val 0 t : Nat) : Int)) = -((val 0 t : Nat) : Int) := by unfold wrap64; omega
    cases neg with
    | true => exact Ev.step (f := fun _ => some (-((val 0 t : Nat) : Int), true)) (fun k => by rw [haymowref04_number.l0, if_neg (by rw [bx_size]; omega), if_pos rfl, hw]) (Ev.now _)
    | false => exact Ev.step (f := fun _ => some (((val 0 t : Nat) : Int), true)) (fun k => by rw [haymowref04_number.l0, if_neg (by rw [bx_size]; omega), if_neg (by simp)]) (Ev.now _)
  | succ d ih =>
    intro i h1 h2 h3
    have hlt : i < t.length := by omega
    have hsz : (i : Int) < ((bx t).size : Int) := by rw [bx_size]; omega
    have h0i : (0 : Int) ≤ (i : Int) := by omega
    have hwi : wrap64 ((i : Int) + 1) = ((i + 1 : Nat) : Int) := by unfold wrap64; omega
    have hi1 : t.length - (i + 1) = d := by omega
    have hi2 : i + 1 ≤ t.length := by omega
    have hle : (t.take i).length = i := by rw [List.length_take]; omega
    have hi10 : i ≤ 10 := by omega
    have hdg : ∀ c : UInt8, 48 ≤ c.toNat → c.toNat ≤ 57 → ¬ ((c.toNat : Int) < 48) ∧ ¬ ((c.toNat : Int) > 57) := fun c h1 h2 => by omega
    have hdn : ∀ c : UInt8, ¬ (48 ≤ c.toNat ∧ c.toNat ≤ 57) → ¬ ((c.toNat : Int) < 48) → (c.toNat : Int) > 57 := fun c h1 h2 => by omega
    have hb := bt_bx t i hlt
    obtain ⟨c, hc⟩ : ∃ c, t[i] = c := ⟨_, rfl⟩
    rw [hc] at hb
    have hmem : c ∈ t := by rw [← hc]; exact List.getElem_mem hlt
    by_cases hd : isDig c = true
    · have h3' : (t.take (i + 1)).all isDig = true := by
        rw [List.take_succ_eq_append_getElem hlt, List.all_append, h3, hc]
        simp [hd]
      obtain ⟨hd1, hd2⟩ := (isDig_iff c).1 hd
      have hv := val_le (t.take i) 0 h3
      rw [Nat.zero_add, Nat.one_mul] at hv
      rw [hle] at hv
      have hp : 10 ^ i ≤ 10 ^ 10 := Nat.pow_le_pow_right (by decide) hi10
      have hvt := val_take t i hlt
      rw [hc] at hvt
      have hV : val 0 (t.take i) < 100000000000 := Nat.lt_of_lt_of_le hv (Nat.le_trans hp (by decide))
      have hn : wrap64 (wrap64 (10 * ((val 0 (t.take i) : Nat) : Int)) + (((c.toNat : Int) - 48) % 256)) = ((val 0 (t.take (i + 1)) : Nat) : Int) := by
        rw [hvt]
        exact dig_step (val 0 (t.take i)) c.toNat hV hd1 hd2
      refine Ev.step (f := fun k => haymowref04_number.l0 k (bx t) neg (val 0 (t.take (i + 1)) : Nat) ((i + 1 : Nat) : Int)) (fun k => by
        rw [haymowref04_number.l0, if_pos hsz, if_pos h0i, hb, if_neg (hdg c hd1 hd2).1, if_neg (hdg c hd1 hd2).2, hn, hwi]) ?_
      exact ih (i + 1) hi1 hi2 h3'
    · have hall : ¬ t.all isDig = true := fun h => hd (List.all_eq_true.1 h c hmem)
      rw [if_neg hall]
      have hnd : ¬ (48 ≤ c.toNat ∧ c.toNat ≤ 57) := fun h => hd ((isDig_iff c).2 h)
      refine Ev.step (f := fun _ => some (0, false)) (fun k => ?_) (Ev.now _)
      rw [haymowref04_number.l0, if_pos hsz, if_pos h0i, hb]
      by_cases h48 : (c.toNat : Int) < 48
      · rw [if_pos h48]
      · rw [if_neg h48, if_pos (hdn c hnd h48)]
/-- Is it a number's form? -/
def wrongN (t : List UInt8) (neg : Bool) : Bool := t.isEmpty || decide (10 < t.length) || (t.head? == some 48 && (decide (1 < t.length) || neg))
theorem number_j1 (t : List UInt8) (neg : Bool) : Ev (fun k => haymowref04_number.j1 k (bx t) neg) (if wrongN t neg = true then (0, false) else if t.all isDig = true then ((if neg = true then -((val 0 t : Nat) : Int) else ((val 0 t : Nat) : Int)), true) else (0, false)) := by
  have j2t : Ev (fun k => haymowref04_number.j2 k (bx t) neg true) (0, false) := Ev.step (f := fun _ => some (0, false)) (fun k => by rw [haymowref04_number.j2, if_pos rfl]) (Ev.now _)
  cases t with
  | nil =>
    rw [if_pos (by simp [wrongN])]
    exact Ev.step (f := fun k => haymowref04_number.j2 k (bx []) neg true) (fun k => by rw [haymowref04_number.j1, if_pos (by rw [bx_size]; rfl)]) j2t
  | cons c r =>
    have hb : bt (bx (c :: r)) 0 = (c.toNat : Int) := bt_bx (c :: r) 0 (by simp)
    by_cases h10 : 10 < (c :: r).length
    · rw [if_pos (by simp [wrongN] at h10 ⊢; omega)]
      exact Ev.step (f := fun k => haymowref04_number.j2 k (bx (c :: r)) neg true) (fun k => by rw [haymowref04_number.j1, if_neg (by rw [bx_size]; simp only [List.length_cons]; omega), if_pos (by rw [bx_size]; omega)]) j2t
    · have hgo : Ev (fun k => haymowref04_number.j2 k (bx (c :: r)) neg false) (if (c :: r).all isDig = true then ((if neg = true then -((val 0 (c :: r) : Nat) : Int) else ((val 0 (c :: r) : Nat) : Int)), true) else (0, false)) :=
        Ev.step (f := fun k => haymowref04_number.l0 k (bx (c :: r)) neg 0 0) (fun k => by rw [haymowref04_number.j2, if_neg (by simp)]) (number_go (c :: r) (by omega) neg _ 0 rfl (Nat.zero_le _) rfl)
      by_cases h48 : c = 48
      · subst h48
        have hb48 : bt (bx (48 :: r)) 0 = 48 := hb
        by_cases h1 : 1 < (48 :: r).length
        · rw [if_pos (by simp [wrongN] at h1 ⊢; omega)]
          exact Ev.step (f := fun k => haymowref04_number.j2 k (bx (48 :: r)) neg true) (fun k => by rw [haymowref04_number.j1, if_neg (by rw [bx_size]; simp only [List.length_cons]; omega), if_neg (by rw [bx_size]; omega), if_pos (by rw [bx_size]; simp only [List.length_cons]; omega), if_pos hb48, if_pos (by rw [bx_size]; omega)]) j2t
        · have hst : ∀ k, haymowref04_number.j1 (k + 1) (bx (48 :: r)) neg = haymowref04_number.j2 k (bx (48 :: r)) neg neg := fun k => by
            rw [haymowref04_number.j1, if_neg (by rw [bx_size]; simp only [List.length_cons]; omega), if_neg (by rw [bx_size]; omega), if_pos (by rw [bx_size]; simp only [List.length_cons]; omega), if_pos hb48, if_neg (by rw [bx_size]; omega)]
          cases neg with
          | true => rw [if_pos (by simp [wrongN])]; exact Ev.step hst j2t
          | false => rw [if_neg (by simp [wrongN] at h1 h10 ⊢; simp [h1])]; exact Ev.step hst hgo
      · have hn48 : ¬ (c.toNat : Int) = 48 := fun h => h48 (UInt8.toNat_inj.1 (by show _ = 48; omega))
        rw [if_neg (by simp [wrongN, h48] at h10 ⊢; omega)]
        refine Ev.step (f := fun k => haymowref04_number.j2 k (bx (c :: r)) neg false) (fun k => by rw [haymowref04_number.j1, if_neg (by rw [bx_size]; simp only [List.length_cons]; omega), if_neg (by rw [bx_size]; omega), if_pos (by rw [bx_size]; simp only [List.length_cons]; omega), hb, if_neg hn48]) hgo
/-- What the number's loop answers. -/
def resN (t : List UInt8) (neg : Bool) : Int × Bool := if wrongN t neg = true then (0, false) else if t.all isDig = true then ((if neg = true then -((val 0 t : Nat) : Int) else ((val 0 t : Nat) : Int)), true) else (0, false)
theorem wrongN_iff (t : List UInt8) (neg : Bool) : wrongN t neg = true ↔ t = [] ∨ 10 < t.length ∨ (t.head? = some 48 ∧ (1 < t.length ∨ neg = true)) := by
  unfold wrongN
  simp only [Bool.or_eq_true, Bool.and_eq_true, decide_eq_true_eq, List.isEmpty_iff, beq_iff_eq, or_assoc]
theorem val_ge : ∀ (l : List UInt8) (acc : Nat), acc ≤ val acc l
  | [], acc => Nat.le_refl _
  | c :: r, acc => by
    have := val_ge r (acc * 10 + (c.toNat - 48))
    have e : val acc (c :: r) = val (acc * 10 + (c.toNat - 48)) r := rfl
    rw [e]
    omega
theorem resN_plain (t : List UInt8) : (resN t false).2 = (plainL t).isSome ∧ ∀ v, plainL t = some v → (resN t false).1 = v := by
  unfold resN
  by_cases hw : wrongN t false = true
  · rw [if_pos hw]
    have hp : plainL t = none := by
      unfold plainL
      rw [if_neg]
      intro hp
      obtain ⟨a, b, c, d⟩ := (plainM_iff 10 t).1 hp
      rcases (wrongN_iff t false).1 hw with h | h | ⟨h1, h2⟩
      · exact a h
      · omega
      · rcases d with d | d
        · rw [d] at h2; simp at h2
        · exact d h1
    rw [hp]
    exact ⟨rfl, fun v h => by cases h⟩
  · rw [if_neg hw]
    have hn : ¬ (t = [] ∨ 10 < t.length ∨ (t.head? = some 48 ∧ (1 < t.length ∨ false = true))) := fun h => hw ((wrongN_iff t false).2 h)
    by_cases ha : t.all isDig = true
    · have hp : plainL t = some ((val 0 t : Nat) : Int) := by
        unfold plainL
        rw [if_pos]
        refine (plainM_iff 10 t).2 ⟨fun h => hn (.inl h), by
          by_cases h : t.length ≤ 10
          · exact h
          · exact absurd (.inr (.inl (by omega))) hn, ha, ?_⟩
        by_cases h48 : t.head? = some 48
        · left
          have h1 : ¬ 1 < t.length := fun h => hn (.inr (.inr ⟨h48, .inl h⟩))
          match t, h48, h1 with
          | [c], h48, _ => simp at h48; rw [h48]
          | c :: d :: r, _, h1 => simp at h1
        · exact .inr h48
      rw [if_pos ha, hp, if_neg (by simp)]
      exact ⟨rfl, fun v h => by injection h⟩
    · rw [if_neg ha]
      have hp : plainL t = none := by
        unfold plainL
        rw [if_neg]
        intro hp
        exact ha ((plainM_iff 10 t).1 hp).2.2.1
      rw [hp]
      exact ⟨rfl, fun v h => by cases h⟩
/-- A number, perhaps with a sign. -/
def numS (t : List UInt8) : Option Int := match t with
  | 45 :: r => (plainL r).bind fun n => if 0 < n then some (-n) else none
  | t => plainL t
theorem resN_neg (t : List UInt8) : (resN t true).2 = ((plainL t).bind fun n => if 0 < n then some (-n) else none).isSome ∧ ∀ v, ((plainL t).bind fun n => if 0 < n then some (-n) else none) = some v → (resN t true).1 = v := by
  unfold resN
  by_cases hw : wrongN t true = true
  · rw [if_pos hw]
    have hp : ((plainL t).bind fun n => if 0 < n then some (-n) else none) = none := by
      unfold plainL
      by_cases hp : plainB 10 t = true
      · rw [if_pos hp]
        obtain ⟨a, b, c, d⟩ := (plainM_iff 10 t).1 hp
        rcases (wrongN_iff t true).1 hw with h | h | ⟨h1, h2⟩
        · exact absurd h a
        · omega
        · rcases d with d | d
          · rw [d]; rfl
          · exact absurd h1 d
      · rw [if_neg hp]; rfl
    rw [hp]
    exact ⟨rfl, fun v h => by cases h⟩
  · rw [if_neg hw]
    have hn : ¬ (t = [] ∨ 10 < t.length ∨ (t.head? = some 48 ∧ (1 < t.length ∨ true = true))) := fun h => hw ((wrongN_iff t true).2 h)
    have h48 : t.head? ≠ some 48 := fun h => hn (.inr (.inr ⟨h, .inr rfl⟩))
    have h10 : t.length ≤ 10 := by
      by_cases h : t.length ≤ 10
      · exact h
      · exact absurd (.inr (.inl (by omega))) hn
    by_cases ha : t.all isDig = true
    · have hp : plainL t = some ((val 0 t : Nat) : Int) := by
        unfold plainL
        rw [if_pos]
        exact (plainM_iff 10 t).2 ⟨fun h => hn (.inl h), h10, ha, .inr h48⟩
      have hpos : 0 < ((val 0 t : Nat) : Int) := by
        cases t with
        | nil => exact absurd (.inl rfl) hn
        | cons c r =>
          have hc : isDig c = true := by
            rw [List.all_cons, Bool.and_eq_true] at ha
            exact ha.1
          obtain ⟨h1, h2⟩ := (isDig_iff c).1 hc
          have h3 : c.toNat ≠ 48 := fun h => h48 (by rw [List.head?_cons, show c = 48 from UInt8.toNat_inj.1 (by exact h)])
          have h4 := val_ge r (0 * 10 + (c.toNat - 48))
          have e : val 0 (c :: r) = val (0 * 10 + (c.toNat - 48)) r := rfl
          rw [e]
          omega
      rw [if_pos ha, hp, if_pos rfl, Option.bind_some, if_pos hpos]
      exact ⟨rfl, fun v h => by injection h⟩
    · rw [if_neg ha]
      have hp : plainL t = none := by
        unfold plainL
        rw [if_neg]
        intro hp
        exact ha ((plainM_iff 10 t).1 hp).2.2.1
      rw [hp]
      exact ⟨rfl, fun v h => by cases h⟩
/-- The document's number, without a sign. -/
theorem number_plain (t : List UInt8) : ∃ k r, haymowref04_number.f k (bx t) false = some (r, (plainL t).isSome) ∧ ∀ v, plainL t = some v → r = v := by
  have h : Ev (fun k => haymowref04_number.f k (bx t) false) (resN t false) :=
    Ev.congr (f := fun k => haymowref04_number.j0 k (bx t) false) (fun k => by rw [haymowref04_number.f, if_neg (by simp)]) (Ev.step (f := fun k => haymowref04_number.j1 k (bx t) false) (fun k => by rw [haymowref04_number.j0, if_neg (by simp)]) (number_j1 t false))
  obtain ⟨k, hk⟩ := h.rounds
  obtain ⟨h1, h2⟩ := resN_plain t
  exact ⟨k, (resN t false).1, by rw [hk, ← h1], h2⟩
/-- The document's number, perhaps with a sign. -/
theorem number_signed (t : List UInt8) : ∃ k r, haymowref04_number.f k (bx t) true = some (r, (numS t).isSome) ∧ ∀ v, numS t = some v → r = v := by
  cases t with
  | nil =>
    have h : Ev (fun k => haymowref04_number.f k (bx []) true) (resN [] false) :=
      Ev.congr (f := fun k => haymowref04_number.j0 k (bx []) false) (fun k => by rw [haymowref04_number.f, if_pos rfl, if_neg (by rw [bx_size]; simp)]) (Ev.step (f := fun k => haymowref04_number.j1 k (bx []) false) (fun k => by rw [haymowref04_number.j0, if_neg (by simp)]) (number_j1 [] false))
    obtain ⟨k, hk⟩ := h.rounds
    obtain ⟨h1, h2⟩ := resN_plain []
    exact ⟨k, (resN [] false).1, by rw [hk, show numS [] = plainL [] from rfl, ← h1], h2⟩
  | cons c r =>
    have hb : bt (bx (c :: r)) 0 = (c.toNat : Int) := bt_bx (c :: r) 0 (by simp)
    have hsz : (0 : Int) < ((bx (c :: r)).size : Int) := by rw [bx_size]; simp only [List.length_cons]; omega
    have hsz1 : (1 : Int) ≤ ((bx (c :: r)).size : Int) := by omega
    by_cases h45 : c = 45
    · subst h45
      have hbe : (bt (bx (45 :: r)) 0 == 45) = true := by rw [hb]; rfl
      have hx : (bx (45 :: r)).extract 1 (bx (45 :: r)).size = bx r := by
        rw [Lib.extract_from]
        simp [bx]
      have h : Ev (fun k => haymowref04_number.f k (bx (45 :: r)) true) (resN r true) :=
        Ev.congr (f := fun k => haymowref04_number.j0 k (bx (45 :: r)) true) (fun k => by rw [haymowref04_number.f, if_pos rfl, if_pos hsz, if_pos hsz, hbe]) (Ev.step (f := fun k => haymowref04_number.j1 k (bx r) true) (fun k => by rw [haymowref04_number.j0, if_pos rfl, if_pos hsz1, hx]) (number_j1 r true))
      obtain ⟨k, hk⟩ := h.rounds
      obtain ⟨h1, h2⟩ := resN_neg r
      exact ⟨k, (resN r true).1, by rw [hk, show numS (45 :: r) = (plainL r).bind (fun n => if 0 < n then some (-n) else none) from rfl, ← h1], h2⟩
    · have hne : (c.toNat : Int) ≠ 45 := fun h => h45 (UInt8.toNat_inj.1 (by show _ = 45; omega))
      have hbe : (bt (bx (c :: r)) 0 == 45) = false := by rw [hb, beq_eq_false_iff_ne]; exact hne
      have h : Ev (fun k => haymowref04_number.f k (bx (c :: r)) true) (resN (c :: r) false) :=
        Ev.congr (f := fun k => haymowref04_number.j0 k (bx (c :: r)) false) (fun k => by rw [haymowref04_number.f, if_pos rfl, if_pos hsz, if_pos hsz, hbe]) (Ev.step (f := fun k => haymowref04_number.j1 k (bx (c :: r)) false) (fun k => by rw [haymowref04_number.j0, if_neg (by simp)]) (number_j1 (c :: r) false))
      obtain ⟨k, hk⟩ := h.rounds
      obtain ⟨h1, h2⟩ := resN_plain (c :: r)
      have hn : numS (c :: r) = plainL (c :: r) := by
        unfold numS
        split
        · rename_i r2 heq
          injection heq with heq
          exact absurd heq h45
        · rfl
      exact ⟨k, (resN (c :: r) false).1, by rw [hk, hn, ← h1], by rw [hn]; exact h2⟩
theorem signedL_numS (t : List UInt8) : signedL t = (numS t).bind fun v => if -2147483648 ≤ v ∧ v ≤ 2147483647 then some v else none := by
  cases t with
  | nil => rfl
  | cons c r =>
    unfold signedL
    by_cases h45 : c = 45
    · subst h45
      have hp : Lib.hasPrefix (45 :: r) [45] = true := by simp [Lib.hasPrefix]
      have htp : Lib.trimPrefix (45 :: r) [45] = r := by unfold Lib.trimPrefix; rw [if_pos hp]; rfl
      rw [htp, hp, show numS (45 :: r) = (plainL r).bind (fun n => if 0 < n then some (-n) else none) from rfl]
      cases h : plainL r with
      | none => rfl
      | some n =>
        simp only [Option.bind_some, if_true]
        by_cases h0 : 0 < n
        · rw [if_pos h0, Option.bind_some]
          by_cases h1 : n ≤ 2147483648
          · rw [if_pos ⟨h0, h1⟩, if_pos (by omega)]
          · rw [if_neg (fun h => h1 h.2), if_neg (by omega)]
        · rw [if_neg (fun h => h0 h.1), if_neg h0]; rfl
    · have hp : Lib.hasPrefix (c :: r) [45] = false := by
        cases hb : Lib.hasPrefix (c :: r) [45] with
        | false => rfl
        | true =>
          have h2 : ([45] : List UInt8).isPrefixOf (c :: r) = true := hb
          simp only [List.isPrefixOf, Bool.and_true, beq_iff_eq] at h2
          exact absurd h2.symm h45
      have htp : Lib.trimPrefix (c :: r) [45] = c :: r := by unfold Lib.trimPrefix; rw [hp]; rfl
      have hn : numS (c :: r) = plainL (c :: r) := by
        unfold numS
        split
        · rename_i r2 heq
          injection heq with heq
          exact absurd heq h45
        · rfl
      rw [htp, hp, hn]
      cases h : plainL (c :: r) with
      | none => rfl
      | some n =>
        have hr := plainL_range h
        simp only [Option.bind_some, Bool.false_eq_true, if_false]
        by_cases h1 : n < 2147483648
        · rw [if_pos h1, if_pos (by omega)]
        · rw [if_neg h1, if_neg (by omega)]
end Go.Proofs.YtcchoeomeklgmaaDoor.Core
