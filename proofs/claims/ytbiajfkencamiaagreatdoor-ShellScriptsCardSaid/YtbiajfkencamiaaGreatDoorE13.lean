/- eval, as plain lists: all values of an evaluation are numbers of 64 bits; the lengths of what is told. -/
import Derived.Test.YtbiajfkencamiaaGreatDoorE12
/-! E13 -/
namespace Go.Proofs.YtbiajfkencamiaaGreatDoor.EV
open Go.Proofs.YtbiajfkencamiaaGreatDoor Go.Proofs.YtbiajfkencamiaaGreatDoor.Core Go.RowKit
set_option linter.unusedVariables false
set_option linter.unusedSimpArgs false
def R64 (n : Int) : Prop := -9223372036854775808 ≤ n ∧ n ≤ 9223372036854775807
theorem r64_wr (n : Int) : R64 (wr n) := by unfold R64 wr wrap64; omega
theorem r64_0 : R64 0 := ⟨by decide, by decide⟩
theorem r64_getD {l : List Int} (h : ∀ x ∈ l, R64 x) (n : Nat) : R64 (l.getD n 0) := by
  rw [List.getD_eq_getElem?_getD]
  cases e : l[n]? with
  | none => exact r64_0
  | some x => exact h x (List.mem_of_getElem? e)
theorem r64_set {l : List Int} (h : ∀ x ∈ l, R64 x) (n : Nat) {v : Int} (hv : R64 v) : ∀ x ∈ l.set n v, R64 x := fun x hx => by
  rcases List.mem_or_eq_of_mem_set hx with hx | rfl
  · exact h x hx
  · exact hv
def EvV (e : Ev) : Prop := ∀ n ∈ e.told, R64 n
structure TkV (t : Tk) : Prop where
  regs : ∀ x ∈ t.regs, R64 x
  hands : ∀ h ∈ t.hands, R64 h.2
  wait : ∀ x ∈ t.wait, R64 x.2
def KV (p : List Fn) : Prop := ∀ (f : Int) (pc : Nat), (((codeOf p f).getD pc (0, [])).1 = 1 ∨ ((codeOf p f).getD pc (0, [])).1 = 16) → R64 (fd ((codeOf p f).getD pc (0, [])) 3)
theorem valid_kv {p : List Fn} (h : validB p = true) : KV p := fun f pc h0 => by
  rcases Nat.lt_or_ge f.toNat p.length with hf | hf
  · have hF := valid_fn h f.toNat hf
    rcases Nat.lt_or_ge pc (codeOf p f).length with hpc | hpc
    · have ho := hF.at_ pc hpc
      change OpF p _ ((codeOf p f).getD pc (0, [])) at ho
      revert ho h0
      generalize (codeOf p f).getD pc (0, []) = i
      intro h0 ho
      unfold R64
      cases ho with
      | set ho a k => omega
      | fail ho k => omega
      | arith ho a b c => omega
      | move ho a b => omega
      | jump ho k => omega
      | zero ho a k => omega
      | spawn ho a b c ar => omega
      | sync ho => omega
      | future ho a b c ar => omega
      | touch ho a b => omega
      | emit ho a => omega
      | ret ho a => omega
    · rw [List.getD_eq_getElem?_getD, List.getElem?_eq_none hpc] at h0 ⊢
      exact r64_0
  · have e : codeOf p f = [] := by
      unfold codeOf
      rw [List.getD_eq_getElem?_getD, List.getElem?_eq_none hf]
      rfl
    rw [e]
    exact r64_0
def OutV : Out → Prop
  | .ok e v => EvV e ∧ R64 v
  | .fail e w => EvV e ∧ R64 w
  | .long e => EvV e
def DV : DRes → Prop
  | .go e t => EvV e ∧ TkV t
  | .stop o => OutV o
theorem TkV.put {t : Tk} (h : TkV t) (n : Int) {v : Int} (hv : R64 v) : TkV (t.put n v) := ⟨r64_set h.regs _ hv, h.hands, h.wait⟩
theorem sync_v : ∀ (l : List (Int × Int)) (r : List Int), (∀ x ∈ l, R64 x.2) → (∀ x ∈ r, R64 x) → ∀ x ∈ l.foldl (fun r x => r.set x.1.toNat x.2) r, R64 x
  | [], r, _, h => h
  | y :: l, r, h1, h2 => sync_v l _ (fun x hx => h1 x (List.mem_cons_of_mem _ hx)) (r64_set h2 _ (h1 y (List.mem_cons_self ..)))
theorem TkV.sync {t : Tk} (h : TkV t) : TkV t.sync := ⟨sync_v _ _ h.wait h.regs, h.hands, fun x hx => by cases hx⟩
theorem kid_v {t : Tk} (h : TkV t) (b n dep at0 : Nat) : TkV { dep := dep, regs := (t.regs.drop b).take n ++ List.replicate (8 - n) 0, hands := t.hands, wait := [], kids := 0, pc := 0, at0 := at0 } :=
  ⟨fun x hx => by
    rcases List.mem_append.1 hx with hx | hx
    · exact h.regs x (List.mem_of_mem_drop (List.mem_of_mem_take hx))
    · rw [List.eq_of_mem_replicate hx]; exact r64_0, h.hands, fun x hx => by cases hx⟩
theorem deed_v {p : List Fn} {D : Int} {child : Ev → Tk → Int → Out} (hc : ∀ e t c, EvV e → TkV t → OutV (child e t c)) (i : Int × List Int) (hi : i.1 = 1 ∨ i.1 = 16 → R64 (fd i 3)) {e : Ev} {t : Tk} (he : EvV e) (ht : TkV t) : DV (deed p D child i e t) := by
  have hr : ∀ n, R64 (t.reg n) := fun n => r64_getD ht.regs _
  have h01 : ∀ (c : Prop) [Decidable c], R64 (if c then 1 else 0) := fun c _ => by
    split
    · exact ⟨by decide, by decide⟩
    · exact r64_0
  have r1 : ∀ n, n = 1 ∨ n = 2 ∨ n = 4 → R64 n := fun n hn => by unfold R64; omega
  obtain ⟨o, fs⟩ := i
  unfold deed
  dsimp only
  split
  · exact ⟨he, ht.put _ (hi (.inl rfl))⟩
  · exact ⟨he, ht.put _ (hr _)⟩
  · exact ⟨he, ht.put _ (r64_wr _)⟩
  · exact ⟨he, ht.put _ (r64_wr _)⟩
  · exact ⟨he, ht.put _ (r64_wr _)⟩
  · split
    · exact ⟨he, r1 _ (.inl rfl)⟩
    · exact ⟨he, ht.put _ (r64_wr _)⟩
  · exact ⟨he, ht.put _ (h01 _)⟩
  · exact ⟨he, ht.put _ (h01 _)⟩
  · exact ⟨he, ht.regs, ht.hands, ht.wait⟩
  · refine ⟨he, ?_⟩
    split
    · exact ⟨ht.regs, ht.hands, ht.wait⟩
    · exact ht
  · exact ⟨he, ht.sync⟩
  · split
    · refine ⟨he, ht.put _ ?_⟩
      rw [List.getD_eq_getElem?_getD]
      cases h4 : t.hands[(fd (14, fs) 1).toNat]? with
      | none => exact r64_0
      | some x => exact ht.hands x (List.mem_of_getElem? h4)
    · exact ⟨he, r1 _ (.inr (.inl rfl))⟩
  · refine ⟨fun n hn => ?_, ht⟩
    rcases List.mem_append.1 hn with hn | hn
    · exact he n hn
    · rw [List.mem_singleton.1 hn]
      exact hr _
  · exact ⟨he, hi (.inr rfl)⟩
  · split
    · exact ⟨he, r1 _ (.inr (.inr rfl))⟩
    · have hk := hc { e with log := e.log ++ [0] } _ (fd (o, fs) 2) he (kid_v ht (fd (o, fs) 1).toNat (arityOf p (fd (o, fs) 2)).toNat (t.dep + 1) e.log.length)
      revert hk
      generalize child _ _ _ = r
      intro hk
      cases r with
      | ok e2 v =>
        refine ⟨hk.1, ?_⟩
        split
        · refine ⟨ht.regs, ht.hands, fun x hx => ?_⟩
          rcases List.mem_append.1 hx with hx | hx
          · exact ht.wait x hx
          · rw [List.mem_singleton.1 hx]
            exact hk.2
        · refine ⟨ht.regs, fun x hx => ?_, ht.wait⟩
          rcases List.mem_or_eq_of_mem_set hx with hx | rfl
          · exact ht.hands x hx
          · exact hk.2
      | fail e2 v => exact hk
      | long e2 => exact hk
theorem runF_v {p : List Fn} (hp : KV p) (B D : Int) : ∀ (n : Nat) (e : Ev) (t : Tk) (f : Int), EvV e → TkV t → OutV (runF p B D n e t f)
  | 0, e, t, f, he, ht => he
  | n + 1, e, t, f, he, ht => by
    unfold runF
    split
    · exact ⟨he, by unfold R64; omega⟩
    · split
      · exact he
      · dsimp only
        split
        · exact ⟨he, r64_getD (TkV.sync (t := { t with pc := t.pc + 1 }) ⟨ht.regs, ht.hands, ht.wait⟩).regs _⟩
        · have hd := deed_v (p := p) (D := D) (child := runF p B D n) (fun e t c h1 h2 => runF_v hp B D n e t c h1 h2) ((codeOf p f).getD t.pc (0, [])) (hp f t.pc) (e := { e with left := e.left - 1, log := e.log.set t.at0 (e.log.getD t.at0 0 + 1) }) (t := { t with pc := t.pc + 1 }) he ⟨ht.regs, ht.hands, ht.wait⟩
          revert hd
          generalize deed p D (runF p B D n) ((codeOf p f).getD t.pc (0, [])) { e with left := e.left - 1, log := e.log.set t.at0 (e.log.getD t.at0 0 + 1) } { t with pc := t.pc + 1 } = r
          intro hd
          cases r with
          | go e2 t2 => exact runF_v hp B D n e2 t2 f hd.1 hd.2
          | stop o => exact hd
/-- What Eval tells: values of 64 bits, not too many. -/
structure ResV (r : Int × Int × List Int) : Prop where
  v : R64 r.1
  f : R64 r.2.1
  told : ∀ n ∈ r.2.2, R64 n
  len : r.2.2.length ≤ big
theorem evalF_v {p : List Fn} {args : List Int} {B D : Int} (ha : ∀ x ∈ args, R64 x) {r : Int × Int × List Int} (h : evalF p args B D = .ok r) : ResV r := by
  unfold evalF at h
  split at h
  · rename_i hr
    have hv : validB p = true := by
      unfold rightB at hr
      simp only [Bool.and_eq_true] at hr
      exact hr.1.1
    have h0 : EvOk ({ ev0 with log := ev0.log ++ [0] } : Ev) := ⟨by decide, by decide, by decide⟩
    have hT : TkV (tk0 0 args hands0 0) := ⟨fun x hx => by
      rcases List.mem_append.1 hx with hx | hx
      · exact ha x hx
      · rw [List.eq_of_mem_replicate hx]; exact r64_0, fun x hx => by simp at hx; rw [hx]; exact r64_0, fun x hx => by cases hx⟩
    have h1 : OutV (outF p args B D) := runF_v (valid_kv hv) B D 10001 _ _ 0 (fun n hn => by cases hn) hT
    have h2 : OutOk _ (outF p args B D) := runF_ok p B D 10001 _ (tk0 0 args hands0 0) 0 h0
    revert h h1 h2
    generalize outF p args B D = o
    intro h h1 h2
    cases o with
    | ok e v => injection h with h; subst h; exact ⟨h1.2, r64_0, h1.1, Nat.le_trans (Nat.le_add_right _ _) h2.1.told⟩
    | fail e w => injection h with h; subst h; exact ⟨r64_0, h1.2, h1.1, Nat.le_trans (Nat.le_add_right _ _) h2.1.told⟩
    | long e => cases h
  · cases h
theorem evalF_err {p : List Fn} {args : List Int} {B D : Int} {x : Int} (h : evalF p args B D = .error x) : ∃ k : Nat, x = (k : Int) ∧ (k = 1 ∨ k = 3) := by
  unfold evalF at h
  split at h
  · revert h
    generalize outF p args B D = o
    intro h
    cases o with
    | ok e v => cases h
    | fail e w => cases h
    | long e => injection h with h; exact ⟨3, h.symm, .inr rfl⟩
  · injection h with h; exact ⟨1, h.symm, .inl rfl⟩
end Go.Proofs.YtbiajfkencamiaaGreatDoor.EV
