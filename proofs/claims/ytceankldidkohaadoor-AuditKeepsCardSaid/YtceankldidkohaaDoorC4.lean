/- What the references tell, in plain Lean: light, of, Did. -/
import Derived.Test.YtceankldidkohaaDoorC3
namespace Go.Proofs.YtceankldidkohaaDoor.Core
open Go.RowKit Go.Proofs.YtceankldidkohaaDoorW.PrintWords Go.Proofs.YtceankldidkohaaDoorW.PrintMore Go.Proofs.YtceankldidkohaaDoor.PAuditTwice
set_option linter.unusedVariables false
set_option linter.unusedSimpArgs false
def lit2 (l : List S29) : Bool := decide (l.length ≤ 200) && l.all fun e => decide (e.f2.length ≤ 31)
theorem light_l (l : List S29) (hn : l.length ≤ 200) (d : Nat) : ∀ (k i : Nat), i + d = l.length → d < k → haymowlaw20_light.l0 k l i = some ((l.drop i).all fun e => decide (e.f2.length ≤ 31)) := by
  induction d with
  | zero =>
    intro k i hi hk
    obtain ⟨k, rfl⟩ : ∃ m, k = m + 1 := ⟨k - 1, by omega⟩
    simp only [haymowlaw20_light.l0]
    rw [if_neg (by omega), List.drop_of_length_le (by omega)]
    rfl
  | succ d ih =>
    intro k i hi hk
    obtain ⟨k, rfl⟩ : ∃ m, k = m + 1 := ⟨k - 1, by omega⟩
    have hil : i < l.length := by omega
    have h := ih k (i + 1) (by omega) (by omega)
    simp only [haymowlaw20_light.l0]
    have e1 : wrap64 ((i : Int) + 1) = ((i + 1 : Nat) : Int) := by rw [wr (by omega) (by omega)]; omega
    rw [if_pos (by omega), if_pos (by omega), e1, h, rd29 hil, List.drop_eq_getElem_cons hil, List.all_cons]
    by_cases g : l[i].f2.length ≤ 31
    · rw [if_neg (by omega), decide_eq_true g, Bool.true_and]
    · rw [if_pos (by omega), decide_eq_false g, Bool.false_and]
theorem light_f (l : List S29) : haymowlaw20_light.f (l.length + 1) l = some (lit2 l) := by
  unfold haymowlaw20_light.f lit2
  by_cases h : l.length ≤ 200
  · rw [if_neg (by omega), decide_eq_true h, Bool.true_and]
    exact light_l l h l.length _ 0 (by omega) (by omega)
  · rw [if_pos (by omega), decide_eq_false h, Bool.false_and]
theorem of_l (l : List S29) (hn : l.length ≤ 1000000) (d : Nat) : ∀ (k i : Nat), l.length - i = d → i ≤ l.length → d < k → haymowlaw20_of.l0 k l ((l.take i).map cvE) i = some (l.map cvE) := by
  induction d with
  | zero =>
    intro k i hd hi hk
    obtain ⟨k, rfl⟩ : ∃ m, k = m + 1 := ⟨k - 1, by omega⟩
    obtain rfl : i = l.length := by omega
    simp only [haymowlaw20_of.l0]
    rw [if_neg (by omega), List.take_length]
  | succ d ih =>
    intro k i hd hi hk
    obtain ⟨k, rfl⟩ : ∃ m, k = m + 1 := ⟨k - 1, by omega⟩
    have hil : i < l.length := by omega
    simp only [haymowlaw20_of.l0]
    have e1 : wrap64 ((i : Int) + 1) = ((i + 1 : Nat) : Int) := by rw [wr (by omega) (by omega)]; omega
    have h := ih k (i + 1) (by omega) (by omega) (by omega)
    have e : (l.take (i + 1)).map cvE = (l.take i).map cvE ++ [(⟨(rd_T29 l i).f0, (rd_T29 l i).f1, (rd_T29 l i).f2⟩ : S28)] := by
      rw [List.take_succ_eq_append_getElem hil, List.map_append, rd29 hil]
      rfl
    rw [if_pos (by omega), if_pos (by omega), if_pos (by simp; omega), e1, ← e, h]
theorem of_f (l : List S29) (hn : l.length ≤ 1000000) : haymowlaw20_of.f (l.length + 1) l = some (l.map cvE) := of_l l hn l.length (l.length + 1) 0 (by omega) (by omega) (by omega)
/-! What a job did. -/
def insD : List S40 → List Int → List S40
  | [], p => [⟨p, 1⟩]
  | x :: r, p => if cmpL x.f0 p < 0 then x :: insD r p else if cmpL x.f0 p = 0 then ⟨x.f0, wrap64 (x.f1 + 1)⟩ :: r else ⟨p, 1⟩ :: x :: r
def didF (job : Int) : List S40 → List S29 → List S40
  | out, [] => out
  | out, e :: l => if e.f0 = job then didF job (insD out e.f2) l else didF job out l
theorem insD_len : ∀ (out : List S40) (p : List Int), (insD out p).length ≤ out.length + 1
  | [], p => by simp [insD]
  | x :: r, p => by
    have := insD_len r p
    unfold insD
    split
    · simp; omega
    · split <;> simp
theorem insD_all {Q : List Int → Prop} : ∀ (out : List S40) (p : List Int), (∀ x ∈ out, Q x.f0) → Q p → ∀ x ∈ insD out p, Q x.f0
  | [], p, _, hp, x, hx => by obtain rfl := List.mem_singleton.1 hx; exact hp
  | y :: r, p, h, hp, x, hx => by
    unfold insD at hx
    split at hx
    · rcases List.mem_cons.1 hx with rfl | hx
      · exact h _ (by simp)
      · exact insD_all r p (fun z hz => h z (by simp [hz])) hp x hx
    · split at hx
      · rcases List.mem_cons.1 hx with rfl | hx
        · exact h y (by simp)
        · exact h x (by simp [hx])
      · rcases List.mem_cons.1 hx with rfl | hx
        · exact hp
        · exact h x hx
/-- The place that is looked for: all ahead of it are smaller. -/
def InsAt (out : List S40) (p : List Int) (k : Nat) : Prop := insD out p = out.take k ++ insD (out.drop k) p
theorem InsAt.zero (out : List S40) (p : List Int) : InsAt out p 0 := by simp [InsAt]
theorem InsAt.next {out : List S40} {p : List Int} {k : Nat} (h : InsAt out p k) (hk : k < out.length) (hc : cmpL out[k].f0 p < 0) : InsAt out p (k + 1) := by
  unfold InsAt at *
  rw [h, List.drop_eq_getElem_cons hk, List.take_succ_eq_append_getElem hk, List.append_assoc]
  congr 1
  show (if cmpL out[k].f0 p < 0 then _ else _) = _
  rw [if_pos hc]
  rfl
theorem InsAt.same {out : List S40} {p : List Int} {k : Nat} (h : InsAt out p k) (hk : k < out.length) (hc : cmpL out[k].f0 p = 0) : insD out p = out.set k ⟨out[k].f0, wrap64 (out[k].f1 + 1)⟩ := by
  unfold InsAt at h
  rw [h, List.drop_eq_getElem_cons hk, List.set_eq_take_append_cons_drop, if_pos hk]
  congr 1
  show (if cmpL out[k].f0 p < 0 then _ else _) = _
  rw [if_neg (by omega), if_pos hc]
theorem InsAt.over {out : List S40} {p : List Int} {k : Nat} (h : InsAt out p k) (hk : k < out.length) (hc : 0 < cmpL out[k].f0 p) : insD out p = out.take k ++ [⟨p, 1⟩] ++ out.drop k := by
  unfold InsAt at h
  rw [h, List.append_assoc, List.drop_eq_getElem_cons hk]
  congr 1
  show (if cmpL out[k].f0 p < 0 then _ else _) = _
  rw [if_neg (by omega), if_neg (by omega)]
  rfl
theorem InsAt.last {out : List S40} {p : List Int} {k : Nat} (h : InsAt out p k) (hk : out.length ≤ k) : insD out p = out.take k ++ [⟨p, 1⟩] ++ out.drop k := by
  unfold InsAt at h
  rw [h, List.drop_of_length_le hk, List.append_assoc]
  rfl
theorem did_two (x y : S29) (h : x.f0 = y.f0) : (didF y.f0 [] [x, y]).length = if x.f2 = y.f2 then 1 else 2 := by
  simp only [didF, if_pos h, if_true, insD]
  by_cases e : x.f2 = y.f2
  · rw [if_pos e, e, cmpL_refl]
    rfl
  · rw [if_neg e]
    have : cmpL x.f2 y.f2 ≠ 0 := fun h => e (cmpL_zero h)
    split
    · rfl
    · rfl
end Go.Proofs.YtceankldidkohaaDoor.Core
