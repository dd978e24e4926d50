/- What a job did, looked up by its tasks' paths: one row that rises for one table. -/
import Derived.Test.YtceankldidkohaaDoorC7
namespace Go.Proofs.YtceankldidkohaaDoor.Core
open Go.RowKit Go.Proofs.YtceankldidkohaaDoorW.PrintWords Go.Proofs.YtceankldidkohaaDoorW.PrintMore Go.Proofs.YtceankldidkohaaDoor.PAuditTwice Go.Proofs.YtceankldidkohaaDoor
set_option linter.unusedVariables false
set_option linter.unusedSimpArgs false
theorem cmpL_irrefl {a b : List Int} (h : cmpL a b < 0) : a ≠ b := by
  rintro rfl
  rw [cmpL_refl] at h
  omega
theorem cmpL_lt_trans {a b c : List Int} (h1 : cmpL a b < 0) (h2 : cmpL b c < 0) : cmpL a c < 0 := by
  have h3 := cmpL_trans (a := a) (b := b) (c := c) (by omega) (by omega)
  rcases Int.lt_or_eq_of_le h3 with h | h
  · exact h
  · have e := cmpL_zero h
    subst e
    rw [cmpL_neg] at h2
    omega
/-- How many instructions a task did. -/
def look : List S40 → List Int → Option Int
  | [], _ => none
  | x :: r, p => if x.f0 = p then some x.f1 else look r p
def Asc (l : List S40) : Prop := l.Pairwise fun x y => cmpL x.f0 y.f0 < 0
theorem look_none {l : List S40} {p : List Int} (h : ∀ x ∈ l, x.f0 ≠ p) : look l p = none := by
  induction l with
  | nil => rfl
  | cons x l ih =>
    unfold look
    rw [if_neg (h x (by simp)), ih (fun y hy => h y (by simp [hy]))]
theorem look_some {l : List S40} {p : List Int} {s : Int} (h : look l p = some s) : ∃ x ∈ l, x.f0 = p ∧ x.f1 = s := by
  induction l with
  | nil => cases h
  | cons x l ih =>
    unfold look at h
    split at h
    · rename_i e
      exact ⟨x, by simp, e, by injection h⟩
    · obtain ⟨y, hy, e⟩ := ih h
      exact ⟨y, by simp [hy], e⟩
theorem look_head {x : S40} {l : List S40} : look (x :: l) x.f0 = some x.f1 := by simp [look]
/-- A row that rises is known by what is looked up in it. -/
theorem asc_eq : ∀ {a b : List S40}, Asc a → Asc b → (∀ p, look a p = look b p) → a = b
  | [], [], _, _, _ => rfl
  | [], y :: b, _, _, h => by have := h y.f0; rw [look_head] at this; cases this
  | x :: a, [], _, _, h => by have := h x.f0; rw [look_head] at this; cases this
  | x :: a, y :: b, ha, hb, h => by
    have ha' := List.pairwise_cons.1 ha
    have hb' := List.pairwise_cons.1 hb
    have hxy : x.f0 = y.f0 := by
      have h1 := h x.f0
      rw [look_head] at h1
      have h2 := h y.f0
      rw [look_head] at h2
      obtain ⟨u, hu, e1, _⟩ := look_some h1.symm
      obtain ⟨v, hv, e2, _⟩ := look_some h2
      rcases List.mem_cons.1 hu with rfl | hu
      · exact e1.symm
      · rcases List.mem_cons.1 hv with rfl | hv
        · exact e2
        · have g1 := hb'.1 u hu
          have g2 := ha'.1 v hv
          rw [e1] at g1
          rw [e2] at g2
          have := cmpL_lt_trans g1 g2
          rw [cmpL_refl] at this
          omega
    have h1 := h x.f0
    rw [look_head, hxy, look_head] at h1
    injection h1 with h1
    obtain ⟨x0, x1⟩ := x
    obtain ⟨y0, y1⟩ := y
    simp only at hxy h1
    subst hxy
    subst h1
    congr 1
    refine asc_eq ha'.2 hb'.2 fun p => ?_
    by_cases e : x0 = p
    · subst e
      rw [look_none (fun z hz e => cmpL_irrefl (ha'.1 z hz) e.symm), look_none (fun z hz e => cmpL_irrefl (hb'.1 z hz) e.symm)]
    · have := h p
      simp only [look, if_neg e] at this
      exact this
def bump : Option Int → Int
  | some s => wrap64 (s + 1)
  | none => 1
theorem look_ins : ∀ {l : List S40} {p : List Int}, Asc l → ∀ q, look (insD l p) q = if p = q then some (bump (look l p)) else look l q
  | [], p, _, q => by simp [insD, look, bump]
  | x :: l, p, h, q => by
    have h' := List.pairwise_cons.1 h
    unfold insD
    split
    · rename_i hc
      have hne := cmpL_irrefl hc
      have ih := look_ins (p := p) h'.2 q
      show (if x.f0 = q then some x.f1 else look (insD l p) q) = if p = q then some (bump (if x.f0 = p then some x.f1 else look l p)) else (if x.f0 = q then some x.f1 else look l q)
      rw [ih, if_neg hne]
      by_cases e : x.f0 = q
      · rw [if_pos e, if_neg (fun e2 => hne (e.trans e2.symm)), if_pos e]
      · rw [if_neg e, if_neg e]
    · split
      · rename_i hc
        have e := cmpL_zero hc
        subst e
        by_cases e2 : x.f0 = q
        · subst e2
          simp [look, bump]
        · simp [look, e2]
      · rename_i h1 h2
        have hgt : cmpL p x.f0 < 0 := by rw [cmpL_neg]; omega
        have hn : look (x :: l) p = none := look_none (fun z hz => by
          rcases List.mem_cons.1 hz with rfl | hz
          · exact fun e => cmpL_irrefl hgt e.symm
          · exact fun e => cmpL_irrefl (cmpL_lt_trans hgt (h'.1 z hz)) e.symm)
        rw [hn]
        show (if p = q then some (1 : Int) else look (x :: l) q) = _
        rfl
theorem asc_ins : ∀ {l : List S40} {p : List Int}, Asc l → Asc (insD l p)
  | [], p, _ => by simp [insD, Asc]
  | x :: l, p, h => by
    have h' := List.pairwise_cons.1 h
    unfold insD
    split
    · rename_i hc
      refine List.pairwise_cons.2 ⟨fun y hy => ?_, asc_ins h'.2⟩
      exact insD_all (Q := fun q => cmpL x.f0 q < 0) l p (fun z hz => h'.1 z hz) hc y hy
    · split
      · exact List.pairwise_cons.2 ⟨h'.1, h'.2⟩
      · rename_i h1 h2
        have hgt : cmpL p x.f0 < 0 := by rw [cmpL_neg]; omega
        refine List.pairwise_cons.2 ⟨fun y hy => ?_, h⟩
        rcases List.mem_cons.1 hy with rfl | hy
        · exact hgt
        · exact cmpL_lt_trans hgt (h'.1 y hy)
theorem asc_did (job : Int) : ∀ (l : List S29) {out : List S40}, Asc out → Asc (didF job out l)
  | [], out, h => h
  | e :: l, out, h => by
    unfold didF
    split
    · exact asc_did job l (asc_ins h)
    · exact asc_did job l h
/-! The program's: in the order in which tasks came. -/
def addD : List S40 → List Int → List S40
  | [], p => [⟨p, 1⟩]
  | x :: r, p => if x.f0 = p then ⟨x.f0, wrap64 (x.f1 + 1)⟩ :: r else x :: addD r p
def rawF (job : Int) : List S40 → List S28 → List S40
  | out, [] => out
  | out, e :: l => if e.f0 = job then rawF job (addD out e.f2) l else rawF job out l
theorem look_add : ∀ {l : List S40} {p : List Int} (q : List Int), look (addD l p) q = if p = q then some (bump (look l p)) else look l q
  | [], p, q => by simp [addD, look, bump]
  | x :: l, p, q => by
    unfold addD
    split
    · rename_i e
      subst e
      by_cases e2 : x.f0 = q
      · subst e2; simp [look, bump]
      · simp [look, e2]
    · rename_i hne
      show (if x.f0 = q then some x.f1 else look (addD l p) q) = if p = q then some (bump (if x.f0 = p then some x.f1 else look l p)) else (if x.f0 = q then some x.f1 else look l q)
      rw [look_add q, if_neg hne]
      by_cases e : x.f0 = q
      · rw [if_pos e, if_neg (fun e2 => hne (e.trans e2.symm)), if_pos e]
      · rw [if_neg e, if_neg e]
theorem raw_did (job : Int) : ∀ (l : List S29) {a b : List S40}, Asc b → (∀ q, look a q = look b q) → ∀ q, look (rawF job a (l.map cvE)) q = look (didF job b l) q
  | [], a, b, _, h, q => h q
  | e :: l, a, b, hb, h, q => by
    show look (if (cvE e).f0 = job then _ else _) q = look (if e.f0 = job then _ else _) q
    by_cases hj : e.f0 = job
    · rw [if_pos hj, if_pos (show (cvE e).f0 = job from hj)]
      exact raw_did job l (asc_ins hb) (fun r => by rw [look_add, look_ins hb, h, h]; rfl) q
    · rw [if_neg hj, if_neg (show ¬ (cvE e).f0 = job from hj)]
      exact raw_did job l hb h q
/-- Distinct tasks. -/
def Dis (l : List S40) : Prop := l.Pairwise fun x y => x.f0 ≠ y.f0
theorem add_all {Q : List Int → Prop} : ∀ (out : List S40) (p : List Int), (∀ x ∈ out, Q x.f0) → Q p → ∀ x ∈ addD out p, Q x.f0
  | [], p, _, hp, x, hx => by obtain rfl := List.mem_singleton.1 hx; exact hp
  | y :: r, p, h, hp, x, hx => by
    unfold addD at hx
    split at hx
    · rcases List.mem_cons.1 hx with rfl | hx
      · exact h y (by simp)
      · exact h x (by simp [hx])
    · rcases List.mem_cons.1 hx with rfl | hx
      · exact h _ (by simp)
      · exact add_all r p (fun z hz => h z (by simp [hz])) hp x hx
theorem dis_add : ∀ {l : List S40} {p : List Int}, Dis l → Dis (addD l p)
  | [], p, _ => by simp [addD, Dis]
  | x :: l, p, h => by
    have h' := List.pairwise_cons.1 h
    unfold addD
    split
    · exact List.pairwise_cons.2 ⟨h'.1, h'.2⟩
    · rename_i hne
      exact List.pairwise_cons.2 ⟨fun y hy => add_all (Q := fun q => x.f0 ≠ q) l p h'.1 hne y hy, dis_add h'.2⟩
theorem look_mem {l : List S40} (h : Dis l) {x : S40} (hx : x ∈ l) : look l x.f0 = some x.f1 := by
  induction l with
  | nil => cases hx
  | cons y l ih =>
    have h' := List.pairwise_cons.1 h
    rcases List.mem_cons.1 hx with rfl | hx
    · exact look_head
    · unfold look
      rw [if_neg (h'.1 x hx)]
      exact ih h'.2 hx
theorem look_perm {a b : List S40} (h : a.Perm b) (ha : Dis a) (p : List Int) : look a p = look b p := by
  have hb : Dis b := (h.pairwise_iff (fun {x y} h e => h e.symm)).1 ha
  cases e : look a p with
  | none =>
    refine (look_none fun x hx e2 => ?_).symm
    have := look_mem ha (h.mem_iff.2 hx)
    rw [e2, e] at this
    cases this
  | some s =>
    obtain ⟨x, hx, rfl, rfl⟩ := look_some e
    exact (look_mem hb (h.mem_iff.1 hx)).symm
/-- What is sorted is what the reference tells. -/
theorem sorted_did {raw s : List S40} {job : Int} {l : List S29} (hr : raw = rawF job [] (l.map cvE)) (hd : Dis raw) (hp : s.Perm raw) (ha : Asc s) : s = didF job [] l := by
  refine asc_eq ha (asc_did job l List.Pairwise.nil) fun p => ?_
  rw [look_perm hp ((hp.pairwise_iff (fun {x y} h e => h e.symm)).2 hd), hr]
  exact raw_did job l List.Pairwise.nil (fun _ => rfl) p
theorem dis_raw (job : Int) : ∀ (l : List S28) {out : List S40}, Dis out → Dis (rawF job out l)
  | [], out, h => h
  | e :: l, out, h => by
    unfold rawF
    split
    · exact dis_raw job l (dis_add h)
    · exact dis_raw job l h
end Go.Proofs.YtceankldidkohaaDoor.Core
