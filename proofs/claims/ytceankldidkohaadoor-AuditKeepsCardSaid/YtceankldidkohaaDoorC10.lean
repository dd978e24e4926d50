/- audit.Did: its map and its row. -/
import Derived.Test.YtceankldidkohaaDoorC9
import Derived.Maps.OwnSet
namespace Go.Proofs.YtceankldidkohaaDoor.Core
open Go.RowKit Go.Maps Go.ChangeMaps Go.WideMaps Go.WideAt Go.Proofs.YtceankldidkohaaDoorW.PrintWords Go.Proofs.YtceankldidkohaaDoorW.PrintMore Go.Proofs.YtceankldidkohaaDoor.PAuditTwice Go.Proofs.YtceankldidkohaaDoor
set_option linter.unusedVariables false
set_option linter.unusedSimpArgs false
theorem info38 : (Tryd.prog.info? 38).map (fun i => (i.zero, i.size, i.bytes)) = some (some (.agg #[(.slice none 0 0), (.int .i64 0)]), 2, 32) := by kernel_rfl
/-- Where a task stands. -/
def pos : List S40 → List Int → Option Nat
  | [], _ => none
  | x :: r, p => if x.f0 = p then some 0 else (pos r p).map (· + 1)
theorem pos_lt : ∀ {l : List S40} {p : List Int} {i : Nat}, pos l p = some i → ∃ h : i < l.length, l[i].f0 = p
  | x :: l, p, i, h => by
    unfold pos at h
    split at h
    · rename_i e
      injection h with h
      subst h
      exact ⟨by simp, e⟩
    · obtain ⟨j, hj, rfl⟩ := Option.map_eq_some_iff.1 h
      obtain ⟨h1, h2⟩ := pos_lt hj
      exact ⟨by simp; omega, by simpa using h2⟩
theorem pos_snoc : ∀ {l : List S40} {p q : List Int} {s : Int}, pos l p = none → pos (l ++ [⟨p, s⟩]) q = if p = q then some l.length else pos l q
  | [], p, q, s, _ => by simp [pos]
  | x :: l, p, q, s, h => by
    unfold pos at h
    split at h
    · cases h
    · rename_i hne
      have h' : pos l p = none := by simpa using h
      show (if x.f0 = q then some 0 else (pos (l ++ [⟨p, s⟩]) q).map (· + 1)) = _
      rw [pos_snoc h']
      by_cases e : x.f0 = q
      · rw [if_pos e, if_neg (fun e2 => hne (e.trans e2.symm))]
        simp [pos, e]
      · rw [if_neg e]
        by_cases e2 : p = q
        · rw [if_pos e2, if_pos e2]; rfl
        · rw [if_neg e2, if_neg e2]
          simp [pos, e]
theorem pos_set : ∀ {l : List S40} {i : Nat} (hi : i < l.length) (s : Int) (q : List Int), pos (l.set i ⟨l[i].f0, s⟩) q = pos l q
  | x :: l, 0, hi, s, q => rfl
  | x :: l, i + 1, hi, s, q => by
    have := pos_set (l := l) (i := i) (by simpa using hi) s q
    simp only [List.set_cons_succ, List.getElem_cons_succ, pos, this]
theorem add_pos : ∀ {l : List S40} {p : List Int} {i : Nat} (h : pos l p = some i), addD l p = l.set i ⟨(l[i]'(pos_lt h).1).f0, wrap64 ((l[i]'(pos_lt h).1).f1 + 1)⟩
  | x :: l, p, i, h => by
    have h0 := h
    unfold pos at h
    split at h
    · rename_i e
      injection h with h
      subst h
      unfold addD
      rw [if_pos e]
      rfl
    · rename_i hne
      obtain ⟨j, hj, rfl⟩ := Option.map_eq_some_iff.1 h
      have := add_pos hj
      unfold addD
      rw [if_neg hne, this]
      rfl
theorem add_none : ∀ {l : List S40} {p : List Int} (h : pos l p = none), addD l p = l ++ [⟨p, 1⟩]
  | [], p, _ => rfl
  | x :: l, p, h => by
    unfold pos at h
    split at h
    · cases h
    · rename_i hne
      have h' : pos l p = none := by simpa using h
      unfold addD
      rw [if_neg hne, add_none h']
      rfl
/-- The map tells where each task stands. -/
structure Mk (D : DataW Unit) (job : Int) (out : List S40) : Prop where
  map : IsMap D
  has : ∀ p, Maps.has D (.string (nm job p)) = (pos out p).isSome
  at_ : ∀ p i, pos out p = some i → D.atKey (.string (nm job p)) (.lit (.int .i64 0)) = .lit (.int .i64 i)
theorem Mk.start (job : Int) : Mk (.map []) job [] := ⟨⟨[], rfl⟩, fun p => rfl, fun p i h => by cases h⟩
theorem Mk.snoc {D : DataW Unit} {job : Int} {out : List S40} {p : List Int} {s : Int} (h : Mk D job out) (hp : pos out p = none) : Mk (D.put (.string (nm job p)) (.lit (.int .i64 out.length))) job (out ++ [⟨p, s⟩]) := by
  obtain ⟨⟨es, rfl⟩, h2, h3⟩ := h
  refine ⟨⟨_, rfl⟩, fun q => ?_, fun q i hq => ?_⟩
  · rw [pos_snoc hp]
    by_cases e : p = q
    · subst e
      rw [if_pos rfl, has_put_same ⟨es, rfl⟩ (by trivial)]
      rfl
    · rw [if_neg e, has_put_other (by intro h; injection h with h; exact e (nm_inj h).2.symm), h2 q]
  · rw [pos_snoc hp] at hq
    by_cases e : p = q
    · subst e
      rw [if_pos rfl] at hq
      injection hq with hq
      subst hq
      rw [atKey_put_same ⟨es, rfl⟩ (by trivial)]
    · rw [if_neg e] at hq
      rw [atKey_put_other (by intro h; injection h with h; exact e (nm_inj h).2.symm)]
      exact h3 q i hq
theorem Mk.set {D : DataW Unit} {job : Int} {out : List S40} {i : Nat} (h : Mk D job out) (hi : i < out.length) (s : Int) : Mk D job (out.set i ⟨out[i].f0, s⟩) :=
  ⟨h.map, fun p => by rw [pos_set hi]; exact h.has p, fun p k hk => by rw [pos_set hi] at hk; exact h.at_ p k hk⟩
end Go.Proofs.YtceankldidkohaaDoor.Core
