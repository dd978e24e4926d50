/- The same row, held as the sort asks for it. -/
import Derived.Test.YtceankldidkohaaDoorC14
namespace Go.Proofs.YtceankldidkohaaDoor.Core
open Go.RowKit Go.Shelf Go.Lib Go.Sort Go.Proofs.YtceankldidkohaaDoorW.PrintWords Go.Proofs.YtceankldidkohaaDoorW.PrintMore Go.Proofs.YtceankldidkohaaDoor.PAuditTwice Go.Proofs.YtceankldidkohaaDoor
set_option linter.unusedVariables false
set_option linter.unusedSimpArgs false
theorem holds_of {X : World} {g : Nat} {els : List (El X g)} (h : ∀ (j : Nat) (e : El X g), els[j]? = some e → (X.cell? ⟨g, j * 2, none⟩ = some (.slice e.A e.p.length e.c) ∧ X.frozen? ⟨g, j * 2, none⟩ = false) ∧ (X.cell? ⟨g, j * 2 + 1, none⟩ = some (.int .i64 e.s) ∧ X.frozen? ⟨g, j * 2 + 1, none⟩ = false)) :
    HoldsK (El.enc (X := X) (blk := g)) 2 X g 0 els.toArray := by
  intro t ht
  rw [size_flatK] at ht
  have ht' : t < els.length * 2 := by simpa using ht
  rw [get_flatK _ _ _ _ ht, Nat.zero_add]
  have hl : t / 2 < els.length := by omega
  have he : els.toArray[t / 2]! = els[t / 2] := by simp [hl]
  rw [he]
  obtain ⟨⟨h1, h2⟩, h3, h4⟩ := h (t / 2) els[t / 2] (List.getElem?_eq_getElem hl)
  rcases Nat.mod_two_eq_zero_or_one t with e | e
  · have e2 : t / 2 * 2 = t := by omega
    rw [e2] at h1 h2
    rw [e]
    exact ⟨h1, h2⟩
  · have e2 : t / 2 * 2 + 1 = t := by omega
    rw [e2] at h3 h4
    rw [e]
    exact ⟨h3, h4⟩
end Go.Proofs.YtceankldidkohaaDoor.Core
