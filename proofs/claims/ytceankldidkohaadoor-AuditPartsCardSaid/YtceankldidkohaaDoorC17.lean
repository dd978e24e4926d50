/- What the sort leaves, in plain Lean. -/
import Derived.Test.YtceankldidkohaaDoorC16
namespace Go.Proofs.YtceankldidkohaaDoor.Core
open Go.RowKit Go.Shelf Go.Lib Go.Sort Go.Proofs.YtceankldidkohaaDoorW.PrintWords Go.Proofs.YtceankldidkohaaDoorW.PrintMore Go.Proofs.YtceankldidkohaaDoor.PAuditTwice Go.Proofs.YtceankldidkohaaDoor
set_option linter.unusedVariables false
set_option linter.unusedSimpArgs false
theorem perm_list {X : World} {g : Nat} {els : List (El X g)} {d' : Array (El X g)} (hp : PermIn 0 els.length els.toArray d') : d'.size = els.length ∧ d'.toList.Perm els := by
  obtain ⟨h1, _, h3⟩ := hp
  have hsz : d'.size = els.length := by simpa using h1
  refine ⟨hsz, ?_⟩
  have e1 : d'.extract 0 els.length = d' := by rw [← hsz]; simp
  have e2 : els.toArray.extract 0 els.length = els.toArray := by simp
  rw [e1, e2] at h3
  simpa using h3
theorem sorted_asc {X : World} {g : Nat} {els : List (El X g)} {d' : Array (El X g)} (hp : PermIn 0 els.length els.toArray d') (hs : SortedIn (ltOf El.cf) 0 els.length d') (hd : Dis (els.map El.un)) : (d'.toList.map El.un).Perm (els.map El.un) ∧ Asc (d'.toList.map El.un) := by
  obtain ⟨hsz, hpl⟩ := perm_list hp
  have hpm := hpl.map El.un
  have hd' : Dis (d'.toList.map El.un) := (hpm.pairwise_iff (fun {x y} h e => h e.symm)).2 hd
  refine ⟨hpm, List.pairwise_iff_getElem.2 fun i j hi hj hij => ?_⟩
  have hne := List.pairwise_iff_getElem.1 hd' i j hi hj hij
  simp only [List.length_map, Array.length_toList] at hi hj
  simp only [List.getElem_map, Array.getElem_toList] at hne ⊢
  have h := hs i j (Nat.zero_le _) hij (by omega)
  rw [El.lt_iff, getElem!_pos d' i hi, getElem!_pos d' j hj] at h
  have h := of_decide_eq_false h
  show cmpL d'[i].p d'[j].p < 0
  have e := cmpL_neg d'[i].p d'[j].p
  have hz : cmpL d'[i].p d'[j].p ≠ 0 := fun hz => hne (cmpL_zero hz)
  omega
end Go.Proofs.YtceankldidkohaaDoor.Core
