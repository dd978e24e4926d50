/- What an argument that can be read is, kind by kind: its cells are those of a value of the kind. The kinds of the parameters of haymow/haymowlaw22.ShellScripts, and what opens them. Written by rowgen.py. (Merged and reduced by need2.py and pack.py: Opens, ShellScriptsK) -/
import Derived.Test.YtbiajfkencamiaaGreatDoorWd
import Derived.Deep.Slices
import Derived.OpenShut
import Derived.WideShapes
import Derived.Test.YtbiajfkencamiaaGreatDoorProg
import Derived.KernelRfl
/-! Opens -/
section
namespace Go.Proofs.YtbiajfkencamiaaGreatDoor.Opens
open Go.RowKit Go.Proofs.YtbiajfkencamiaaGreatDoorW.PrintWords Go.WideShapes

/-- Cells that can be read as data of type t are the cells of some a of kind d, and a is as wf says. -/
def Opens (P : Program) (t : TypeId) {α : Type} (d : Kd α) (wf : α → Prop) : Prop :=
  d.sz = P.cellsOf t ∧ ∀ (H : Type) (enc : TypeId × Value → H) (w : World) (base : Nat) (spare : Nat → Bool) (held : Bool) (fuel : Nat) (cs : List Value) (x : DataW H × List MemPlace),
    DataW.trod enc P w base spare held fuel t cs = some x → ∃ a : α, d.K w a cs ∧ wf a

theorem opens_int {P : Program} {t : TypeId} {k : IntKind} (ht : P.underlying t = some (.int k)) (hc : P.cellsOf t = 1) : Opens P t (Kd.int k) (fun n => (Lit.int k n).wf = true) := by
  refine ⟨hc.symm, fun H enc w base spare held fuel cs x h => ?_⟩
  obtain ⟨n, rfl, _, hw⟩ := DataW.trod_int ht h
  exact ⟨n, rfl, hw⟩

theorem opens_string {P : Program} {t : TypeId} (ht : P.underlying t = some .string) (hc : P.cellsOf t = 1) : Opens P t Kd.string (fun s => s.size ≤ maxLen) := by
  refine ⟨hc.symm, fun H enc w base spare held fuel cs x h => ?_⟩
  obtain ⟨n, rfl, _, hw⟩ := DataW.trod_string ht h
  exact ⟨n, rfl, hw⟩

theorem list_of {α : Type} {n : Nat} {p : Nat → α → Prop} (h : ∀ i, i < n → ∃ x, p i x) : ∃ xs : List α, xs.length = n ∧ ∀ i x, xs[i]? = some x → p i x := by
  induction n with
  | zero => exact ⟨[], rfl, fun i x h => by simp at h⟩
  | succ n ih =>
    obtain ⟨xs, hl, hx⟩ := ih (fun i hi => h i (by omega))
    obtain ⟨y, hy⟩ := h n (by omega)
    refine ⟨xs ++ [y], by simp [hl], fun i x hi => ?_⟩
    rcases Nat.lt_or_ge i xs.length with hlt | hge
    · rw [List.getElem?_append_left hlt] at hi
      exact hx i x hi
    · rw [List.getElem?_append_right hge] at hi
      have h0 : i - xs.length = 0 := by
        rcases Nat.eq_zero_or_pos (i - xs.length) with h | h
        · exact h
        · rw [List.getElem?_eq_none (by simp; omega)] at hi; cases hi
      rw [h0] at hi
      obtain rfl : y = x := by simpa using hi
      obtain rfl : i = n := by omega
      exact hy

theorem cells_of {w : World} {base : Nat} {a : Addr} {n : Nat} {cs : List Value} (h : w.cells? base a n = some cs) : cs.length = n ∧ ∀ i u, cs[i]? = some u → w.cell? (a.add i) = some u := by
  obtain ⟨_, hl, hc⟩ := World.cells?_some h
  refine ⟨hl, fun i u hu => ?_⟩
  have hi : i < n := by
    have := (List.getElem?_eq_some_iff.1 hu).1
    omega
  rw [hc i hi]
  exact hu

theorem opens_slice {P : Program} {t e : TypeId} {α : Type} {d : Kd α} {wf : α → Prop} (ht : P.underlying t = some (.slice e)) (hc : P.cellsOf t = 1) (he : Opens P e d wf) :
    Opens P t (Kd.slice e d) (fun xs => ∀ x ∈ xs, wf x) := by
  refine ⟨hc.symm, fun H enc w base spare held fuel cs x h => ?_⟩
  rcases DataW.trod_slice ht h with ⟨rfl, rfl⟩ | ⟨a, len, cap, elems, rest, n, _, rfl, rfl, hb, hl, hm, hlen, hel, hsp, hns⟩
  · exact ⟨[], ⟨none, 0, rfl, Nat.le_refl _, rfl, by simp, fun h => absurd h (Nat.lt_irrefl _)⟩, by simp⟩
  · obtain ⟨xs, hxl, hx⟩ := list_of (n := len) (p := fun i (x : α) => (∃ c, c.length = d.sz ∧ d.K w x c ∧ ∀ j u, c[j]? = some u → w.cell? (a.add (i * d.sz + j)) = some u) ∧ wf x) (fun i hi => by
      have h1 := hel i hi
      rw [List.getElem?_eq_getElem (by omega)] at h1
      obtain ⟨c, hc1, hc2⟩ := Option.bind_eq_some_iff.1 h1
      obtain ⟨y, hy, hw⟩ := he.2 H enc w base spare held n c _ hc2
      obtain ⟨hcl, hcc⟩ := cells_of hc1
      refine ⟨y, ⟨c, by rw [hcl, he.1], hy, fun j u hu => ?_⟩, hw⟩
      rw [← Go.Deep.add_add, he.1]
      exact hcc j u hu)
    subst hxl
    refine ⟨xs, ⟨some a, cap, rfl, hl, rfl, by simp only [maxLen] at hm; omega, fun _ => ⟨a, rfl, fun j p hp => (hx j p hp).1⟩⟩, fun x hx' => ?_⟩
    obtain ⟨i, hi⟩ := List.mem_iff_getElem?.1 hx'
    exact (hx i x hi).2

/-! Structs and arrays: a row of parts, each with its type and its offset. -/
/-! What a whole argument is. -/
theorem arg_one {P : Program} {w w0 : World} {r : Reach} {b0 base : Nat} {spare : Nat → Bool} {held : Bool} {t : TypeId} {v : Value} {H : Type} {enc : TypeId × Value → H} {D : DataW H} {ps : List MemPlace} {α : Type} {d : Kd α} {wf : α → Prop}
    (ho : Opens P t d wf) (hk : ∀ cs, v ≠ .agg cs) (h : DataW.Trod enc P w base spare held t v D ps) : ∃ a : α, d.K w a [v] ∧ wf a := by
  obtain ⟨fuel, h⟩ := h
  have hv : v.cells.toList = [v] := by
    cases v with
    | agg cs => exact absurd rfl (hk cs)
    | _ => rfl
  rw [hv] at h
  exact ho.2 H enc w base spare held fuel _ _ h

end Go.Proofs.YtbiajfkencamiaaGreatDoor.Opens
end
/-! ShellScriptsK -/
section
namespace Go.Proofs.YtbiajfkencamiaaGreatDoor.KShellScripts
open Go.RowKit Go.Proofs.YtbiajfkencamiaaGreatDoorW.PrintWords Go.Proofs.YtbiajfkencamiaaGreatDoor.Opens

theorem open_arg0 : Opens Tryz.prog 25 (Kd.slice 9 Kd.string) (fun x => (∀ e ∈ x, e.size ≤ maxLen)) := (opens_slice Tryz.underlying25 (by kernel_rfl) (opens_string Tryz.underlying9 (by kernel_rfl)))
theorem open_arg1 : Opens Tryz.prog 9 Kd.string (fun x => x.size ≤ maxLen) := (opens_string Tryz.underlying9 (by kernel_rfl))
theorem open_arg2 : Opens Tryz.prog 28 (Kd.int .u32) (fun x => (Lit.int .u32 x).wf = true) := (opens_int Tryz.underlying28 (by kernel_rfl))
end Go.Proofs.YtbiajfkencamiaaGreatDoor.KShellScripts
end
