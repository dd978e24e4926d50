/- What an argument that can be read is, kind by kind: its cells are those of a value of the kind. -/
import Derived.Test.YtponjobacdimeaaGreatWWords
import Derived.Deep.Slices
import Derived.OpenShut
import Derived.WideShapes
namespace Go.Proofs.YtponjobacdimeaaGreat.Opens
open Go.RowKit Go.Proofs.YtponjobacdimeaaGreatW.PrintWords Go.WideShapes

/-- Cells that can be read as data of type t are the cells of some a of kind d, and a is as wf says. -/
def Opens (P : Program) (t : TypeId) {α : Type} (d : Kd α) (wf : α → Prop) : Prop :=
  d.sz = P.cellsOf t ∧ ∀ (H : Type) (enc : TypeId × Value → H) (w : World) (base : Nat) (spare : Nat → Bool) (held : Bool) (fuel : Nat) (cs : List Value) (x : DataW H × List MemPlace),
    DataW.trod enc P w base spare held fuel t cs = some x → ∃ a : α, d.K w a cs ∧ wf a

theorem opens_int {P : Program} {t : TypeId} {k : IntKind} (ht : P.underlying t = some (.int k)) (hc : P.cellsOf t = 1) : Opens P t (Kd.int k) (fun n => (Lit.int k n).wf = true) := by
  refine ⟨hc.symm, fun H enc w base spare held fuel cs x h => ?_⟩
  obtain ⟨n, rfl, _, hw⟩ := DataW.trod_int ht h
  exact ⟨n, rfl, hw⟩

theorem opens_bool {P : Program} {t : TypeId} (ht : P.underlying t = some .bool) (hc : P.cellsOf t = 1) : Opens P t Kd.bool (fun _ => True) := by
  refine ⟨hc.symm, fun H enc w base spare held fuel cs x h => ?_⟩
  obtain ⟨n, rfl, _⟩ := DataW.trod_bool ht h
  exact ⟨n, rfl, trivial⟩

theorem opens_string {P : Program} {t : TypeId} (ht : P.underlying t = some .string) (hc : P.cellsOf t = 1) : Opens P t Kd.string (fun s => s.size ≤ maxLen) := by
  refine ⟨hc.symm, fun H enc w base spare held fuel cs x h => ?_⟩
  obtain ⟨n, rfl, _, hw⟩ := DataW.trod_string ht h
  exact ⟨n, rfl, hw⟩

theorem list_of {α : Type} {n : Nat} {p : Nat → α → Prop} (h : ∀ i, i < n → ∃ x, p i x) : ∃ xs : List α, xs.length = n ∧ ∀ i x, xs[i]? = some x → p i x := by
  induction n with
  | zero => exact ⟨[], rfl, fun i x h => by simp at h⟩
  | succ n ih =>
    obtain ⟨xs, hl, hx⟩ := ih (fun i hi => h i (by omega))
    obtain ⟨y, hy⟩ := h n (by omega)
    refine ⟨xs ++ [y], by simp [hl], fun i x hi => ?_⟩
    rcases Nat.lt_or_ge i xs.length with hlt | hge
    · rw [List.getElem?_append_left hlt] at hi
      exact hx i x hi
    · rw [List.getElem?_append_right hge] at hi
      have h0 : i - xs.length = 0 := by
        rcases Nat.eq_zero_or_pos (i - xs.length) with h | h
        · exact h
        · rw [List.getElem?_eq_none (by simp; omega)] at hi; cases hi
      rw [h0] at hi
      obtain rfl : y = x := by simpa using hi
      obtain rfl : i = n := by omega
      exact hy

theorem cells_of {w : World} {base : Nat} {a : Addr} {n : Nat} {cs : List Value} (h : w.cells? base a n = some cs) : cs.length = n ∧ ∀ i u, cs[i]? = some u → w.cell? (a.add i) = some u := by
  obtain ⟨_, hl, hc⟩ := World.cells?_some h
  refine ⟨hl, fun i u hu => ?_⟩
  have hi : i < n := by
    have := (List.getElem?_eq_some_iff.1 hu).1
    omega
  rw [hc i hi]
  exact hu

theorem opens_slice {P : Program} {t e : TypeId} {α : Type} {d : Kd α} {wf : α → Prop} (ht : P.underlying t = some (.slice e)) (hc : P.cellsOf t = 1) (he : Opens P e d wf) :
    Opens P t (Kd.slice e d) (fun xs => ∀ x ∈ xs, wf x) := by
  refine ⟨hc.symm, fun H enc w base spare held fuel cs x h => ?_⟩
  rcases DataW.trod_slice ht h with ⟨rfl, rfl⟩ | ⟨a, len, cap, elems, rest, n, _, rfl, rfl, hb, hl, hm, hlen, hel, hsp, hns⟩
  · exact ⟨[], ⟨none, 0, rfl, Nat.le_refl _, rfl, by simp, fun h => absurd h (Nat.lt_irrefl _)⟩, by simp⟩
  · obtain ⟨xs, hxl, hx⟩ := list_of (n := len) (p := fun i (x : α) => (∃ c, c.length = d.sz ∧ d.K w x c ∧ ∀ j u, c[j]? = some u → w.cell? (a.add (i * d.sz + j)) = some u) ∧ wf x) (fun i hi => by
      have h1 := hel i hi
      rw [List.getElem?_eq_getElem (by omega)] at h1
      obtain ⟨c, hc1, hc2⟩ := Option.bind_eq_some_iff.1 h1
      obtain ⟨y, hy, hw⟩ := he.2 H enc w base spare held n c _ hc2
      obtain ⟨hcl, hcc⟩ := cells_of hc1
      refine ⟨y, ⟨c, by rw [hcl, he.1], hy, fun j u hu => ?_⟩, hw⟩
      rw [← Go.Deep.add_add, he.1]
      exact hcc j u hu)
    subst hxl
    refine ⟨xs, ⟨some a, cap, rfl, hl, rfl, by simp only [maxLen] at hm; omega, fun _ => ⟨a, rfl, fun j p hp => (hx j p hp).1⟩⟩, fun x hx' => ?_⟩
    obtain ⟨i, hi⟩ := List.mem_iff_getElem?.1 hx'
    exact (hx i x hi).2

/-! Structs and arrays: a row of parts, each with its type and its offset. -/
def OpensF (P : Program) (fs : List (TypeId × Nat)) (off : Nat) {α : Type} (d : Kd α) (wf : α → Prop) : Prop :=
  ∀ (H : Type) (enc : TypeId × Value → H) (w : World) (base : Nat) (spare : Nat → Bool) (held : Bool) (fuel : Nat) (cs : List Value) (xs : List (DataW H × List MemPlace)),
    xs.length = fs.length → (∀ (i : Nat) t o, fs[i]? = some (t, o) → DataW.trod enc P w base spare held fuel t ((cs.drop o).take (P.cellsOf t)) = xs[i]?) → cs.length = off + d.sz →
    ∃ a : α, d.K w a (cs.drop off) ∧ wf a

theorem opensF_one {P : Program} {t off : Nat} {α : Type} {d : Kd α} {wf : α → Prop} (h : Opens P t d wf) : OpensF P [(t, off)] off d wf := by
  intro H enc w base spare held fuel cs xs hl hx hcs
  have h0 := hx 0 t off rfl
  rw [List.getElem?_eq_getElem (by rw [hl]; simp)] at h0
  obtain ⟨a, ha, hw⟩ := h.2 H enc w base spare held fuel _ _ h0
  refine ⟨a, ?_, hw⟩
  rwa [List.take_of_length_le (by rw [List.length_drop, ← h.1]; omega)] at ha

theorem opensF_cons {P : Program} {t off off2 : Nat} {fs : List (TypeId × Nat)} {α β : Type} {d : Kd α} {d2 : Kd β} {wf : α → Prop} {wf2 : β → Prop} (h : Opens P t d wf) (ho : off2 = off + d.sz)
    (hr : OpensF P fs off2 d2 wf2) : OpensF P ((t, off) :: fs) off (Kd.pair d d2) (fun x => wf x.1 ∧ wf2 x.2) := by
  intro H enc w base spare held fuel cs xs hl hx hcs
  have h0 := hx 0 t off rfl
  cases xs with
  | nil => simp at hl
  | cons x0 xs =>
    obtain ⟨a, ha, hw⟩ := h.2 H enc w base spare held fuel _ _ h0
    have hcs' : cs.length = off + (d.sz + d2.sz) := hcs
    obtain ⟨b, hb, hw2⟩ := hr H enc w base spare held fuel cs xs (by simpa using hl) (fun i t o hi => by simpa using hx (i + 1) t o (by simpa using hi)) (by omega)
    refine ⟨(a, b), ⟨_, _, ?_, ha, hb⟩, hw, hw2⟩
    rw [← h.1, ho, ← List.drop_drop, List.take_append_drop]

theorem opens_struct {P : Program} {t : TypeId} {fs : Array Field} {α : Type} {d : Kd α} {wf : α → Prop} (ht : P.underlying t = some (.struct fs)) (hc : P.cellsOf t = d.sz)
    (h : OpensF P (fs.toList.map fun f => (f.type, f.offset)) 0 d wf) : Opens P t d wf := by
  refine ⟨hc.symm, fun H enc w base spare held fuel cs x h' => ?_⟩
  obtain ⟨xs, n, rfl, rfl, hl, hxl, hx⟩ := DataW.trod_struct ht h'
  obtain ⟨a, ha, hw⟩ := h H enc w base spare held n cs xs (by simpa using hxl) (fun i t o hi => by
    simp only [List.getElem?_map, Option.map_eq_some_iff] at hi
    obtain ⟨f, hf, he⟩ := hi
    simp only [Prod.mk.injEq] at he
    obtain ⟨rfl, rfl⟩ := he
    exact hx i f (by simpa using hf)) (by omega)
  exact ⟨a, by simpa using ha, hw⟩

theorem opens_array {P : Program} {t e n : Nat} {α : Type} {d : Kd α} {wf : α → Prop} (ht : P.underlying t = some (.array n e)) (hc : P.cellsOf t = d.sz)
    (h : OpensF P ((List.range n).map fun i => (e, i * P.cellsOf e)) 0 d wf) : Opens P t d wf := by
  refine ⟨hc.symm, fun H enc w base spare held fuel cs x h' => ?_⟩
  obtain ⟨xs, m, rfl, rfl, hl, hxl, hx⟩ := DataW.trod_array ht h'
  obtain ⟨a, ha, hw⟩ := h H enc w base spare held m cs xs (by simpa using hxl) (fun i t o hi => by
    simp only [List.getElem?_map, Option.map_eq_some_iff] at hi
    obtain ⟨j, hj, he⟩ := hi
    simp only [Prod.mk.injEq] at he
    obtain ⟨rfl, rfl⟩ := he
    obtain ⟨hj1, hj2⟩ := List.getElem?_eq_some_iff.1 hj
    simp only [List.getElem_range] at hj2
    subst hj2
    exact hx i (by simpa using hj1)) (by omega)
  exact ⟨a, by simpa using ha, hw⟩

/-- The kind may be told in other words: f one way, g back. -/
theorem opens_iso {P : Program} {t : TypeId} {α β : Type} {d : Kd α} {wf : α → Prop} (f : β → α) (g : α → β) (hfg : ∀ a, f (g a) = a) (h : Opens P t d wf) : Opens P t (Kd.iso d f) (fun b => wf (f b)) := by
  refine ⟨h.1, fun H enc w base spare held fuel cs x h' => ?_⟩
  obtain ⟨a, ha, hw⟩ := h.2 H enc w base spare held fuel cs x h'
  exact ⟨g a, by show d.K w (f (g a)) cs; rw [hfg]; exact ha, by show wf (f (g a)); rw [hfg]; exact hw⟩

theorem opens_weaken {P : Program} {t : TypeId} {α : Type} {d : Kd α} {wf wf' : α → Prop} (h : Opens P t d wf) (hw : ∀ a, wf a → wf' a) : Opens P t d wf' :=
  ⟨h.1, fun H enc w base spare held fuel cs x h' => by obtain ⟨a, ha, hwa⟩ := h.2 H enc w base spare held fuel cs x h'; exact ⟨a, ha, hw a hwa⟩⟩

/-! What a whole argument is. -/
theorem arg_one {P : Program} {w w0 : World} {r : Reach} {b0 base : Nat} {spare : Nat → Bool} {held : Bool} {t : TypeId} {v : Value} {H : Type} {enc : TypeId × Value → H} {D : DataW H} {ps : List MemPlace} {α : Type} {d : Kd α} {wf : α → Prop}
    (ho : Opens P t d wf) (hk : ∀ cs, v ≠ .agg cs) (h : DataW.Trod enc P w base spare held t v D ps) : ∃ a : α, d.K w a [v] ∧ wf a := by
  obtain ⟨fuel, h⟩ := h
  have hv : v.cells.toList = [v] := by
    cases v with
    | agg cs => exact absurd rfl (hk cs)
    | _ => rfl
  rw [hv] at h
  exact ho.2 H enc w base spare held fuel _ _ h

theorem arg_agg {P : Program} {w : World} {base : Nat} {spare : Nat → Bool} {held : Bool} {t : TypeId} {cs : Array Value} {H : Type} {enc : TypeId × Value → H} {D : DataW H} {ps : List MemPlace} {α : Type} {d : Kd α} {wf : α → Prop}
    (ho : Opens P t d wf) (h : DataW.Trod enc P w base spare held t (.agg cs) D ps) : ∃ a : α, d.K w a cs.toList ∧ wf a := by
  obtain ⟨fuel, h⟩ := h
  exact ho.2 H enc w base spare held fuel _ _ h

theorem okWide_agg {P : Program} {w : World} {r : Reach} {base : Nat} {t : TypeId} {v : Value} {fs : Array Field} (ht : P.underlying t = some (.struct fs)) (h : Value.okWide P w r base t v) : ∃ cs, v = .agg cs := by
  unfold Value.okWide at h
  rw [ht] at h
  obtain ⟨cs, e, _⟩ := h
  exact ⟨cs, e⟩
theorem okWide_agg_array {P : Program} {w : World} {r : Reach} {base : Nat} {t e n : Nat} {v : Value} (ht : P.underlying t = some (.array n e)) (h : Value.okWide P w r base t v) : ∃ cs, v = .agg cs := by
  unfold Value.okWide at h
  rw [ht] at h
  obtain ⟨cs, e, _⟩ := h
  exact ⟨cs, e⟩
end Go.Proofs.YtponjobacdimeaaGreat.Opens
