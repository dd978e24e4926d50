/- A row that is built by appends while another act of the region makes one element's row aside. -/
import Derived.Test.YtceankldidkohaaDoorWNEv
import Derived.Test.YtceankldidkohaaDoorRegion
namespace Go.Proofs.YtceankldidkohaaDoor.Reg
open Go.RowKit Go.Proofs.YtceankldidkohaaDoorW.PrintWords
set_option linter.unusedVariables false
set_option linter.unusedSimpArgs false
variable {α : Type} {d : Kd α} {e : Nat} {W0 w w1 : World} {b : Bool} {fl v v1 : Value} {xs ys : List α} {y : α}
structure Rw (d : Kd α) (e : Nat) (W0 w : World) (b : Bool) (fl v : Value) (xs : List α) (y : α) : Prop where
  below : Below W0.heap.size W0 w
  row : Kd.N d e w W0.heap.size (fun q => b = true → fl.ownBlock ≠ some q) v xs
  flo : b = true → ∃ g c, fl = .slice (some ⟨g, 0, none⟩) 1 c ∧ W0.heap.size ≤ g ∧ g < w.heap.size ∧ Kd.F d w (fun q => q < W0.heap.size ∨ q = g) (some ⟨g, 0, none⟩) 1 [y]
theorem Rw.start (h : Below W0.heap.size W0 w) (fl : Value) (y : α) : Rw d e W0 w false fl (.slice none 0 0) [] y := ⟨h, Kd.N_nil _ _ _ _ _, fun h => by cases h⟩
theorem Rw.free {fl' : Value} (h : Rw d e W0 w b fl v xs y) (hf : b = true → fl = fl') : Rw d e W0 w b fl' v xs y := by
  cases b with
  | true => rw [← hf rfl]; exact h
  | false => exact ⟨h.below, Kd.N_mono h.row (fun _ _ h => by cases h), fun h => by cases h⟩
theorem Rw.grown (h : Rw d e W0 w b fl v xs y) (hN : Kd.N d e w1 W0.heap.size (fun q => b = true → fl.ownBlock ≠ some q) v1 ys) (hB : Below W0.heap.size W0 w1) (hg : w.grownBy w1 v.ownBlock) (hs : w.heap.size ≤ w1.heap.size) : Rw d e W0 w1 b fl v1 ys y := by
  refine ⟨hB, hN, fun hb => ?_⟩
  obtain ⟨g, c, rfl, h1, h2, h3⟩ := h.flo hb
  refine ⟨g, c, rfl, h1, by omega, Kd.F_grown h3 hg (fun k hk he => ?_)⟩
  have e1 := Kd.N_base h.row k he.symm
  rcases hk with hk | rfl
  · omega
  · exact h.row.1 k he.symm hb rfl
theorem Rw.made {g c : Nat} (h : Rw d e W0 w false fl v xs y) (hN : Kd.N d e w1 W0.heap.size (fun q => q < W0.heap.size ∨ q = w.heap.size) v1 [y]) (hg : w.grownBy w1 none) (hs : w.heap.size ≤ w1.heap.size) (hB : Below W0.heap.size W0 w1) (hat : ∃ b, v1.ownBlock = some b ∧ w.heap.size ≤ b) :
    Rw d e W0 w1 true v1 v xs y := by
  obtain ⟨g, cap, rfl, h1, h2, _⟩ := Kd.N_form hN (by simp)
  obtain ⟨b, hb, hle⟩ := hat
  have hgb : g = b := by simpa [Value.ownBlock] using hb
  subst hgb
  have hgw : g = w.heap.size := by
    rcases hN.1 g hb with h | h
    · omega
    · exact h
  refine ⟨hB, ?_, fun _ => ⟨g, cap, rfl, h1, h2, ?_⟩⟩
  · refine Kd.N_mono (Kd.N_grown (Kd.N_bound h.row) hg (fun _ _ => by simp)) (fun k hk _ he => ?_)
    have : g = k := by simpa [Value.ownBlock] using he
    have := hk.2
    omega
  · exact Kd.F_mono (Kd.N_F hN) (fun k hk => by rw [hgw]; exact hk)
section
variable {P : Program} {ops : Array Oper} {o : Oper} {a : Act} {Q : Exit → Act → World → Prop} {Kc : Act → World → Prop}
theorem Rw.append (h : Rw d e W0 w b fl v xs y) (hw : Region.wanted o (yielded ops a.tmps) = true) (s x : Operand) (t : TypeId) (z : Value) (bytes : Nat)
    (ho : o.op = .call { callee := .builtin .append, args := #[s, x], argTypes := #[t, t] })
    (ht : P.underlying t = some (.slice e)) (hinfo : (P.info? e).map (fun i => (i.zero, i.size, i.bytes)) = some (some z, d.sz, bytes)) (hz : z.cells.size = d.sz) (hs0 : 0 < d.sz) (hb0 : 0 < bytes)
    {A : Option Addr} {m c : Nat} (hs : a.eval s = v) (hx : a.eval x = .slice A m c) (HR : Kd.F d W0 (fun q => q < W0.heap.size) A m ys) (hl : (xs.length + m) * bytes ≤ 140737488355328)
    (hc : ∀ v1 w1, Rw d e W0 w1 b fl v1 (xs ++ ys) y → Kc (a.put o.dst v1) w1) :
    if Region.wanted o (yielded ops a.tmps) = true then Oper.wp P o a w Kc Q else Kc (a.put o.dst undef) w := by
  refine Kd.N_append_rows_step d W0.heap.size hw s x t e z bytes ho ht hinfo hz hs0 hb0 v xs ys A m c _ (fun q => q < W0.heap.size) hs hx h.row (Kd.F_below HR h.below) (fun k hk => ⟨fun hb he => ?_, fun he => ?_⟩) (fun k hk hb he => ?_) h.below h.below.size hl ?_
  · obtain ⟨g, c, rfl, h1, h2, _⟩ := h.flo hb
    have : g = k := by simpa [Value.ownBlock] using he
    omega
  · have := Kd.N_base h.row k he.symm
    omega
  · obtain ⟨g, c, rfl, h1, h2, _⟩ := h.flo hb
    have : g = k := by simpa [Value.ownBlock] using he
    omega
  · intro v1 w1 hN hB hg hat
    exact hc v1 w1 (h.grown hN hB hg hg.size)
/-- The element that was made aside. -/
theorem Rw.take (h : Rw d e W0 w true fl v xs y) (hw : Region.wanted o (yielded ops a.tmps) = true) (s x : Operand) (t : TypeId) (z : Value) (bytes : Nat)
    (ho : o.op = .call { callee := .builtin .append, args := #[s, x], argTypes := #[t, t] })
    (ht : P.underlying t = some (.slice e)) (hinfo : (P.info? e).map (fun i => (i.zero, i.size, i.bytes)) = some (some z, d.sz, bytes)) (hz : z.cells.size = d.sz) (hs0 : 0 < d.sz) (hb0 : 0 < bytes)
    (hs : a.eval s = v) (hx : a.eval x = fl) (hl : (xs.length + 1) * bytes ≤ 140737488355328)
    (hc : ∀ v1 w1, Rw d e W0 w1 false undef v1 (xs ++ [y]) y → Kc (a.put o.dst v1) w1) :
    if Region.wanted o (yielded ops a.tmps) = true then Oper.wp P o a w Kc Q else Kc (a.put o.dst undef) w := by
  obtain ⟨g, c, rfl, h1, h2, h3⟩ := h.flo rfl
  refine Kd.N_append_rows_step d W0.heap.size hw s x t e z bytes ho ht hinfo hz hs0 hb0 v xs [y] _ 1 c (fun _ => True) _ hs hx (Kd.N_mono h.row (fun _ _ => trivial)) h3 (fun k hk => ⟨trivial, fun he => ?_⟩) (fun k hk => trivial) h.below h.below.size hl ?_
  · have := Kd.N_base h.row k he.symm
    rcases hk with hk | rfl
    · omega
    · exact h.row.1 k he.symm rfl (by simp [Value.ownBlock])
  · intro v1 w1 hN hB hg hat
    exact hc v1 w1 ⟨hB, Kd.N_mono hN (fun _ _ h => by cases h), fun h => by cases h⟩
/-- An empty row is made. -/
theorem Rw.empty (h : Rw d e W0 w b fl (.slice none 0 0) [] y) (hw : Region.wanted o (yielded ops a.tmps) = true) {N' : Tmp} (hd : o.dst = some N')
    (hrun : (execOp a.eval o).run P w = .ok (.value (.slice (some ⟨w.heap.size, 0, none⟩) 0 0)) (w.alloc (.cells #[] e)))
    (hc : ∀ v1 w1, Rw d e W0 w1 b fl v1 [] y → Kc (a.put o.dst v1) w1) :
    if Region.wanted o (yielded ops a.tmps) = true then Oper.wp P o a w Kc Q else Kc (a.put o.dst undef) w := by
  refine Kd.N_lit_step d W0.heap.size e hw hd (xs := []) (inner := []) (ok := fun q => b = true → fl.ownBlock ≠ some q) (okp := fun _ => False) hrun ⟨by simp, fun j x hx => by simp at hx⟩ (fun _ hk => hk.elim) (fun hb he => ?_) h.below h.below.size (by simp) ?_
  · obtain ⟨g, c, rfl, h1, h2, _⟩ := h.flo hb
    have : g = w.heap.size := by simpa [Value.ownBlock] using he
    omega
  · intro v1 w1 hN hB hg hat
    exact hc v1 w1 (h.grown hN hB (by simpa [Value.ownBlock] using hg) hg.size)
/-- The element is made aside. -/
theorem Rw.aside (h : Rw d e W0 w false fl v xs y) (hw : Region.wanted o (yielded ops a.tmps) = true) {N' : Tmp} (hd : o.dst = some N') {cs : List Value}
    (hrun : (execOp a.eval o).run P w = .ok (.value (.slice (some ⟨w.heap.size, 0, none⟩) 1 1)) (w.alloc (.cells cs.toArray e)))
    (hcs : Kd.FK d W0 (fun q => q < W0.heap.size) y cs)
    (hc : ∀ v1 w1, Rw d e W0 w1 true v1 v xs y → Kc (a.put o.dst v1) w1) :
    if Region.wanted o (yielded ops a.tmps) = true then Oper.wp P o a w Kc Q else Kc (a.put o.dst undef) w := by
  have hcw := Kd.FK_below hcs h.below
  have hlen : cs.length = d.sz := d.K_len (Kd.FK_now hcw)
  refine Kd.N_lit_step d W0.heap.size e hw hd (xs := [y]) (inner := cs) (ok := fun q => q < W0.heap.size ∨ q = w.heap.size) (okp := fun q => q < W0.heap.size) hrun ⟨by simp [hlen], fun j x hx => ?_⟩ (fun _ hk => .inl hk) (.inr rfl) h.below h.below.size (by simp) ?_
  · cases j with
    | zero =>
      obtain rfl : y = x := by simpa using hx
      simpa [← hlen] using hcw
    | succ j => simp at hx
  · intro v1 w1 hN hB hg hat
    exact hc v1 w1 (h.made (g := 0) (c := 0) hN hg hg.size hB hat)
end
end Go.Proofs.YtceankldidkohaaDoor.Reg
