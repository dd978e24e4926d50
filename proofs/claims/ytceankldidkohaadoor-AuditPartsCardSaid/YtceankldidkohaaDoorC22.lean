/- What the walks of this chapter share. -/
import Derived.Test.YtceankldidkohaaDoorC21
import Derived.Test.YtceankldidkohaaDoorC6
import Derived.LaidSub
namespace Go.Proofs.YtceankldidkohaaDoor.Core
open Go.RowKit Go.Proofs.YtceankldidkohaaDoorW.PrintWords Go.Proofs.YtceankldidkohaaDoorW.PrintMore Go.Proofs.YtceankldidkohaaDoor.PAuditTwice Go.Proofs.YtceankldidkohaaDoor
set_option linter.unusedVariables false
set_option linter.unusedSimpArgs false
theorem heap29 : Kd.Heap k29 := Kd.heap_iso _ (Kd.heap_pair (Kd.heap_int _) (Kd.heap_pair (Kd.heap_int _) (Kd.heap_slice 3 (Kd.heap_int _))))
theorem V_of_C {w : World} {A : Option Addr} {c : Nat} {l : List S29} (h : Kd.C k29 w A l.length l) (hc : l.length ≤ c) (base : Nat) : Kd.V k29 29 w base (fun _ => True) (.slice A l.length c) l :=
  Kd.V_mk hc (fun W' hW => Kd.Heap.C heap29 (fun k hk => hW k trivial hk) h)
theorem at_F28 {w : World} {ok : Nat → Prop} {A : Option Addr} {n : Nat} {xs : List S28} (h : Kd.F k28 w ok A n xs) (i : Int) (h0 : 0 ≤ i) (h1 : i < n) : ∃ ad A2 c2, A = some ad ∧ w.cell? (ad.add (i.toNat * 3)) = some (.int .i64 (rd_T28 xs i).f0) ∧ w.cell? ⟨(ad.add (i.toNat * 3)).block, (ad.add (i.toNat * 3)).off + 1, none⟩ = some (.int .i64 (rd_T28 xs i).f1) ∧ w.cell? ⟨(ad.add (i.toNat * 3)).block, (ad.add (i.toNat * 3)).off + 2, none⟩ = some (.slice A2 (rd_T28 xs i).f2.length c2) ∧ (rd_T28 xs i).f2.length ≤ c2 ∧ Kd.FK k28 w ok (rd_T28 xs i) [.int .i64 (rd_T28 xs i).f0, .int .i64 (rd_T28 xs i).f1, .slice A2 (rd_T28 xs i).f2.length c2] := by
  obtain ⟨ad, c, e, _, hK, hc0, _⟩ := Kd.F_get h z28 i h0 h1
  have hc : ∀ j u, c[j]? = some u → w.cell? (ad.add (i.toNat * 3 + j)) = some u := hc0
  obtain ⟨A2, c2, rfl, l2, g2⟩ := k28_openF hK
  exact ⟨ad, A2, c2, e, hc 0 _ rfl, by rw [← add_field _ _ 1 (by omega)]; exact hc 1 _ rfl, by rw [← add_field _ _ 2 (by omega)]; exact hc 2 _ rfl, l2, hK⟩
theorem rd28 {l : List S28} {j : Nat} (hj : j < l.length) : rd_T28 l j = l[j] := by simp [rd_T28, List.getD, List.getElem?_eq_getElem hj]
theorem in64_of {x : Int} (h : (Lit.int .i64 x).wf = true) : In64 x := by
  simp [Lit.wf, IntKind.min, IntKind.max, IntKind.bits, IntKind.signed] at h
  exact ⟨by omega, by omega⟩
theorem lit2_of {l : List S29} (h : lit2 l = true) : l.length ≤ 1000 ∧ ∀ e ∈ l, e.f2.length ≤ 1000 := by
  unfold lit2 at h
  simp only [Bool.and_eq_true, decide_eq_true_eq, List.all_eq_true] at h
  exact ⟨by omega, fun e he => by have := h.2 e he; omega⟩
theorem ev_of {l : List S29} (h : ∀ e ∈ l, (Lit.int .i64 e.f0).wf = true ∧ (Lit.int .i64 e.f1).wf = true ∧ (∀ z ∈ e.f2, (Lit.int .i64 z).wf = true)) (hp : ∀ e ∈ l, e.f2.length ≤ 1000) : ∀ e ∈ l.map cvE, Ev e := by
  intro e he
  obtain ⟨x, hx, rfl⟩ := List.mem_map.1 he
  obtain ⟨h0, h1, h2⟩ := h x hx
  exact ⟨in64_of h0, in64_of h1, fun z hz => in64_of (h2 z hz), hp x hx⟩
end Go.Proofs.YtceankldidkohaaDoor.Core
