/- The reader: bytes. -/
import Derived.Test.YthnefjkpjhfkgaaC6
namespace Go.Proofs.Ythnefjkpjhfkgaa.Core
open Go.RowKit Go.Proofs.YthnefjkpjhfkgaaW.PrintWords Go.Proofs.YthnefjkpjhfkgaaW.PrintMore Go.Proofs.Ythnefjkpjhfkgaa.PScriptWrites
set_option linter.unusedVariables false
set_option linter.unusedSimpArgs false
/-- A reader at block g, with rs before it; the bytes lie in w0, before which g did not lie. -/
def Rd (w0 W : World) (g : Nat) (rs : List Int) : Prop :=
  ∃ A c, W.heap[g]? = some (.cells #[.slice A rs.length c] 52 (0, 0)) ∧ rs.length ≤ c ∧ (Kd.int .u8).C w0 A rs.length rs ∧ Below w0.heap.size w0 W ∧ w0.heap.size ≤ g
theorem grown_refl (W : World) (r : Option Nat) : W.grownBy W r := ⟨rfl, rfl, rfl, Nat.le_refl _, fun _ _ _ => rfl⟩
theorem grown_trans {W W1 W2 : World} {r : Option Nat} (h : W.grownBy W1 r) (k : W1.grownBy W2 r) : W.grownBy W2 r :=
  ⟨k.os.trans h.os, k.tape.trans h.tape, k.output.trans h.output, Nat.le_trans h.size k.size, fun i hi hr => (k.block i (Nat.lt_of_lt_of_le hi h.size) hr).trans (h.block i hi hr)⟩
theorem grown_none {W W1 : World} (h : W.grownBy W1 none) (r : Option Nat) : W.grownBy W1 r := ⟨h.os, h.tape, h.output, h.size, fun i hi _ => h.block i hi (by simp)⟩
theorem grown_fresh {W W1 W2 : World} {r : Option Nat} {h : Nat} (k : W.grownBy W1 r) (l : W1.grownBy W2 (some h)) (hh : W.heap.size ≤ h) : W.grownBy W2 r :=
  ⟨l.os.trans k.os, l.tape.trans k.tape, l.output.trans k.output, Nat.le_trans k.size l.size, fun i hi hr => (l.block i (Nat.lt_of_lt_of_le hi k.size) (by intro e; injection e with e; omega)).trans (k.block i hi hr)⟩
theorem Rd.lt {w0 W : World} {g : Nat} {rs : List Int} (h : Rd w0 W g rs) : g < W.heap.size := by
  obtain ⟨A, c, h1, _⟩ := h
  exact blk_lt h1
theorem Rd.ge {w0 W : World} {g : Nat} {rs : List Int} (h : Rd w0 W g rs) : w0.heap.size ≤ g := by
  obtain ⟨A, c, _, _, _, _, h⟩ := h
  exact h
theorem Rd.below {w0 W : World} {g : Nat} {rs : List Int} (h : Rd w0 W g rs) : Below w0.heap.size w0 W := by
  obtain ⟨A, c, _, _, _, h, _⟩ := h
  exact h
theorem Rd.keep {w0 W W1 : World} {g : Nat} {rs : List Int} {r : Option Nat} (h : Rd w0 W g rs) (hk : W.grownBy W1 r) (hr : ∀ k, r = some k → k ≠ g ∧ w0.heap.size ≤ k) : Rd w0 W1 g rs := by
  obtain ⟨A, c, h1, h2, h3, h4, h5⟩ := h
  exact ⟨A, c, blk_grown h1 hk (fun e => (hr g e.symm).1 rfl), h2, h3, h4.grown hk h4.size (fun k e => (hr k e).2), h5⟩
theorem Rd.keep0 {w0 W W1 : World} {g : Nat} {rs : List Int} (h : Rd w0 W g rs) (hk : W.grownBy W1 none) : Rd w0 W1 g rs := h.keep hk (fun k e => by cases e)

set_option maxHeartbeats 1000000 in
theorem bytes_ok (w0 W : World) (g : Nat) (rs : List Int) (n : Int) (h0 : 0 ≤ n) (hn : n ≤ rs.length) (h : Rd w0 W g rs) :
    Calls Try.prog 27 #[.pointer (some ⟨g, 0, none⟩), .int .i64 n] W fun e w' => ∃ A c, e = .returned (.slice A (rs.take n.toNat).length c) ∧ (rs.take n.toNat).length ≤ c ∧ (Kd.int .u8).C w0 A (rs.take n.toNat).length (rs.take n.toNat) ∧ Rd w0 w' g (rs.drop n.toNat) ∧ W.grownBy w' (some g) := by
  obtain ⟨A, c, hb, hc, hf, hbel, hge⟩ := h
  have hg : W.cell? ⟨g, 0, none⟩ = some (.slice A rs.length c) := blk_cell hb 0
  have hfr : W.frozen? ⟨g, 0, none⟩ = false := blk_frozen hb 0
  obtain ⟨i5, hi5, hs5⟩ : ∃ i, Try.prog.info? 5 = some i ∧ i.size = 1 := by
    have := info5
    rcases hq : Try.prog.info? 5 with _ | i
    · rw [hq] at this; cases this
    · rw [hq] at this
      simp only [Option.map_some, Option.some.injEq, Prod.mk.injEq] at this
      exact ⟨i, rfl, this.2.1⟩
  obtain ⟨A', hd1, hd2⟩ := print_cut (P := Try.prog) 24 5 .i64 Try.underlying24 hi5 hs5 A rs.length c n.toNat (by omega)
  have ht1 := cut_to (P := Try.prog) 24 5 .i64 Try.underlying24 hi5 A rs.length c n h0 hn hc
  rw [Int.toNat_of_nonneg h0] at hd1
  have hle : (decide (n ≤ (rs.length : Int))) = true := by simpa using hn
  have HB := Lib.hid hb
  have HF := Lib.hid hf
  have H2 := Lib.hid hd2
  have HC := Lib.hid hc
  have HN := Lib.hid hn
  have H0 := Lib.hid h0
  have HBE := Lib.hid hbel
  have HGE := Lib.hid hge
  clear hb hf hd2 hc h0 hi5 hs5 hbel hge
  go_enter Try.func27, Try.ntmps27
  go_wp2_with fail
  refine (need_ok 2 W).mono ?_
  rintro e w1 ⟨rfl, rfl⟩
  go_wp2
  go_ret
  have hg1 : W.grownBy (W.setCell ⟨g, 0, none⟩ (.slice A' (rs.length - n.toNat) (c - n.toNat))) (some g) := ⟨rfl, rfl, rfl, by simp [World.setCell], fun k hk hne => Below.heap_setCell W ⟨g, 0, none⟩ _ k (fun e => hne (by rw [e]))⟩
  have hl1 : (rs.take n.toNat).length = n.toNat := by rw [List.length_take]; have := HN.out; omega
  have hl2 : (rs.drop n.toNat).length = rs.length - n.toNat := List.length_drop
  refine ⟨A, c, by rw [hl1]; rfl, by rw [hl1]; have := HN.out; have := HC.out; omega, ?_, ?_, hg1⟩
  · exact Kd.C_take HF.out (by have := HN.out; omega)
  · refine ⟨A', c - n.toNat, ?_, by rw [hl2]; have := HC.out; omega, ?_, HBE.out.grown hg1 HBE.out.size (fun k e => by injection e with e; have := HGE.out; omega), HGE.out⟩
    · rw [hl2]; exact Go.Proofs.YthnefjkpjhfkgaaW.PrintWords.blk_set HB.out 0 _
    · have hr := H2.out w0 .u8 rs HC.out (Kd.reads_of_C (enc := Value.int .u8) (d := (0 : Int)) (h1 := fun _ => rfl) HF.out)
      rw [← hl2] at hr
      exact Kd.C_of_reads (enc := Value.int .u8) (d := (0 : Int)) (h1 := fun _ => rfl) hr
set_option maxHeartbeats 1000000 in
theorem bytes_no (w0 W : World) (g : Nat) (rs : List Int) (n : Int) (hn : rs.length < n) (h : Rd w0 W g rs) :
    Calls Try.prog 27 #[.pointer (some ⟨g, 0, none⟩), .int .i64 n] W fun e w' => e = .panicked (chain 2) ∧ w' = W := by
  obtain ⟨A, c, hb, hc, hf, hbel, hge⟩ := h
  have hg : W.cell? ⟨g, 0, none⟩ = some (.slice A rs.length c) := blk_cell hb 0
  have hfr : W.frozen? ⟨g, 0, none⟩ = false := blk_frozen hb 0
  have hle : (decide (n ≤ (rs.length : Int))) = false := by simpa using hn
  clear hb hf hc hn hbel hge
  go_enter Try.func27, Try.ntmps27
  go_wp2_with fail
  refine (need_no 2 W).mono ?_
  rintro e w1 ⟨rfl, rfl⟩
  go_wp2
  exact ⟨rfl, rfl, rfl⟩
end Go.Proofs.Ythnefjkpjhfkgaa.Core
