/- mem: New, Words: what each comes to. -/
import Derived.Test.YtponjobacdimeaaGreatB2
import Derived.RegionTactic
namespace Go.Proofs.YtponjobacdimeaaGreat.Core
open Go.RowKit Go.Proofs.YtponjobacdimeaaGreatW.PrintWords Go.Proofs.YtponjobacdimeaaGreat.PBoundLeast Go.Proofs.YtponjobacdimeaaGreat
set_option linter.unusedVariables false
set_option linter.unusedSimpArgs false
/-- A memory of n words. -/
structure MemAt (B b g1 g2 n : Nat) (W : World) : Prop where
  hB : B ≤ b ∧ B ≤ g1 ∧ B ≤ g2
  blk : W.heap[b]? = some (.cells #[.slice (some ⟨g1, 0, none⟩) n n, .slice (some ⟨g2, 0, none⟩) n n, .int .i64 0] 89 (0, 0))
  ws : ∃ cs : Array Value, W.heap[g1]? = some (.cells cs 2 (0, 0)) ∧ n ≤ cs.size
  ls : ∃ bs : List Bool, W.heap[g2]? = some (.cells (bs.map Value.bool).toArray 4 (0, 0)) ∧ n = bs.length
theorem info2 : (Tryz.prog.info? 2).map (fun i => (i.zero, i.size, i.bytes)) = some (some (.int .i64 0), 1, 8) := by kernel_rfl
theorem info4 : (Tryz.prog.info? 4).map (fun i => (i.zero, i.size, i.bytes)) = some (some (.bool false), 1, 1) := by kernel_rfl
theorem made_bools (n : Nat) : madeCells #[.bool false] n = ((List.replicate n false).map Value.bool).toArray := by
  apply Array.ext
  · simp [madeCells]
  · intro i h1 h2
    simp [madeCells, Nat.mod_one]
theorem heap3 (w : World) (o0 o1 o2 : Obj) : (((w.alloc o0).alloc o1).alloc o2).drew.heap[w.heap.size]? = some o0 ∧ (((w.alloc o0).alloc o1).alloc o2).drew.heap[w.heap.size + 1]? = some o1 ∧ (((w.alloc o0).alloc o1).alloc o2).drew.heap[w.heap.size + 1 + 1]? = some o2 ∧ Below w.heap.size w (((w.alloc o0).alloc o1).alloc o2).drew := by
  have h1 := heap_alloc_new (w.alloc o0) o1
  have h2 := heap_alloc_new ((w.alloc o0).alloc o1) o2
  simp only [World.size_alloc] at h1 h2
  refine ⟨?_, ?_, h2, below_drew ((((Below.refl _ _).alloc (Nat.le_refl _) _).alloc (by simp) _).alloc (by simp; omega) _)⟩
  · exact (Below.heap_alloc _ _ _ (by simp; omega)).trans ((Below.heap_alloc _ _ _ (by simp)).trans (heap_alloc_new w o0))
  · exact (Below.heap_alloc _ _ _ (by simp)).trans h1
/-- What mem.New answers. -/
def GivesM (w : World) (n : Nat) (e : Ending) (w' : World) : Prop := ∃ b g1 g2, e = .returned (.tuple #[.pointer (some ⟨b, 0, none⟩), .int .i64 0]) ∧ MemAt w.heap.size b g1 g2 n w' ∧ Below w.heap.size w w'
set_option maxRecDepth 100000 in
set_option maxHeartbeats 4000000 in
theorem mnew_any (n : Nat) (hn : n ≤ 65536) (w : World) : Calls Tryz.prog 20 #[.int .i64 (n : Int)] w (GivesM w n) := by
  have g0 : decide ((n : Int) < 0) = false := decide_eq_false (by omega)
  have g1 : decide ((n : Int) > 65536) = false := decide_eq_false (by omega)
  have m1 := print_make_of (P := Tryz.prog) 82 2 (.int .i64 0) 8 Tryz.underlying82 info2 rfl (by decide) n (by omega)
  have m2 := print_make_of (P := Tryz.prog) 87 4 (.bool false) 1 Tryz.underlying87 info4 rfl (by decide) n (by omega)
  clear hn
  go_enter Tryz.func20, Tryz.ntmps20
  go_wp2_with fail
  go_region
  all_goals go_wp2_with fail
  · go_ret2
    obtain ⟨h0, h1, h2, hb⟩ := heap3 w (.cells (madeCells #[.int .i64 0] n) 2) (.cells (madeCells #[.bool false] n) 4) (.cells #[.slice (some ⟨w.heap.size, 0, none⟩) n n, .slice (some ⟨w.heap.size + 1, 0, none⟩) n n, .int .i64 0] 89)
    exact ⟨w.heap.size + 1 + 1, w.heap.size, w.heap.size + 1, rfl, ⟨⟨by omega, Nat.le_refl _, by omega⟩, h2, ⟨_, h0, by rw [size_madeCells]; exact Nat.le_refl _⟩, ⟨_, by rw [← made_bools]; exact h1, by simp⟩⟩, hb⟩
  · go_ret2
    obtain ⟨h0, h1, h2, hb⟩ := heap3 w (.cells (madeCells #[.bool false] n) 4) (.cells (madeCells #[.int .i64 0] n) 2) (.cells #[.slice (some ⟨w.heap.size + 1, 0, none⟩) n n, .slice (some ⟨w.heap.size, 0, none⟩) n n, .int .i64 0] 89)
    exact ⟨w.heap.size + 1 + 1, w.heap.size + 1, w.heap.size, rfl, ⟨⟨by omega, by omega, Nat.le_refl _⟩, h2, ⟨_, h1, by rw [size_madeCells]; exact Nat.le_refl _⟩, ⟨_, by rw [← made_bools]; exact h0, by simp⟩⟩, hb⟩
end Go.Proofs.YtponjobacdimeaaGreat.Core
