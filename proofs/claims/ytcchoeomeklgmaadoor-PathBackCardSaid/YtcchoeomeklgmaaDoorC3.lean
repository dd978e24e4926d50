/- awake: the chapter's example holds. -/
import Derived.Test.YtcchoeomeklgmaaDoorC2
namespace Go.Proofs.YtcchoeomeklgmaaDoor.Core
open Go.RowKit Go.Proofs.YtcchoeomeklgmaaDoorW.PrintWords Go.Proofs.YtcchoeomeklgmaaDoorW.PrintMore Go.Proofs.YtcchoeomeklgmaaDoor.P1
set_option linter.unusedVariables false
set_option linter.unusedSimpArgs false
theorem C_blk {W : World} {b : Nat} {xs : List Int} (hl : xs.length ≤ 1000000) (h : W.heap[b]? = some (.cells ((xs.map (Value.int .i64)).toArray) 3 (0, 0))) : (Kd.int .i64).C W (some ⟨b, 0, none⟩) xs.length xs := by
  refine Kd.C_of_reads (enc := Value.int .i64) (d := (0 : Int)) (h1 := fun _ => rfl) ⟨rfl, by omega, fun _ => ⟨_, rfl, fun j hj => ?_⟩⟩
  rw [add_plain]
  simp only [World.cell?, h]
  simp [List.getElem?_eq_getElem hj]
theorem blk_two (W : World) (o o2 : Obj) : ((W.alloc o).alloc o2).heap[W.heap.size]? = some o ∧ ((W.alloc o).alloc o2).heap[W.heap.size + 1]? = some o2 := by
  have h1 := heap_alloc_new W o
  have h2 := heap_alloc_new (W.alloc o) o2
  have hs : (W.alloc o).heap.size = W.heap.size + 1 := by simp
  rw [hs] at h2
  exact ⟨by rw [Below.heap_alloc _ _ _ (by rw [hs]; omega)]; exact h1, h2⟩
theorem below_two (W : World) (o o2 : Obj) : Below W.heap.size W ((W.alloc o).alloc o2) := ((Below.refl _ _).alloc (Nat.le_refl _) _).alloc (by simp) _
theorem Cmp_lit (a b : List Int) (W : World) (ha : a.length ≤ 1000000) (hb : b.length ≤ 1000000) :
    Calls Tryd.prog 25 #[.slice (some ⟨W.heap.size, 0, none⟩) a.length a.length, .slice (some ⟨W.heap.size + 1, 0, none⟩) b.length b.length] ((W.alloc (.cells ((a.map (Value.int .i64)).toArray) 3)).alloc (.cells ((b.map (Value.int .i64)).toArray) 3)) fun e w' => e = .returned (.int .i64 (cmpL a b)) ∧ Below W.heap.size W w' := by
  obtain ⟨h1, h2⟩ := blk_two W (.cells ((a.map (Value.int .i64)).toArray) 3) (.cells ((b.map (Value.int .i64)).toArray) 3)
  refine (Compare_any a b _ _ _ _ _ (C_blk ha h1) (Nat.le_refl _) (C_blk hb h2) (Nat.le_refl _) ha hb).mono ?_
  rintro e w' ⟨rfl, hd⟩
  exact ⟨rfl, (below_two W _ _).trans (hd.below.mono (below_two W _ _).size)⟩
set_option maxHeartbeats 2000000 in
set_option maxRecDepth 100000 in
theorem awake_any (w : World) : Calls Tryd.prog 13 #[] w fun e w' => e = .returned (.bool true) ∧ Below w.heap.size w w' := by
  go_enter Tryd.func13, Tryd.ntmps13
  go_wp2_with fail
  refine (Cmp_lit [0, 2] [0, 2, 1] w (by decide) (by decide)).mono ?_
  have e1 : cmpL [0, 2] [0, 2, 1] = -1 := by decide
  rw [e1]
  rintro e w1 ⟨rfl, hb1⟩
  have HB1 := Lib.hid hb1
  clear hb1 e1
  go_wp2_with fail
  refine (Cmp_lit [0, 2, 1] [0, 10] w1 (by decide) (by decide)).mono ?_
  have e1 : cmpL [0, 2, 1] [0, 10] = -1 := by decide
  rw [e1]
  rintro e w2 ⟨rfl, hb2⟩
  have HB2 : Hid (Below w.heap.size w w2) := HB1.out.trans (hb2.mono HB1.out.size)
  clear hb2 e1 HB1
  go_wp2_with fail
  have hC : (Kd.int .i64).C (w2.alloc (.cells #[.int .i64 0, .int .i64 10] 3)) (some ⟨w2.heap.size, 0, none⟩) [(0 : Int), 10].length [0, 10] := C_blk (by decide) (heap_alloc_new w2 _)
  have ej : Lib.join (([(0 : Int), 10]).map Lib.itoa) [46] = [48, 46, 49, 48] := by decide +kernel
  refine (Text_any [0, 10] _ 2 _ hC (by decide) (by decide) (fun x hx w' _ => ?_) (by rw [ej]; decide)).mono ?_
  · simp only [List.mem_cons, List.not_mem_nil, or_false] at hx
    rcases hx with rfl | rfl
    · exact tells_small _ _ (by decide) (by decide)
    · exact tells_small _ _ (by decide) (by decide)
  · rw [ej]
    rintro e w3 ⟨rfl, hb3⟩
    have HB3 : Hid (Below w.heap.size w w3) := HB2.out.trans (((Below.refl _ _).alloc (Nat.le_refl _) _).trans (hb3.mono (by simp)) |>.mono HB2.out.size)
    clear hb3 hC ej HB2
    go_wp2_with fail
    go_ret
    exact ⟨rfl, HB3.out⟩
end Go.Proofs.YtcchoeomeklgmaaDoor.Core
