/- The sorted row as a row of one's own. -/
import Derived.Test.YtceankldidkohaaDoorC18
namespace Go.Proofs.YtceankldidkohaaDoor.Core
open Go.RowKit Go.Shelf Go.Lib Go.Sort Go.Proofs.YtceankldidkohaaDoorW.PrintWords Go.Proofs.YtceankldidkohaaDoorW.PrintMore Go.Proofs.YtceankldidkohaaDoor.PAuditTwice Go.Proofs.YtceankldidkohaaDoor
set_option linter.unusedVariables false
set_option linter.unusedSimpArgs false
theorem heap_sort {α : Type} [Inhabited α] (enc : α → List Value) (k : Nat) {X : World} {blk m : Nat} {dk : Array α} {os : Array Obj} {cur : Array Value} {e : Nat} (h : X.heap[blk]? = some (.cells cur e (0, 0))) :
    (sortWorldK enc k X blk 0 m dk os).heap[blk]? = some (.cells (putCells id 0 (flatK enc k dk) cur) e (0, 0)) := by
  have hlt := (Array.getElem?_eq_some_iff.1 h).1
  have h2 : (putRowK enc k (Sort.ahead X m) blk 0 dk).heap[blk]? = some (.cells (putCells id 0 (flatK enc k dk) cur) e (0, 0)) := by
    have h' : (Sort.ahead X m).heap[blk]? = some (.cells cur e (0, 0)) := h
    simp only [putRowK, putRow, mapBlock, Array.getElem?_modify, if_true, h', Option.map_some, onCells]
  have h3 : blk < (putRowK enc k (Sort.ahead X m) blk 0 dk).heap.size := by
    rw [size_putRowK]; exact hlt
  unfold sortWorldK
  show ((putRowK enc k (Sort.ahead X m) blk 0 dk).heap ++ os)[blk]? = _
  rw [Array.getElem?_append_left h3]
  exact h2
theorem put_take {cur F : Array Value} (h : F.size ≤ cur.size) : (putCells id 0 F cur).toList.take F.size = F.toList := by
  apply List.ext_getElem?
  intro t
  rw [List.getElem?_take]
  by_cases ht : t < F.size
  · rw [if_pos ht]
    have hc : t < cur.size := by omega
    simp only [putCells, Array.toList_mapIdx, List.getElem?_mapIdx, Array.getElem?_toList, Array.getElem?_eq_getElem hc, Array.getElem?_eq_getElem ht, Option.map_some, id]
    rw [if_pos ⟨Nat.zero_le _, by omega⟩, Nat.sub_zero, getElem!_pos F t ht]
  · rw [if_neg ht, List.getElem?_eq_none (by simpa using ht)]
theorem flat_at {X : World} {g : Nat} (d : Array (El X g)) {j i : Nat} (hj : j < d.size) (hi : i < 2) : (flatK El.enc 2 d).toList[j * 2 + i]? = (El.enc d[j])[i]? := by
  have ht : j * 2 + i < d.size * 2 := by omega
  have e : (flatK El.enc 2 d)[j * 2 + i]! = _ := get_flatK El.enc 2 d (j * 2 + i) ht
  rw [getElem!_pos (flatK El.enc 2 d) _ (by rw [size_flatK]; exact ht)] at e
  rw [Array.getElem?_toList, Array.getElem?_eq_getElem (by rw [size_flatK]; exact ht), e, show (j * 2 + i) / 2 = j from by omega, show (j * 2 + i) % 2 = i from by omega, getElem!_pos d j hj]
  match i, hi with
  | 0, _ => rfl
  | 1, _ => rfl
theorem sort_back {X : World} {base g cap : Nat} {ok : Nat → Prop} {raw : List S40} {d' : Array (El X g)} (h : Kd.N k40 38 X base ok (.slice (some ⟨g, 0, none⟩) d'.size cap) raw) (m : Nat) (os : Array Obj) :
    Kd.N k40 38 (sortWorldK El.enc 2 X g 0 m d' os) base (fun _ => True) (.slice (some ⟨g, 0, none⟩) d'.size cap) (d'.toList.map El.un) := by
  have hn := (Kd.N_reads' h).1
  obtain ⟨_, rows, hl, hR, _⟩ := h
  obtain ⟨_, inner, ho, _⟩ := hR
  obtain ⟨hlen, hcase⟩ := ho
  rcases hcase with ⟨h1, _⟩ | ⟨g', cap', cur, he, hb, hg, hnc, hcm, hcs, ht⟩
  · cases h1
  injection he with e1 e2 e3
  injection e1 with e1
  injection e1 with e1
  subst e1 e3
  have hlr : rows.length = d'.size := by omega
  rw [hlr] at hnc
  have hfs : (flatK El.enc 2 d').size ≤ cur.size := by rw [size_flatK, hcs]; exact Nat.mul_le_mul_right 2 hnc
  refine ⟨fun _ _ => trivial, d'.toList.map El.enc, by simp, ⟨fun k hk => hk.symm, (flatK El.enc 2 d').toList, ⟨by simp [size_flatK]; rfl, .inr ⟨g, cap, putCells id 0 (flatK El.enc 2 d') cur, by simp, hb, heap_sort El.enc 2 hg, by simpa using hnc, hcm, ?_, ?_⟩⟩, ⟨by simp [size_flatK]; rfl, fun j p hj => ?_⟩⟩, fun j x c hx hc => ?_⟩
  · show (putCells id 0 _ cur).size = _
    simp only [putCells, Array.size_mapIdx]
    exact hcs
  · have h := put_take hfs
    rw [size_flatK] at h
    rw [List.length_map, Array.length_toList]
    exact h
  · have hj' : j < d'.size := by have := (List.getElem?_eq_some_iff.1 hj).1; simpa using this
    have hp : p = El.enc d'[j] := by
      have h := hj
      simp only [List.getElem?_map, Array.getElem?_toList, Array.getElem?_eq_getElem hj', Option.map_some] at h
      exact (Option.some.inj h).symm
    have hseg : ((flatK El.enc 2 d').toList.drop (j * 2)).take 2 = El.enc d'[j] := by
      apply List.ext_getElem?
      intro i
      rw [List.getElem?_take]
      by_cases hi : i < 2
      · rw [if_pos hi, List.getElem?_drop]
        exact flat_at d' hj' hi
      · rw [if_neg hi, List.getElem?_eq_none (by simp [El.enc]; omega)]
    refine ⟨hseg.trans hp.symm, ?_, ?_⟩
    · show (((flatK El.enc 2 d').toList.drop (j * 2)).take 2).length = 2
      rw [hseg]; rfl
    · intro u hu
      have hu : u ∈ ((flatK El.enc 2 d').toList.drop (j * 2)).take 2 := hu
      rw [hseg] at hu
      simp only [El.enc, List.mem_cons, List.not_mem_nil, or_false] at hu
      rcases hu with rfl | rfl <;> rfl
  · have hj' : j < d'.size := by have := (List.getElem?_eq_some_iff.1 hx).1; simpa using this
    simp only [List.getElem?_map, Array.getElem?_toList, Array.getElem?_eq_getElem hj', Option.map_some] at hx hc
    obtain rfl := Option.some.inj hx
    obtain rfl := Option.some.inj hc
    refine k40_mkF _ _ (El.un d'[j]) d'[j].len (Kd.F_mono (Kd.F_step d'[j].rd (fun q hq hlt => sort_block _ _ _ _ _ _ _ _ hq.2 hlt)) (fun q hq => ⟨trivial, fun he => hq.2 ?_⟩))
    simpa [Value.ownBlock] using he
end Go.Proofs.YtceankldidkohaaDoor.Core
