/- The sort's closure, as the shelf's sort asks for it. The sort's closure in every world that the sort comes to. A row of one's own as the sort takes it. The same row, held as the sort asks for it. slices.SortFunc at entries. What the sort leaves, in plain Lean. The world that the sort leaves. The sorted row as a row of one's own. audit.Did at any events: it tells what the reference tells. -/
import Derived.Test.YtceankldidkohaaDoorC11
import Derived.Test.YtceankldidkohaaDoorSort
/-! The sort's closure, as the shelf's sort asks for it. -/
namespace Go.Proofs.YtceankldidkohaaDoor.Core
open Go.RowKit Go.Shelf Go.Lib Go.Sort Go.Proofs.YtceankldidkohaaDoorW.PrintWords Go.Proofs.YtceankldidkohaaDoorW.PrintMore Go.Proofs.YtceankldidkohaaDoor.PAuditTwice Go.Proofs.YtceankldidkohaaDoor
set_option linter.unusedVariables false
set_option linter.unusedSimpArgs false
theorem less_grow {x y : List Int} {sx sy : Int} {Ax Ay : Option Addr} {cx cy : Nat} {w : World} (hx : x.length ≤ 1000000) (hy : y.length ≤ 1000000) (hX : (Kd.int .i64).C w Ax x.length x) (hY : (Kd.int .i64).C w Ay y.length y) :
    Calls Tryd.prog 25 #[.agg #[.slice Ax x.length cx, .int .i64 sx], .agg #[.slice Ay y.length cy, .int .i64 sy]] w fun e W' => e = .returned (.int .i64 (cmpL x y)) ∧ ∃ q os', W' = grow (w.drewN q) os' := by
  have H : Hid (∀ W, RowKit.Below w.heap.size w W → Calls Tryd.prog 26 #[.slice Ax x.length cx, .slice Ay y.length cy] W fun e W' => e = .returned (.int .i64 (cmpL x y)) ∧ W' = W) := fun W hb => pcmp_any (cx := cx) (cy := cy) hx hy (Kd.C_below hX hb) (Kd.C_below hY hb)
  obtain ⟨n, hnn⟩ : ∃ n, n = x.length := ⟨_, rfl⟩
  obtain ⟨m, hmm⟩ : ∃ m, m = y.length := ⟨_, rfl⟩
  obtain ⟨r, hr⟩ : ∃ r, r = cmpL x y := ⟨_, rfl⟩
  rw [← hnn, ← hmm, ← hr] at H ⊢
  clear hx hy hX hY hnn hmm hr
  go_enter Tryd.func25, Tryd.ntmps25
  go_wp2_with fail
  have hb : RowKit.Below w.heap.size w ((w.alloc (.cells #[.slice Ax n cx, .int .i64 sx] 38)).alloc (.cells #[.slice Ay m cy, .int .i64 sy] 38)) := ((RowKit.Below.refl _ _).alloc (Nat.le_refl _) _).alloc (by simp) _
  refine (H.out _ hb).mono ?_
  rintro e w2 ⟨rfl, rfl⟩
  go_wp2_with fail
  go_ret
  exact ⟨rfl, 0, _, by rw [alloc_eq_grow, alloc_eq_grow, grow_grow]; rfl⟩
/-- An entry as the sort moves it: its path can be read away from the row's block. -/
structure El (X : World) (blk : Nat) where
  A : Option Addr
  c : Nat
  p : List Int
  s : Int
  len : p.length ≤ c
  small : p.length ≤ 1000000
  rd : Kd.F (Kd.int .i64) X (fun q => q < X.heap.size ∧ q ≠ blk) A p.length p
instance (X : World) (blk : Nat) : Inhabited (El X blk) := ⟨⟨none, 0, [], 0, Nat.le_refl _, Nat.zero_le _, Kd.F_nil _ _ _⟩⟩
def El.enc {X : World} {blk : Nat} (x : El X blk) : List Value := [.slice x.A x.p.length x.c, .int .i64 x.s]
def El.cf {X : World} {blk : Nat} (x y : El X blk) : Int := cmpL x.p y.p
theorem El.lt_iff {X : World} {blk : Nat} (x y : El X blk) : ltOf El.cf x y = decide (cmpL x.p y.p < 0) := rfl
theorem El.swo (X : World) (blk : Nat) : SWO (ltOf (El.cf (X := X) (blk := blk))) where
  irrefl x := by rw [El.lt_iff, cmpL_refl]; rfl
  trans x y z h1 h2 := by
    rw [El.lt_iff] at *
    exact decide_eq_true (cmpL_lt_trans (of_decide_eq_true h1) (of_decide_eq_true h2))
  ntrans x y z h1 h2 := by
    rw [El.lt_iff] at *
    have h1 := of_decide_eq_false h1
    have h2 := of_decide_eq_false h2
    have e1 := cmpL_neg x.p y.p
    have e2 := cmpL_neg y.p z.p
    have e3 := cmpL_neg x.p z.p
    have := cmpL_trans (a := z.p) (b := y.p) (c := x.p) (by omega) (by omega)
    exact decide_eq_false (by omega)
end Go.Proofs.YtceankldidkohaaDoor.Core
/-! The sort's closure in every world that the sort comes to. -/
namespace Go.Proofs.YtceankldidkohaaDoor.Core
open Go.RowKit Go.Shelf Go.Lib Go.Sort Go.Proofs.YtceankldidkohaaDoorW.PrintWords Go.Proofs.YtceankldidkohaaDoorW.PrintMore Go.Proofs.YtceankldidkohaaDoor.PAuditTwice Go.Proofs.YtceankldidkohaaDoor
set_option linter.unusedVariables false
set_option linter.unusedSimpArgs false
theorem sort_block {α : Type} [Inhabited α] (enc : α → List Value) (k : Nat) (X : World) (blk off m : Nat) (dk : Array α) (os : Array Obj) {q : Nat} (hq : q ≠ blk) (hlt : q < X.heap.size) : (sortWorldK enc k X blk off m dk os).heap[q]? = X.heap[q]? := by
  have h2 : (putRowK enc k (Sort.ahead X m) blk off dk).heap[q]? = X.heap[q]? := by
    simp [putRowK, putRow, mapBlock, Sort.ahead, Array.getElem?_modify, Ne.symm hq]
  have h3 : q < (putRowK enc k (Sort.ahead X m) blk off dk).heap.size := by
    rw [size_putRowK]; exact hlt
  unfold sortWorldK
  show ((putRowK enc k (Sort.ahead X m) blk off dk).heap ++ os)[q]? = _
  rw [Array.getElem?_append_left h3]
  exact h2
theorem El.lays (X : World) (blk size : Nat) : CmpLays Tryd.prog 25 #[] (El.enc (X := X) (blk := blk)) 2 El.cf blk 0 size X := fun m os dk hs x y => by
  have hx := Kd.F_now (Kd.F_step x.rd (W1 := sortWorldK El.enc 2 X blk 0 m dk os) (fun q hq hlt => sort_block _ _ _ _ _ _ _ _ hq.2 hlt))
  have hy := Kd.F_now (Kd.F_step y.rd (W1 := sortWorldK El.enc 2 X blk 0 m dk os) (fun q hq hlt => sort_block _ _ _ _ _ _ _ _ hq.2 hlt))
  exact less_grow x.small y.small hx hy
end Go.Proofs.YtceankldidkohaaDoor.Core
/-! A row of one's own as the sort takes it. -/
namespace Go.Proofs.YtceankldidkohaaDoor.Core
open Go.RowKit Go.Shelf Go.Lib Go.Sort Go.Proofs.YtceankldidkohaaDoorW.PrintWords Go.Proofs.YtceankldidkohaaDoorW.PrintMore Go.Proofs.YtceankldidkohaaDoor.PAuditTwice Go.Proofs.YtceankldidkohaaDoor
set_option linter.unusedVariables false
set_option linter.unusedSimpArgs false
def El.un {X : World} {blk : Nat} (e : El X blk) : S40 := ⟨e.p, e.s⟩
theorem els_of {X : World} {base g n cap : Nat} {ok : Nat → Prop} {raw : List S40} (h : Kd.N k40 38 X base ok (.slice (some ⟨g, 0, none⟩) n cap) raw) (hn : n = raw.length) (hs : ∀ x ∈ raw, x.f0.length ≤ 1000000) : ∀ m, m ≤ raw.length →
    ∃ els : List (El X g), els.map El.un = raw.take m ∧ ∀ (j : Nat) (e : El X g), els[j]? = some e → (X.cell? ⟨g, j * 2, none⟩ = some (.slice e.A e.p.length e.c) ∧ X.frozen? ⟨g, j * 2, none⟩ = false) ∧ (X.cell? ⟨g, j * 2 + 1, none⟩ = some (.int .i64 e.s) ∧ X.frozen? ⟨g, j * 2 + 1, none⟩ = false) := by
  intro m
  induction m with
  | zero => exact fun _ => ⟨[], rfl, fun j e he => by simp at he⟩
  | succ m ih =>
    intro hm
    obtain ⟨els, h1, h2⟩ := ih (by omega)
    have hml : m < raw.length := by omega
    obtain ⟨c, hcl, hK, hcc, hfr⟩ := Kd.N_elem h z40 (m : Int) (by omega) (by omega)
    simp only [Int.toNat_natCast] at hK hcc hfr
    have hx : raw.getD m z40 = raw[m] := by simp [List.getD, List.getElem?_eq_getElem hml]
    rw [hx] at hK
    obtain ⟨A0, c0, rfl, l0, g0⟩ := k40_openF hK
    have hlen : els.length = m := by
      have := congrArg List.length h1
      rw [List.length_map, List.length_take] at this
      omega
    refine ⟨els ++ [⟨A0, c0, raw[m].f0, raw[m].f1, l0, hs _ (List.getElem_mem hml), Kd.F_mono (Kd.F_bound g0) (fun q hq => ⟨hq.2, hq.1.2⟩)⟩], ?_, fun j e he => ?_⟩
    · rw [List.map_append, h1, List.take_succ_eq_append_getElem hml]
      rfl
    · rcases Nat.lt_trichotomy j m with hj | rfl | hj
      · rw [List.getElem?_append_left (by omega)] at he
        exact h2 j e he
      · rw [List.getElem?_append_right (by omega), hlen, Nat.sub_self] at he
        have he := (Option.some.inj he).symm
        subst he
        exact ⟨⟨hcc 0 _ rfl, hfr 0⟩, ⟨hcc 1 _ rfl, hfr 1⟩⟩
      · rw [List.getElem?_append_right (by omega)] at he
        have : j - els.length ≠ 0 := by omega
        obtain ⟨q, hq⟩ : ∃ q, j - els.length = q + 1 := ⟨j - els.length - 1, by omega⟩
        rw [hq] at he
        simp at he
end Go.Proofs.YtceankldidkohaaDoor.Core
/-! The same row, held as the sort asks for it. -/
namespace Go.Proofs.YtceankldidkohaaDoor.Core
open Go.RowKit Go.Shelf Go.Lib Go.Sort Go.Proofs.YtceankldidkohaaDoorW.PrintWords Go.Proofs.YtceankldidkohaaDoorW.PrintMore Go.Proofs.YtceankldidkohaaDoor.PAuditTwice Go.Proofs.YtceankldidkohaaDoor
set_option linter.unusedVariables false
set_option linter.unusedSimpArgs false
theorem holds_of {X : World} {g : Nat} {els : List (El X g)} (h : ∀ (j : Nat) (e : El X g), els[j]? = some e → (X.cell? ⟨g, j * 2, none⟩ = some (.slice e.A e.p.length e.c) ∧ X.frozen? ⟨g, j * 2, none⟩ = false) ∧ (X.cell? ⟨g, j * 2 + 1, none⟩ = some (.int .i64 e.s) ∧ X.frozen? ⟨g, j * 2 + 1, none⟩ = false)) :
    HoldsK (El.enc (X := X) (blk := g)) 2 X g 0 els.toArray := by
  intro t ht
  rw [size_flatK] at ht
  have ht' : t < els.length * 2 := by simpa using ht
  rw [get_flatK _ _ _ _ ht, Nat.zero_add]
  have hl : t / 2 < els.length := by omega
  have he : els.toArray[t / 2]! = els[t / 2] := by simp [hl]
  rw [he]
  obtain ⟨⟨h1, h2⟩, h3, h4⟩ := h (t / 2) els[t / 2] (List.getElem?_eq_getElem hl)
  rcases Nat.mod_two_eq_zero_or_one t with e | e
  · have e2 : t / 2 * 2 = t := by omega
    rw [e2] at h1 h2
    rw [e]
    exact ⟨h1, h2⟩
  · have e2 : t / 2 * 2 + 1 = t := by omega
    rw [e2] at h3 h4
    rw [e]
    exact ⟨h3, h4⟩
end Go.Proofs.YtceankldidkohaaDoor.Core
/-! slices.SortFunc at entries. -/
namespace Go.Proofs.YtceankldidkohaaDoor.Core
open Go.RowKit Go.Shelf Go.Lib Go.Sort Go.Proofs.YtceankldidkohaaDoorW.PrintWords Go.Proofs.YtceankldidkohaaDoorW.PrintMore Go.Proofs.YtceankldidkohaaDoor.PAuditTwice Go.Proofs.YtceankldidkohaaDoor
set_option linter.unusedVariables false
set_option linter.unusedSimpArgs false
theorem sort_run {X : World} {g cap : Nat} {els : List (El X g)} (hH : HoldsK (El.enc (X := X) (blk := g)) 2 X g 0 els.toArray) (hg : g < X.heap.size) (hl : els.length ≤ 1000000) :
    Calls Tryd.prog 24 #[.slice (some ⟨g, 0, none⟩) els.length cap, .func (.func 25) #[] #[]] X fun e w' =>
      e = .returned (.tuple #[]) ∧ ∃ (d' : Array (El X g)) (n : Nat) (os : Array Obj), PermIn 0 els.length els.toArray d' ∧ SortedIn (ltOf El.cf) 0 els.length d' ∧ w' = sortWorldK El.enc 2 X g 0 n d' os := by
  have eg : ∀ args w, (callFunc 25 args).run Tryd.prog w = .ok (.enter 25 args) w := enters_of Tryd.func25 (by kernel_rfl) rfl
  have hcon := AnyQ.slices_SortFunc Tryd.sortE 2 Tryd.isAgg38 Tryd.sizeOf38 (El.enc (X := X) (blk := g)) (fun _ => rfl) (fun x v hv => by simp [El.enc] at hv; rcases hv with rfl | rfl <;> rfl) El.cf (El.swo X g) 25 #[] g 0 cap els.toArray X eg (El.lays X g _) hH hg (by simp; omega)
  have e : els.toArray.size = els.length := by simp
  rw [e] at hcon
  exact hcon
end Go.Proofs.YtceankldidkohaaDoor.Core
/-! What the sort leaves, in plain Lean. -/
namespace Go.Proofs.YtceankldidkohaaDoor.Core
open Go.RowKit Go.Shelf Go.Lib Go.Sort Go.Proofs.YtceankldidkohaaDoorW.PrintWords Go.Proofs.YtceankldidkohaaDoorW.PrintMore Go.Proofs.YtceankldidkohaaDoor.PAuditTwice Go.Proofs.YtceankldidkohaaDoor
set_option linter.unusedVariables false
set_option linter.unusedSimpArgs false
theorem perm_list {X : World} {g : Nat} {els : List (El X g)} {d' : Array (El X g)} (hp : PermIn 0 els.length els.toArray d') : d'.size = els.length ∧ d'.toList.Perm els := by
  obtain ⟨h1, _, h3⟩ := hp
  have hsz : d'.size = els.length := by simpa using h1
  refine ⟨hsz, ?_⟩
  have e1 : d'.extract 0 els.length = d' := by rw [← hsz]; simp
  have e2 : els.toArray.extract 0 els.length = els.toArray := by simp
  rw [e1, e2] at h3
  simpa using h3
theorem sorted_asc {X : World} {g : Nat} {els : List (El X g)} {d' : Array (El X g)} (hp : PermIn 0 els.length els.toArray d') (hs : SortedIn (ltOf El.cf) 0 els.length d') (hd : Dis (els.map El.un)) : (d'.toList.map El.un).Perm (els.map El.un) ∧ Asc (d'.toList.map El.un) := by
  obtain ⟨hsz, hpl⟩ := perm_list hp
  have hpm := hpl.map El.un
  have hd' : Dis (d'.toList.map El.un) := (hpm.pairwise_iff (fun {x y} h e => h e.symm)).2 hd
  refine ⟨hpm, List.pairwise_iff_getElem.2 fun i j hi hj hij => ?_⟩
  have hne := List.pairwise_iff_getElem.1 hd' i j hi hj hij
  simp only [List.length_map, Array.length_toList] at hi hj
  simp only [List.getElem_map, Array.getElem_toList] at hne ⊢
  have h := hs i j (Nat.zero_le _) hij (by omega)
  rw [El.lt_iff, getElem!_pos d' i hi, getElem!_pos d' j hj] at h
  have h := of_decide_eq_false h
  show cmpL d'[i].p d'[j].p < 0
  have e := cmpL_neg d'[i].p d'[j].p
  have hz : cmpL d'[i].p d'[j].p ≠ 0 := fun hz => hne (cmpL_zero hz)
  omega
end Go.Proofs.YtceankldidkohaaDoor.Core
/-! The world that the sort leaves. -/
namespace Go.Proofs.YtceankldidkohaaDoor.Core
open Go.RowKit Go.Shelf Go.Lib Go.Sort Go.Proofs.YtceankldidkohaaDoorW.PrintWords Go.Proofs.YtceankldidkohaaDoorW.PrintMore Go.Proofs.YtceankldidkohaaDoor.PAuditTwice Go.Proofs.YtceankldidkohaaDoor
set_option linter.unusedVariables false
set_option linter.unusedSimpArgs false
theorem sort_grown {α : Type} [Inhabited α] (enc : α → List Value) (k : Nat) (X : World) (blk off m : Nat) (dk : Array α) (os : Array Obj) : X.grownBy (sortWorldK enc k X blk off m dk os) (some blk) := by
  refine ⟨rfl, rfl, rfl, ?_, fun q hlt hq => sort_block enc k X blk off m dk os (fun e => hq (by rw [e])) hlt⟩
  exact size_sortWorldK_c enc k X blk off m dk os
end Go.Proofs.YtceankldidkohaaDoor.Core
/-! The sorted row as a row of one's own. -/
namespace Go.Proofs.YtceankldidkohaaDoor.Core
open Go.RowKit Go.Shelf Go.Lib Go.Sort Go.Proofs.YtceankldidkohaaDoorW.PrintWords Go.Proofs.YtceankldidkohaaDoorW.PrintMore Go.Proofs.YtceankldidkohaaDoor.PAuditTwice Go.Proofs.YtceankldidkohaaDoor
set_option linter.unusedVariables false
set_option linter.unusedSimpArgs false
theorem heap_sort {α : Type} [Inhabited α] (enc : α → List Value) (k : Nat) {X : World} {blk m : Nat} {dk : Array α} {os : Array Obj} {cur : Array Value} {e : Nat} (h : X.heap[blk]? = some (.cells cur e (0, 0))) :
    (sortWorldK enc k X blk 0 m dk os).heap[blk]? = some (.cells (putCells id 0 (flatK enc k dk) cur) e (0, 0)) := by
  have hlt := (Array.getElem?_eq_some_iff.1 h).1
  have h2 : (putRowK enc k (Sort.ahead X m) blk 0 dk).heap[blk]? = some (.cells (putCells id 0 (flatK enc k dk) cur) e (0, 0)) := by
    have h' : (Sort.ahead X m).heap[blk]? = some (.cells cur e (0, 0)) := h
    simp only [putRowK, putRow, mapBlock, Array.getElem?_modify, if_true, h', Option.map_some, onCells]
  have h3 : blk < (putRowK enc k (Sort.ahead X m) blk 0 dk).heap.size := by
    rw [size_putRowK]; exact hlt
  unfold sortWorldK
  show ((putRowK enc k (Sort.ahead X m) blk 0 dk).heap ++ os)[blk]? = _
  rw [Array.getElem?_append_left h3]
  exact h2
theorem put_take {cur F : Array Value} (h : F.size ≤ cur.size) : (putCells id 0 F cur).toList.take F.size = F.toList := by
  apply List.ext_getElem?
  intro t
  rw [List.getElem?_take]
  by_cases ht : t < F.size
  · rw [if_pos ht]
    have hc : t < cur.size := by omega
    simp only [putCells, Array.toList_mapIdx, List.getElem?_mapIdx, Array.getElem?_toList, Array.getElem?_eq_getElem hc, Array.getElem?_eq_getElem ht, Option.map_some, id]
    rw [if_pos ⟨Nat.zero_le _, by omega⟩, Nat.sub_zero, getElem!_pos F t ht]
  · rw [if_neg ht, List.getElem?_eq_none (by simpa using ht)]
theorem flat_at {X : World} {g : Nat} (d : Array (El X g)) {j i : Nat} (hj : j < d.size) (hi : i < 2) : (flatK El.enc 2 d).toList[j * 2 + i]? = (El.enc d[j])[i]? := by
  have ht : j * 2 + i < d.size * 2 := by omega
  have e : (flatK El.enc 2 d)[j * 2 + i]! = _ := get_flatK El.enc 2 d (j * 2 + i) ht
  rw [getElem!_pos (flatK El.enc 2 d) _ (by rw [size_flatK]; exact ht)] at e
  rw [Array.getElem?_toList, Array.getElem?_eq_getElem (by rw [size_flatK]; exact ht), e, show (j * 2 + i) / 2 = j from by omega, show (j * 2 + i) % 2 = i from by omega, getElem!_pos d j hj]
  match i, hi with
  | 0, _ => rfl
  | 1, _ => rfl
theorem sort_back {X : World} {base g cap : Nat} {ok : Nat → Prop} {raw : List S40} {d' : Array (El X g)} (h : Kd.N k40 38 X base ok (.slice (some ⟨g, 0, none⟩) d'.size cap) raw) (m : Nat) (os : Array Obj) :
    Kd.N k40 38 (sortWorldK El.enc 2 X g 0 m d' os) base (fun _ => True) (.slice (some ⟨g, 0, none⟩) d'.size cap) (d'.toList.map El.un) := by
  have hn := (Kd.N_reads' h).1
  obtain ⟨_, rows, hl, hR, _⟩ := h
  obtain ⟨_, inner, ho, _⟩ := hR
  obtain ⟨hlen, hcase⟩ := ho
  rcases hcase with ⟨h1, _⟩ | ⟨g', cap', cur, he, hb, hg, hnc, hcm, hcs, ht⟩
  · cases h1
  injection he with e1 e2 e3
  injection e1 with e1
  injection e1 with e1
  subst e1 e3
  have hlr : rows.length = d'.size := by omega
  rw [hlr] at hnc
  have hfs : (flatK El.enc 2 d').size ≤ cur.size := by rw [size_flatK, hcs]; exact Nat.mul_le_mul_right 2 hnc
  refine ⟨fun _ _ => trivial, d'.toList.map El.enc, by simp, ⟨fun k hk => hk.symm, (flatK El.enc 2 d').toList, ⟨by simp [size_flatK]; rfl, .inr ⟨g, cap, putCells id 0 (flatK El.enc 2 d') cur, by simp, hb, heap_sort El.enc 2 hg, by simpa using hnc, hcm, ?_, ?_⟩⟩, ⟨by simp [size_flatK]; rfl, fun j p hj => ?_⟩⟩, fun j x c hx hc => ?_⟩
  · show (putCells id 0 _ cur).size = _
    simp only [putCells, Array.size_mapIdx]
    exact hcs
  · have h := put_take hfs
    rw [size_flatK] at h
    rw [List.length_map, Array.length_toList]
    exact h
  · have hj' : j < d'.size := by have := (List.getElem?_eq_some_iff.1 hj).1; simpa using this
    have hp : p = El.enc d'[j] := by
      have h := hj
      simp only [List.getElem?_map, Array.getElem?_toList, Array.getElem?_eq_getElem hj', Option.map_some] at h
      exact (Option.some.inj h).symm
    have hseg : ((flatK El.enc 2 d').toList.drop (j * 2)).take 2 = El.enc d'[j] := by
      apply List.ext_getElem?
      intro i
      rw [List.getElem?_take]
      by_cases hi : i < 2
      · rw [if_pos hi, List.getElem?_drop]
        exact flat_at d' hj' hi
      · rw [if_neg hi, List.getElem?_eq_none (by simp [El.enc]; omega)]
    refine ⟨hseg.trans hp.symm, ?_, ?_⟩
    · show (((flatK El.enc 2 d').toList.drop (j * 2)).take 2).length = 2
      rw [hseg]; rfl
    · intro u hu
      have hu : u ∈ ((flatK El.enc 2 d').toList.drop (j * 2)).take 2 := hu
      rw [hseg] at hu
      simp only [El.enc, List.mem_cons, List.not_mem_nil, or_false] at hu
      rcases hu with rfl | rfl <;> rfl
  · have hj' : j < d'.size := by have := (List.getElem?_eq_some_iff.1 hx).1; simpa using this
    simp only [List.getElem?_map, Array.getElem?_toList, Array.getElem?_eq_getElem hj', Option.map_some] at hx hc
    obtain rfl := Option.some.inj hx
    obtain rfl := Option.some.inj hc
    refine k40_mkF _ _ (El.un d'[j]) d'[j].len (Kd.F_mono (Kd.F_step d'[j].rd (fun q hq hlt => sort_block _ _ _ _ _ _ _ _ hq.2 hlt)) (fun q hq => ⟨trivial, fun he => hq.2 ?_⟩))
    simpa [Value.ownBlock] using he
end Go.Proofs.YtceankldidkohaaDoor.Core
/-! audit.Did at any events: it tells what the reference tells. -/
namespace Go.Proofs.YtceankldidkohaaDoor.Core
open Go.RowKit Go.Shelf Go.Lib Go.Sort Go.Proofs.YtceankldidkohaaDoorW.PrintWords Go.Proofs.YtceankldidkohaaDoorW.PrintMore Go.Proofs.YtceankldidkohaaDoor.PAuditTwice Go.Proofs.YtceankldidkohaaDoor
set_option linter.unusedVariables false
set_option linter.unusedSimpArgs false
theorem add_len (out : List S40) (p : List Int) : (addD out p).length ≤ out.length + 1 := by
  cases h : pos out p with
  | none => rw [add_none h]; simp
  | some i => rw [add_pos h, List.length_set]; omega
theorem raw_len (job : Int) : ∀ (l : List S28) (out : List S40), (rawF job out l).length ≤ out.length + l.length
  | [], out => by simp [rawF]
  | e :: l, out => by
    unfold rawF
    split
    · have h1 := raw_len job l (addD out e.f2)
      have h2 := add_len out e.f2
      simp only [List.length_cons]
      omega
    · have h1 := raw_len job l out
      simp only [List.length_cons]
      omega
theorem hsort_any {w X : World} {l : List S28} {job : Int} (hn : l.length ≤ 1000000) {v : Value} {n : Nat} (h : Ad w X job v (rawF job [] l) n) :
    Calls Tryd.prog 24 #[v, .func (.func 25) #[] #[]] X fun e W' => e = .returned (.tuple #[]) ∧ ∃ s, Kd.N k40 38 W' w.heap.size (fun _ => True) v s ∧ s.Perm (rawF job [] l) ∧ Asc s ∧ Below w.heap.size w W' := by
  have hrl := raw_len job l []
  have hd : Dis (rawF job [] l) := dis_raw job l List.Pairwise.nil
  by_cases hp : 0 < (rawF job [] l).length
  · obtain ⟨g, cap, rfl, hb, hg, _⟩ := Kd.N_form h.row hp
    obtain ⟨els, h1, h2⟩ := els_of h.row rfl h.small _ (Nat.le_refl _)
    rw [List.take_length] at h1
    have hel : els.length = (rawF job [] l).length := by rw [← h1, List.length_map]
    have hH := holds_of h2
    have hrun := sort_run (cap := cap) hH hg (by simp only [List.length_nil] at hrl; omega)
    rw [hel] at hrun
    refine hrun.mono ?_
    rintro e w' ⟨rfl, d', m, os, hpm, hs, rfl⟩
    rw [← hel] at hpm hs
    obtain ⟨hsz, hpl⟩ := perm_list hpm
    have hps := sorted_asc hpm hs (by rw [h1]; exact hd)
    rw [h1] at hps
    have hrow := h.row
    rw [← hel, ← hsz] at hrow
    have hN := sort_back hrow m os
    rw [hsz, hel] at hN
    exact ⟨rfl, _, hN, hps.1, hps.2, h.below.grown (sort_grown El.enc 2 X g 0 m d' os) h.below.size (fun k hk => by injection hk with hk; omega)⟩
  · have he : rawF job [] l = [] := List.length_eq_zero_iff.1 (by omega)
    rw [he] at h ⊢
    obtain ⟨A, c, rfl⟩ := Kd.N_slice h.row
    refine (AnyF.slices_SortFunc_none Tryd.sortE A c (.func (.func 25) #[] #[]) X).mono ?_
    rintro e w' ⟨rfl, rfl⟩
    exact ⟨rfl, [], Kd.N_mono h.row (fun _ _ => trivial), List.Perm.refl _, List.Pairwise.nil, h.below⟩
/-- audit.Did: a row that rises, and the same tasks with the same numbers as rawF. -/
theorem aDid_any {w0 w : World} (T : Tab w0) (hW : Below w0.heap.size w0 w) (l : List S28) (A : Option Addr) (c : Nat) (job : Int) (hj : In64 job) (hF : Kd.F k28 w (fun q => q < w.heap.size) A l.length l) (hn : l.length ≤ 1000000) (hE : ∀ e ∈ l, Ev e) :
    Calls Tryd.prog 13 #[.slice A l.length c, .int .i64 job] w fun e W' => ∃ v s, e = .returned v ∧ Kd.N k40 38 W' w.heap.size (fun _ => True) v s ∧ s.Perm (rawF job [] l) ∧ Asc s ∧ Below w.heap.size w W' :=
  aDid_loop T hW l A c job hj hF hn hE (fun X v n h => hsort_any hn h)
theorem aDid_ref {w0 w : World} (T : Tab w0) (hW : Below w0.heap.size w0 w) (l : List S29) (A : Option Addr) (c : Nat) (job : Int) (hj : In64 job) (hF : Kd.F k28 w (fun q => q < w.heap.size) A l.length (l.map cvE)) (hn : l.length ≤ 1000000) (hE : ∀ e ∈ l.map cvE, Ev e) :
    Calls Tryd.prog 13 #[.slice A l.length c, .int .i64 job] w fun e W' => ∃ v, e = .returned v ∧ Kd.N k40 38 W' w.heap.size (fun _ => True) v (didF job [] l) ∧ Below w.heap.size w W' := by
  have hl : (l.map cvE).length = l.length := List.length_map ..
  have h := aDid_any T hW (l.map cvE) A c job hj (by rw [hl]; exact hF) (by rw [hl]; exact hn) hE
  rw [hl] at h
  refine h.mono ?_
  rintro e w' ⟨v, s, rfl, h1, h2, h3, h4⟩
  rw [sorted_did rfl (dis_raw job _ List.Pairwise.nil) h2 h3] at h1
  exact ⟨v, rfl, h1, h4⟩
end Go.Proofs.YtceankldidkohaaDoor.Core
