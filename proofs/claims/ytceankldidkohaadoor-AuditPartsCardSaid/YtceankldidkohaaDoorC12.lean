/- The sort's closure, as the shelf's sort asks for it. -/
import Derived.Test.YtceankldidkohaaDoorC11
import Derived.Test.YtceankldidkohaaDoorSort
namespace Go.Proofs.YtceankldidkohaaDoor.Core
open Go.RowKit Go.Shelf Go.Lib Go.Sort Go.Proofs.YtceankldidkohaaDoorW.PrintWords Go.Proofs.YtceankldidkohaaDoorW.PrintMore Go.Proofs.YtceankldidkohaaDoor.PAuditTwice Go.Proofs.YtceankldidkohaaDoor
set_option linter.unusedVariables false
set_option linter.unusedSimpArgs false
theorem less_grow {x y : List Int} {sx sy : Int} {Ax Ay : Option Addr} {cx cy : Nat} {w : World} (hx : x.length ≤ 1000000) (hy : y.length ≤ 1000000) (hX : (Kd.int .i64).C w Ax x.length x) (hY : (Kd.int .i64).C w Ay y.length y) :
    Calls Tryd.prog 25 #[.agg #[.slice Ax x.length cx, .int .i64 sx], .agg #[.slice Ay y.length cy, .int .i64 sy]] w fun e W' => e = .returned (.int .i64 (cmpL x y)) ∧ ∃ q os', W' = grow (w.drewN q) os' := by
  have H : Hid (∀ W, RowKit.Below w.heap.size w W → Calls Tryd.prog 26 #[.slice Ax x.length cx, .slice Ay y.length cy] W fun e W' => e = .returned (.int .i64 (cmpL x y)) ∧ W' = W) := fun W hb => pcmp_any (cx := cx) (cy := cy) hx hy (Kd.C_below hX hb) (Kd.C_below hY hb)
  obtain ⟨n, hnn⟩ : ∃ n, n = x.length := ⟨_, rfl⟩
  obtain ⟨m, hmm⟩ : ∃ m, m = y.length := ⟨_, rfl⟩
  obtain ⟨r, hr⟩ : ∃ r, r = cmpL x y := ⟨_, rfl⟩
  rw [← hnn, ← hmm, ← hr] at H ⊢
  clear hx hy hX hY hnn hmm hr
  go_enter Tryd.func25, Tryd.ntmps25
  go_wp2_with fail
  have hb : RowKit.Below w.heap.size w ((w.alloc (.cells #[.slice Ax n cx, .int .i64 sx] 38)).alloc (.cells #[.slice Ay m cy, .int .i64 sy] 38)) := ((RowKit.Below.refl _ _).alloc (Nat.le_refl _) _).alloc (by simp) _
  refine (H.out _ hb).mono ?_
  rintro e w2 ⟨rfl, rfl⟩
  go_wp2_with fail
  go_ret
  exact ⟨rfl, 0, _, by rw [alloc_eq_grow, alloc_eq_grow, grow_grow]; rfl⟩
/-- An entry as the sort moves it: its path can be read away from the row's block. -/
structure El (X : World) (blk : Nat) where
  A : Option Addr
  c : Nat
  p : List Int
  s : Int
  len : p.length ≤ c
  small : p.length ≤ 1000000
  rd : Kd.F (Kd.int .i64) X (fun q => q < X.heap.size ∧ q ≠ blk) A p.length p
instance (X : World) (blk : Nat) : Inhabited (El X blk) := ⟨⟨none, 0, [], 0, Nat.le_refl _, Nat.zero_le _, Kd.F_nil _ _ _⟩⟩
def El.enc {X : World} {blk : Nat} (x : El X blk) : List Value := [.slice x.A x.p.length x.c, .int .i64 x.s]
def El.cf {X : World} {blk : Nat} (x y : El X blk) : Int := cmpL x.p y.p
theorem El.lt_iff {X : World} {blk : Nat} (x y : El X blk) : ltOf El.cf x y = decide (cmpL x.p y.p < 0) := rfl
theorem El.swo (X : World) (blk : Nat) : SWO (ltOf (El.cf (X := X) (blk := blk))) where
  irrefl x := by rw [El.lt_iff, cmpL_refl]; rfl
  trans x y z h1 h2 := by
    rw [El.lt_iff] at *
    exact decide_eq_true (cmpL_lt_trans (of_decide_eq_true h1) (of_decide_eq_true h2))
  ntrans x y z h1 h2 := by
    rw [El.lt_iff] at *
    have h1 := of_decide_eq_false h1
    have h2 := of_decide_eq_false h2
    have e1 := cmpL_neg x.p y.p
    have e2 := cmpL_neg y.p z.p
    have e3 := cmpL_neg x.p z.p
    have := cmpL_trans (a := z.p) (b := y.p) (c := x.p) (by omega) (by omega)
    exact decide_eq_false (by omega)
end Go.Proofs.YtceankldidkohaaDoor.Core
