/- haymow/haymowlaw22.ShellScripts returns true whatever its arguments are, and leaves them as they were: no condition. The row; written by rowgen.py. -/
import Derived.Test.YtbiajfkencamiaaGreatDoorWrap
import Derived.Test.YtbiajfkencamiaaGreatDoorTie
import Derived.Test.YtbiajfkencamiaaGreatDoorCards
import Derived.Test.YtbiajfkencamiaaGreatDoorS0
import Derived.LaidMore
import Derived.Stop.Joined
import Derived.SevenTiedAt
import Derived.Lib.LaidTab
import Derived.Lay
import Derived.Test.YtbiajfkencamiaaGreatDoorRows
import Derived.Test.YtbiajfkencamiaaGreatDoorShellScriptsWalk
import Derived.WalkKit
import Derived.ProofKit
import Derived.OpenShut
import Derived.ShutString
import Derived.ChangeOld
import Derived.Below
import Derived.SizedLaws
/-! ShellScriptsL -/
namespace Go.Proofs.YtbiajfkencamiaaGreatDoor.RShellScripts
open Go.ChangeShapes Go.WideShapes Go.ChangeAt Go.RowKit Go.Proofs.YtbiajfkencamiaaGreatDoor.Opens Go.Proofs.YtbiajfkencamiaaGreatDoorW.PrintWords Go.Proofs.YtbiajfkencamiaaGreatDoor.KShellScripts
open Go.ChangeMaps (open_string shut_string)
theorem own : ownKnob Tryz.prog.godebug = none := by kernel_rfl
theorem laidOut : laidOutB Tryz.prog = true := RProg.p_laid
def laidL : List (String × DataW Unit) := [("math/bits.deBruijn32tab", Rows.laid_math_bits_deBruijn32tab), ("math/bits.deBruijn64tab", Rows.laid_math_bits_deBruijn64tab), ("internal/strconv.uint64pow10", Rows.laid_internal_strconv_uint64pow10), ("unicode/utf8.acceptRanges", Rows.laid_unicode_utf8_acceptRanges), ("strconv.ErrRange", Rows.laid_strconv_ErrRange), ("strconv.ErrSyntax", Rows.laid_strconv_ErrSyntax), ("unicode.White_Space", Rows.laid_unicode_White_Space), ("strings.asciiSpace", Rows.laid_strings_asciiSpace), ("unicode/utf8.first", Rows.laid_unicode_utf8_first)]
theorem door_met (os : Os) (args : Array Value) : laidMetH Tryz.prog laidL ((World.laidAll Tryz.prog os laidL).forCall (fun _ _ => 0) ⟨#[], args, []⟩).memory := by
  rw [MakeChecks.laidMetH_plain _ _ _ (by kernel_rfl)]
  exact laidMet_laidAll _ (by kernel_rfl) (by kernel_rfl)
theorem tab_of {W : World} (h : laidMetH Tryz.prog laidL W) (hsh : W.ShapedOpen Tryz.prog) : Core.TabB W := by
  have gT : Tryz.prog.globalNamed "strings.asciiSpace" = some 1 := by kernel_rfl
  have gTT : (Tryz.prog.globals[1]?).map (·.type) = some 158 := by kernel_rfl
  have h3 := laidMet.filter (fun x => x.1 == "strings.asciiSpace") (laidMetH_iff.1 h).1
  have h4 : laidMet Tryz.prog [("strings.asciiSpace", Lib.tabData .u8 Lib.asciiSpaceTab)] W := Eq.mp (congrArg (fun l => laidMet Tryz.prog l W) (by kernel_rfl)) h3
  have pT : Tryz.prog.globalNamed "internal/strconv.uint64pow10" = some 5 := by kernel_rfl
  have pTT : (Tryz.prog.globals[5]?).map (·.type) = some 242 := by kernel_rfl
  have p3 := laidMet.filter (fun x => x.1 == "internal/strconv.uint64pow10") (laidMetH_iff.1 h).1
  have p4 : laidMet Tryz.prog [("internal/strconv.uint64pow10", Lib.tabData .u64 Lib.pow10Tab)] W := Eq.mp (congrArg (fun l => laidMet Tryz.prog l W) (by kernel_rfl)) p3
  exact ⟨⟨Lib.tabIs_of_head gT gTT Tryz.underlying158 Tryz.underlying5 (by kernel_rfl) (by kernel_rfl) h4, Go.Proofs.cell_of_shapedOpen_int (zero := #[.int .i64 0]) (t := 3) hsh (of_decide_eq_true (by kernel_rfl)) (by kernel_rfl) rfl (by kernel_rfl) (by kernel_rfl) Tryz.underlying3⟩, Lib.tabIs_of_head pT pTT Tryz.underlying242 Tryz.underlying160 (by kernel_rfl) (by kernel_rfl) p4⟩
set_option maxRecDepth 100000 in
theorem lifted (os : Os) (started : os.Started) (H : Type) (enc : TypeId × Value → H) :
    ReturnsInHanded {} Tryz.checked os 4 .any (fun w args => (Rows.shellScriptsSpec.pre enc Tryz.prog Tryz.f4 [] false w args ∧ laidMetH Tryz.prog laidL w) ∧ sizedMet enc Tryz.prog Tryz.f4 (OpenSpec.ofChange Rows.shellScriptsSpec) false w args) (Rows.shellScriptsSpec.post enc Tryz.prog Tryz.f4 false true false false) := by
  refine Core.handed_laid_shaped (C := Tryz.checked) (X := fun w _ => laidMetH Tryz.prog laidL w) (fun _ _ _ hh h => h.of_heap hh) own started (by kernel_rfl) Tryz.func4
    (ChangeSpec.witness_shaped (enc := enc) (C := Tryz.checked) (os := os) (X := fun w _ => laidMetH Tryz.prog laidL w) false (World.laidAll Tryz.prog os laidL) #[.slice none 0 0, .string ByteArray.empty, .int .u32 0] 8 (World.laidAll_os _ _ _) (World.shaped_of_ZipB (by kernel_rfl) (by kernel_rfl)) (by kernel_rfl) (by kernel_rfl) (by kernel_rfl) (door_met os _)) ?_
  intro W base args ds gs before hval0 hW hL hsh
  have hval : ∀ (j : Nat) t v, Tryz.f4.params[j]? = some t → args[j]? = some v → Value.okWide Tryz.prog W .any base t v := hval0
  have hW' := hW
  obtain ⟨p, q, hA0, hV, rfl, hfz, hnd⟩ := hW
  have hA : DataW.TrodAll enc Tryz.prog W 0 (fun _ => true) true Tryz.f4.params.toList args.toList ds p := hA0
  rw [Tryz.params4] at hA hval
  obtain ⟨v0, vs0, d0, ds0, p0, q0, hargs, rfl, rfl, h0, r0⟩ := trodAll_cons hA
  obtain ⟨v1, vs1, d1, ds1, p1, q1, rfl, rfl, rfl, h1, r1⟩ := trodAll_cons r0
  obtain ⟨v2, vs2, d2, ds2, p2, q2, rfl, rfl, rfl, h2, r2⟩ := trodAll_cons r1
  obtain ⟨rfl, rfl, rfl⟩ := trodAll_nil r2
  obtain rfl : args = #[v0, v1, v2] := by cases args; simp_all
  obtain ⟨rfl, rfl⟩ := trodVars_none hV
  have k0 := h0
  have lt0 : ∀ x ∈ p0, x.block < W.heap.size := by obtain ⟨m, hm⟩ := k0; exact DataW.trod_lt m _ _ _ hm
  obtain ⟨B0, n0, c0, rfl⟩ := okWide_slice Tryz.underlying25 (hval 0 25 v0 rfl rfl)
  obtain ⟨x0, hk0, w0⟩ := arg_one (w0 := W) (b0 := base) (r := .any) open_arg0 (fun cs h => by cases h) h0
  obtain ⟨A0, cc0, e0, hc0, hr0⟩ := hk0
  simp only [List.cons.injEq, and_true, Value.slice.injEq] at e0
  obtain ⟨rfl, rfl, rfl⟩ := e0
  have k1 := h1
  have lt1 : ∀ x ∈ p1, x.block < W.heap.size := by obtain ⟨m, hm⟩ := k1; exact DataW.trod_lt m _ _ _ hm
  obtain ⟨b1, rfl⟩ := okWide_string Tryz.underlying9 (hval 1 9 v1 rfl rfl)
  obtain ⟨x1, hk1, w1⟩ := arg_one (w0 := W) (b0 := base) (r := .any) open_arg1 (fun cs h => by cases h) h1
  obtain rfl : b1 = x1 := by simpa [Kd.string, Kd.scalar] using hk1
  have k2 := h2
  have lt2 : ∀ x ∈ p2, x.block < W.heap.size := by obtain ⟨m, hm⟩ := k2; exact DataW.trod_lt m _ _ _ hm
  obtain ⟨b2, rfl⟩ := okWide_int Tryz.underlying28 (hval 2 28 v2 rfl rfl)
  obtain ⟨x2, hk2, w2⟩ := arg_one (w0 := W) (b0 := base) (r := .any) open_arg2 (fun cs h => by cases h) h2
  obtain rfl : b2 = x2 := by simpa [Kd.int, Kd.scalar] using hk2
  clear hA0 hval0
  refine (walk W (tab_of hL hsh) B0 c0 x0 hr0 hc0 w0 b1 w1 b2 w2).mono fun e W' ⟨he, bel⟩ => ?_
  subst he
  exact ⟨_, rfl, _, _, _, [], _, [], hW', trodAll_mk1 (shut_bool Tryz.underlying4 _), (trodAll_cons_mk (Below.trod laidOut (by kernel_rfl) (of_decide_eq_true (by kernel_rfl)) k0 bel lt0) (trodAll_cons_mk (Below.trod laidOut (by kernel_rfl) (of_decide_eq_true (by kernel_rfl)) k1 bel lt1) (trodAll_cons_mk (Below.trod laidOut (by kernel_rfl) (of_decide_eq_true (by kernel_rfl)) k2 bel lt2) trodAll_mk0))), rfl, bel.frame _, fun h => by cases h⟩
end Go.Proofs.YtbiajfkencamiaaGreatDoor.RShellScripts
