/- path.Read: a range over strings.SplitSeq. -/
import Derived.Test.YtcchoeomeklgmaaDoorR2
namespace Go.Proofs.YtcchoeomeklgmaaDoor.Core
open Go.RowKit Go.Shelf Go.Proofs.YtcchoeomeklgmaaDoorW.PrintWords Go.Proofs.YtcchoeomeklgmaaDoor.Rf Go.Proofs.YtcchoeomeklgmaaDoor
set_option linter.unusedVariables false
set_option linter.unusedSimpArgs false
def splitW (w : World) (s sep : ByteArray) : World := ((w.alloc (.cells #[.string s] 9 (0, 0))).alloc (.cells #[.string sep] 9 (0, 0))).alloc (.cells #[.int .i64 0] 3 (0, 0))
def splitV (b0 : Nat) : Value := .func (.func 47) #[] #[.pointer (some ⟨b0 + 1, 0, none⟩), .pointer (some ⟨b0, 0, none⟩), .pointer (some ⟨b0 + 2, 0, none⟩)]
set_option maxHeartbeats 2000000 in
theorem split_in (s sep : ByteArray) (w : World) : Calls Tryd.prog 31 #[.string s, .string sep, .int .i64 0] w fun e w' => e = .returned (splitV w.heap.size) ∧ w' = splitW w s sep := by
  go_enter Tryd.func31, Tryd.ntmps31
  go_wp2_with fail
  go_ret
  exact ⟨rfl, rfl⟩
set_option maxHeartbeats 2000000 in
theorem split_any (s sep : ByteArray) (w : World) : Calls Tryd.prog 19 #[.string s, .string sep] w fun e w' => e = .returned (splitV w.heap.size) ∧ w' = splitW w s sep := by
  have HT := Lib.hid (split_in s sep w)
  go_enter Tryd.func19, Tryd.ntmps19
  go_wp2_with fail
  refine HT.out.mono ?_
  rintro _ w5 ⟨rfl, rfl⟩
  go_wp2_with fail
  go_ret
  exact ⟨rfl, rfl⟩
end Go.Proofs.YtcchoeomeklgmaaDoor.Core
