/- A text with notes and blanks: plain facts. Printed by gen_q3.py. -/
import Derived.Test.YtcchoeomeklgmaaGreatDoorQ1
namespace Go.Proofs.YtcchoeomeklgmaaGreatDoor.Core
open Go.RowKit Go.Shelf Go.Proofs.YtcchoeomeklgmaaGreatDoorW.PrintWords Go.Proofs.YtcchoeomeklgmaaGreatDoorW.PrintMore Go.Proofs.YtcchoeomeklgmaaGreatDoor.P1 Go.Proofs.YtcchoeomeklgmaaGreatDoor
open Go.Proofs.YtcchoeomeklgmaaGreatDoor.PAsmPrints (S56 k56 z56 S49 k49 z49 at_T49 at_T56 rd_T49 rd_T56 S59 k59 z59 S39 k39 z39 at_T39 at_T59 rd_T39 rd_T59)
set_option linter.unusedVariables false
set_option linter.unusedSimpArgs false
/-- A text, byte by byte, with blanks and notes. -/
def spreadN (note l : List UInt8) : List UInt8 := l.flatMap fun c => if c = 32 then [32, 32, 9] else if c = 10 then [13, 32, 35] ++ note ++ [10, 10] else [c]
theorem spreadN_app (note a b : List UInt8) : spreadN note (a ++ b) = spreadN note a ++ spreadN note b := by simp [spreadN]
theorem spreadN_line (note : List UInt8) : ∀ l : List UInt8, (10 : UInt8) ∉ l → spreadN note l = spread l
  | [], _ => rfl
  | c :: l, h => by
    have hc : c ≠ 10 := fun e => h (by rw [e]; exact List.mem_cons_self)
    have ih := spreadN_line note l (fun e => h (List.mem_cons_of_mem _ e))
    show (if c = 32 then [32, 32, 9] else if c = 10 then [13, 32, 35] ++ note ++ [10, 10] else [c]) ++ spreadN note l = (if c = 32 then [32, 32, 9] else [c]) ++ spread l
    rw [ih]
    by_cases h32 : c = 32
    · rw [if_pos h32, if_pos h32]
    · rw [if_neg h32, if_neg h32, if_neg hc]
theorem spread_join (note : List UInt8) : ∀ ls : List (List UInt8), (∀ l ∈ ls, (10 : UInt8) ∉ l) → spreadN note (joinN ls) = ls.flatMap fun l => notedL note l ++ [10, 10]
  | [], _ => rfl
  | l :: ls, h => by
    have e : joinN (l :: ls) = l ++ ([10] ++ joinN ls) := by simp [joinN]
    rw [e, spreadN_app, spreadN_app, spreadN_line note l (h l List.mem_cons_self), spread_join note ls (fun x hx => h x (List.mem_cons_of_mem _ hx))]
    have e2 : spreadN note [10] = [13, 32, 35] ++ note ++ [10, 10] := by simp [spreadN]
    rw [e2]
    simp [notedL]
theorem noted_is (note : List UInt8) (p : List Fn) (hg : GoodP p) : [35] ++ note ++ [10, 32, 9] ++ spreadN note (textT p) = notedT note (linesT p) := by
  unfold notedT textT
  rw [spread_join note (linesT p) (fun l hl => (linesT_ok p hg.2 l hl).1)]
theorem spreadN_len (note : List UInt8) (h : note.length ≤ 20) : ∀ l : List UInt8, (spreadN note l).length ≤ 25 * l.length
  | [] => by simp [spreadN]
  | c :: l => by
    have ih := spreadN_len note h l
    show ((if c = 32 then [32, 32, 9] else if c = 10 then [13, 32, 35] ++ note ++ [10, 10] else [c]) ++ spreadN note l).length ≤ _
    rw [List.length_append, List.length_cons]
    split
    · simp; omega
    · split
      · simp; omega
      · simp; omega
theorem spreadN_step (note l : List UInt8) (j : Nat) (h : j < l.length) : spreadN note (l.take (j + 1)) = spreadN note (l.take j) ++ (if l[j] = 32 then [32, 32, 9] else if l[j] = 10 then [13, 32, 35] ++ note ++ [10, 10] else [l[j]]) := by
  rw [List.take_succ_eq_append_getElem h, spreadN_app]
  simp [spreadN]
theorem ok_of {x : Except (Nat × Int) (List Fn)} {p : List Fn} (h : okOf x = some p) : x = .ok p := by
  cases x with
  | error e => cases h
  | ok q =>
    injection h with h
    rw [h]
theorem noted_parse (note : List UInt8) (hn : (10 : UInt8) ∉ note) (p : List Fn) (hg : GoodP p) : parseL [] 0 (splitB 10 ([35] ++ note ++ [10, 32, 9] ++ spreadN note (textT p))) = .ok p := by
  rw [noted_is note p hg]
  refine ok_of ?_
  rw [noted_back note hn (linesT p) (fun l hl => (linesT_ok p hg.2 l hl).1), parse_text p [] 0 (by simpa using hg.1) hg.2]
  rfl
theorem sum_most (p : List Fn) (m : Nat) (h : ∀ f ∈ p, f.2.length ≤ m) : (p.map fun f => f.2.length).sum ≤ m * p.length := by
  induction p with
  | nil => simp
  | cons f p ih =>
    have h1 := h f List.mem_cons_self
    have h2 := ih (fun x hx => h x (List.mem_cons_of_mem _ hx))
    simp only [List.map_cons, List.sum_cons, List.length_cons, Nat.mul_succ]
    omega
theorem text_short (p : List Fn) (hv : validB p = true) (h4 : Four p) : (textT p).length ≤ 65536 := by
  obtain ⟨h1, h2⟩ := valid_parts hv
  have hg := told_good (valid_told hv h4)
  have h3 := joinN_len (linesT p) 58 (fun l hl => (linesT_ok p hg.2 l hl).2)
  have h5 := sum_most p 64 (fun f hf => (h2 f hf).2.1.2)
  rw [linesT_len] at h3
  unfold textT
  omega
end Go.Proofs.YtcchoeomeklgmaaGreatDoor.Core
