/- The text of a path by the program; what the laws' other callees come to. -/
import Derived.Test.YtcchoeomeklgmaaDoorC4
namespace Go.Proofs.YtcchoeomeklgmaaDoor.Core
open Go.RowKit Go.Shelf Go.Proofs.YtcchoeomeklgmaaDoorW.PrintWords Go.Proofs.YtcchoeomeklgmaaDoorW.PrintMore Go.Proofs.YtcchoeomeklgmaaDoor.P1 Go.Proofs.YtcchoeomeklgmaaDoor
set_option linter.unusedVariables false
set_option linter.unusedSimpArgs false
theorem lens_le (m : Nat) : ∀ l : List (List UInt8), (∀ x ∈ l, x.length ≤ m) → Lib.lens l ≤ m * l.length
  | [], _ => by simp [Lib.lens]
  | x :: l, h => by
    have ih := lens_le m l (fun y hy => h y (List.mem_cons_of_mem _ hy))
    have h1 := h x List.mem_cons_self
    have e : Lib.lens (x :: l) = x.length + Lib.lens l := by simp [Lib.lens]
    rw [e, List.length_cons, Nat.mul_succ]
    omega
theorem Tab.below {w w' : World} (h : Tab w) (hb : Below w.heap.size w w') : Tab w' := TabIs_below (g := 5) (by kernel_rfl) h hb
theorem text_len (p : List Int) (hp : ∀ x ∈ p, 0 ≤ x ∧ x < 9223372036854775808) (hlen : p.length ≤ 100) : (Lib.join (p.map Lib.itoa) [46]).length ≤ 3000 := by
  cases p with
  | nil => simp [Lib.join_nil]
  | cons x r =>
    rw [List.map_cons, Lib.join_length]
    have h := lens_le 19 (Lib.itoa x :: r.map Lib.itoa) (fun y hy => by
      rw [← List.map_cons] at hy
      obtain ⟨z, hz, rfl⟩ := List.mem_map.1 hy
      exact (digits_i 19 z (hp z hz).1 (hp z hz).2 (by omega) (by omega)).2)
    simp only [List.length_cons, List.length_map, List.length_nil] at h hlen ⊢
    omega
set_option maxHeartbeats 2000000 in
theorem Text_whole (p : List Int) (A : Option Addr) (c : Nat) (w : World) (ht : Tab w) (hC : (Kd.int .i64).C w A p.length p) (hp : ∀ x ∈ p, 0 ≤ x ∧ x < 9223372036854775808) (hlen : p.length ≤ 100) :
    Calls Tryd.prog 11 #[.slice A p.length c] w fun e w' => e = .returned (.string (bx (textL p))) ∧ Below w.heap.size w w' := by
  cases p with
  | nil =>
    clear hC hp
    go_enter Tryd.func11, Tryd.ntmps11
    go_wp2_with fail
    go_ret
    exact ⟨rfl, Below.refl _ _⟩
  | cons x r =>
    have e : textL (x :: r) = Lib.join ((x :: r).map Lib.itoa) [46] := by unfold textL; rw [if_neg (by simp)]
    rw [e]
    exact Text_any (x :: r) A c w hC (by omega) (by simp) (fun y hy w' hb => tells_any w' y (hp y hy).1 (hp y hy).2 (ht.below hb)) (by have := text_len (x :: r) hp hlen; omega)
theorem readL_len (t : List UInt8) : (readL t).1.length ≤ 30 := by
  unfold readL
  split
  · simp
  · unfold fin
    split
    · split
      · simp
      · rename_i h
        simp at h ⊢
        omega
    · simp
theorem same_any (a : List Int) (A0 A1 : Option Addr) (c0 c1 : Nat) (w : World) (h0 : (Kd.int .i64).C w A0 a.length a) (g0 : a.length ≤ c0) (h1 : (Kd.int .i64).C w A1 a.length a) (g1 : a.length ≤ c1) (ha : a.length ≤ 1000000) :
    Calls Tryd.prog 10 #[.slice A0 a.length c0, .slice A1 a.length c1] w fun e w' => e = .returned (.bool true) ∧ Drawn0 w w' := by
  have h := same_f a a ha ha
  rw [cmpL_refl] at h
  exact haymowlaw05_same.calls _ A0 c0 a A1 c1 a _ w h0 g0 h1 g1 h
end Go.Proofs.YtcchoeomeklgmaaDoor.Core
