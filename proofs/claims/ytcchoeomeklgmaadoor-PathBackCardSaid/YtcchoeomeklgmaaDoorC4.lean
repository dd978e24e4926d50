/- path.Read and haymowref05.Read, where they are called; the text of a path by the document. -/
import Derived.Test.YtcchoeomeklgmaaDoorC3
import Derived.Shelf.Unicode.PredsPay
import Derived.Lib.AppendIntMem
namespace Go.Proofs.YtcchoeomeklgmaaDoor.Core
open Go.RowKit Go.Shelf Go.Proofs.YtcchoeomeklgmaaDoorW.PrintWords Go.Proofs.YtcchoeomeklgmaaDoorW.PrintMore Go.Proofs.YtcchoeomeklgmaaDoor.P1 Go.Proofs.YtcchoeomeklgmaaDoor
set_option linter.unusedVariables false
set_option linter.unusedSimpArgs false
/-- A path and an error's number, read off what a call hands back. -/
def Reads (w : World) (e : Ending) (w' : World) (r : List Int × Int) : Prop :=
  ∃ A c, e = .returned (.tuple #[.slice A r.1.length c, .int .i64 r.2]) ∧ (Kd.int .i64).C w' A r.1.length r.1 ∧ r.1.length ≤ c ∧ Below w.heap.size w w'
theorem reads_own {w w' : World} {e : Ending} {u : Value} {r : List Int × Int} (he : e = .returned (.tuple #[u, .int .i64 r.2])) (ho : w'.ownsRow w.heap.size 3 1 u r.1.length (encs (Value.int .i64) r.1)) (hb : Below w.heap.size w w') : Reads w e w' r := by
  obtain ⟨A, c, rfl, hc, hr⟩ := own_reads_of_le (d := (0 : Int)) ho
  exact ⟨A, c, he, Kd.C_of_reads (enc := Value.int .i64) (d := (0 : Int)) (h1 := fun _ => rfl) hr, hc, hb⟩
theorem reads_nil {w w' : World} {e : Ending} {n : Int} (he : e = .returned (.tuple #[.slice none 0 0, .int .i64 n])) (hb : Below w.heap.size w w') : Reads w e w' ([], n) :=
  reads_own he (World.ownsRow_nil _ _ _ _) hb
set_option maxHeartbeats 2000000 in
theorem Read_any (t : List UInt8) (ht : t.length ≤ 10000000) (w : World) : Calls Tryd.prog 8 #[.string ⟨t.toArray⟩] w fun e w' => Reads w e w' (readL t) := by
  by_cases h : t = [46]
  · subst h
    have e : readL [46] = ([], 0) := by unfold readL; rw [if_pos rfl]
    rw [e]
    refine Calls.mono ?_ (fun e w' (h : e = .returned (.tuple #[.slice none 0 0, .int .i64 0]) ∧ Below w.heap.size w w') => reads_nil h.1 h.2)
    go_enter Tryd.func8, Tryd.ntmps8
    go_wp2_with fail
    have b3 := Boxed.new (w.alloc (.cells #[.slice none 0 0] 22)) 23 (.int .i64 0)
    rw [World.size_alloc] at b3
    refine bodyPost_ret (results_11 rfl _ _ _ _ _ _ rfl rfl (load22 _ _ _ ((Boxed.new w 22 (.slice none 0 0)).alloc _)) (load23 _ _ _ b3)) rfl ?_
    exact ⟨rfl, ((Below.refl _ _).alloc (Nat.le_refl _) _).alloc (by simp) _⟩
  · unfold readL
    rw [if_neg h]
    refine (read_range t ht h w).mono ?_
    rintro e w' (⟨u, he, ho, hl, hp, hb⟩ | ⟨he, hl, hp, hb⟩ | ⟨he, ⟨x, hx, hxf⟩, hb⟩)
    · have e1 : fin [] (splitB 46 t) = ((splitB 46 t).map atoiV, 0) := by
        unfold fin
        rw [if_pos (List.all_eq_true.2 hp), if_neg (by simp; omega)]
        simp
      rw [e1]
      refine reads_own he ?_ hb
      rw [List.length_map]
      exact ho
    · have e1 : fin [] (splitB 46 t) = ([], 3) := by
        unfold fin
        rw [if_pos (List.all_eq_true.2 hp), if_pos (by simp; omega)]
      rw [e1]
      exact reads_nil he hb
    · have e1 : fin [] (splitB 46 t) = ([], 4) := by
        unfold fin
        rw [if_neg (fun hh => by rw [List.all_eq_true] at hh; rw [hh x hx] at hxf; cases hxf)]
      rw [e1]
      exact reads_nil he hb
set_option maxHeartbeats 2000000 in
theorem rRead_any (t : List UInt8) (ht : t.length ≤ 1000) (w : World) : Calls Tryd.prog 9 #[.string ⟨t.toArray⟩] w fun e w' => Reads w e w' (readL t) := by
  by_cases h : t = [46]
  · subst h
    have e : readL [46] = ([], 0) := by unfold readL; rw [if_pos rfl]
    rw [e]
    refine Calls.mono ?_ (fun e w' (h : e = .returned (.tuple #[.slice none 0 0, .int .i64 0]) ∧ Below w.heap.size w w') => reads_nil h.1 h.2)
    go_enter Tryd.func9, Tryd.ntmps9
    go_wp2_with fail
    go_ret2
    exact ⟨rfl, Below.refl _ _⟩
  · unfold readL
    rw [if_neg h]
    refine (rread_range t ht h w).mono ?_
    rintro e w' ⟨u, he, ho, hb⟩
    exact reads_own he (Kd.own_of_R ho) hb
theorem dig_ext (d : Nat) (h : d < 10) : ((⟨#[48, 49, 50, 51, 52, 53, 54, 55, 56, 57]⟩ : ByteArray).extract d (d + 1)) = bx [UInt8.ofNat (48 + d)] := by
  have h2 : ∀ n : Fin 10, ((⟨#[48, 49, 50, 51, 52, 53, 54, 55, 56, 57]⟩ : ByteArray).extract n.val (n.val + 1)) = bx [UInt8.ofNat (48 + n.val)] := by decide +kernel
  exact h2 ⟨d, h⟩
theorem bx_app (a b : List UInt8) : bx a ++ bx b = bx (a ++ b) := by
  apply ByteArray.ext
  apply Array.ext'
  simp [bx]
theorem digits_f : ∀ (k n : Nat), n < 10 ^ k → k ≤ 1000 → n < 9223372036854775808 → haymowref04_Digits.f k (n : Int) = some (bx (Lib.decDigits n)) ∧ (Lib.decDigits n).length ≤ k ∨ k = 0
  | 0, n, h, _, _ => .inr rfl
  | k + 1, n, h, hk, h63 => by
    left
    have e1 : ∀ m : Nat, m < 10 → wrap64 ((m : Int) + 1) = ((m + 1 : Nat) : Int) := fun m hm => by rw [Core.wr (by omega) (by omega)]; rfl
    rw [haymowref04_Digits.f.eq_2, if_neg (by omega)]
    by_cases h10 : n < 10
    · rw [if_pos (by omega), if_pos (by omega), e1 n h10, if_pos (by omega), if_pos (by omega)]
      have : Lib.decDigits n = [UInt8.ofNat (48 + n)] := by rw [Lib.decDigits, dif_pos h10]
      rw [this]
      refine ⟨?_, by simp⟩
      congr 1
      exact dig_ext n h10
    · rw [if_neg (by omega)]
      have ed : wrap64 (Int.tdiv (n : Int) 10) = ((n / 10 : Nat) : Int) := by
        rw [show Int.tdiv (n : Int) 10 = ((n / 10 : Nat) : Int) from (Int.ofNat_tdiv n 10).symm]
        unfold wrap64; omega
      have em : Int.tmod (n : Int) 10 = ((n % 10 : Nat) : Int) := (Int.ofNat_tmod n 10).symm
      have hk0 : k ≠ 0 := by
        rintro rfl
        simp at h
        omega
      obtain ⟨ih, il⟩ := (digits_f k (n / 10) (by rw [Nat.pow_succ] at h; omega) (by omega) (by omega)).resolve_right hk0
      rw [ed, em, ih, e1 _ (by omega)]
      rw [Option.bind_some, if_pos (by omega), if_pos (by omega), if_pos (by omega)]
      have e2 : (⟨#[48, 49, 50, 51, 52, 53, 54, 55, 56, 57]⟩ : ByteArray).extract (((n % 10 : Nat) : Int)).toNat (((n % 10 + 1 : Nat) : Int)).toNat = bx [UInt8.ofNat (48 + n % 10)] := dig_ext (n % 10) (by omega)
      rw [e2, bx_size, bx_size]
      have e3 : Lib.decDigits n = Lib.decDigits (n / 10) ++ [UInt8.ofNat (48 + n % 10)] := by rw [Lib.decDigits, dif_neg h10]
      rw [if_pos (by simp; omega), bx_app, e3]
      exact ⟨rfl, by rw [List.length_append]; simp; omega⟩
/-- The text of a path. -/
def textL (p : List Int) : List UInt8 := if p = [] then [46] else Lib.join (p.map Lib.itoa) [46]
theorem digits_i (k : Nat) (x : Int) (h0 : 0 ≤ x) (h1 : x < 9223372036854775808) (hk : 19 ≤ k) (hk2 : k ≤ 1000) : haymowref04_Digits.f k x = some (bx (Lib.itoa x)) ∧ (Lib.itoa x).length ≤ k := by
  obtain ⟨n, rfl⟩ := Int.eq_ofNat_of_zero_le h0
  have e : Lib.itoa (n : Int) = Lib.decDigits n := by unfold Lib.itoa; rw [if_neg (by omega), Int.toNat_natCast]
  rw [e]
  have hp : 10 ^ 19 ≤ 10 ^ k := Nat.pow_le_pow_right (by omega) hk
  have hn : n < 10 ^ 19 := by omega
  exact (digits_f k n (Nat.lt_of_lt_of_le hn hp) hk2 (by omega)).resolve_right (by omega)
theorem rtext_l (p : List Int) (hp : ∀ x ∈ p, 0 ≤ x ∧ x < 9223372036854775808) (hlen : p.length ≤ 100) (d : Nat) : ∀ (k i : Nat) (s : List UInt8), p.length - i = d → i ≤ p.length → d + 30 ≤ k → k ≤ 1000 → s.length ≤ 2000 * (i + 1) →
    haymowref05_Text.l0 k p (bx s) (i : Int) = some (bx (s ++ Lib.joinTail [46] ((p.drop i).map Lib.itoa))) := by
  induction d with
  | zero =>
    intro k i s hd hi hk hk2 hs
    obtain ⟨k, rfl⟩ : ∃ m, k = m + 1 := ⟨k - 1, by omega⟩
    obtain rfl : i = p.length := by omega
    rw [haymowref05_Text.l0.eq_2, if_neg (by omega), List.drop_length]
    simp [Lib.joinTail]
  | succ d ih =>
    intro k i s hd hi hk hk2 hs
    obtain ⟨k, rfl⟩ : ∃ m, k = m + 1 := ⟨k - 1, by omega⟩
    cases ha2 : p.drop i with
    | nil => have := nil_at ha2; omega
    | cons x r =>
      obtain ⟨r1, l1, e1⟩ := rd_at ha2
      have hx : x ∈ p := List.mem_of_mem_drop (by rw [ha2]; exact List.mem_cons_self)
      obtain ⟨hd1, hd2⟩ := digits_i k x (hp x hx).1 (hp x hx).2 (by omega) (by omega)
      rw [haymowref05_Text.l0.eq_2, if_pos (by omega), if_pos (by omega), r1, hd1, Option.bind_some, bx_size, if_pos (by omega)]
      have ea : (⟨#[46]⟩ : ByteArray) ++ bx (Lib.itoa x) = bx ([46] ++ Lib.itoa x) := bx_app [46] _
      rw [ea, bx_size, bx_size, if_pos (by simp; omega), bx_app, Core.wr (by omega) (by omega)]
      have h := ih k (i + 1) (s ++ ([46] ++ Lib.itoa x)) (by omega) (by omega) (by omega) (by omega) (by simp; omega)
      rw [show ((i : Int) + 1) = ((i + 1 : Nat) : Int) from rfl, h, e1]
      simp [Lib.joinTail]
theorem rtext_f (p : List Int) (hp : ∀ x ∈ p, 0 ≤ x ∧ x < 9223372036854775808) (hlen : p.length ≤ 100) : haymowref05_Text.f (p.length + 40) p = some (bx (textL p)) := by
  unfold haymowref05_Text.f textL
  cases p with
  | nil => rw [if_pos (by rfl), if_pos rfl]
  | cons x r =>
    rw [if_neg (show ¬ (((x :: r).length : Int) = 0) by rw [List.length_cons]; omega), if_pos (show 0 < ((x :: r).length : Int) by rw [List.length_cons]; omega), if_neg (show ¬ (x :: r = []) by simp)]
    have hr : rd (x :: r) 0 = x := rfl
    obtain ⟨hd1, hd2⟩ := digits_i ((x :: r).length + 40) x (hp x List.mem_cons_self).1 (hp x List.mem_cons_self).2 (by omega) (by omega)
    rw [hr, hd1, Option.bind_some]
    have h := rtext_l (x :: r) hp hlen r.length ((x :: r).length + 40) 1 (Lib.itoa x) (by rw [List.length_cons]; omega) (by rw [List.length_cons]; omega) (by rw [List.length_cons]; omega) (by omega) (by omega)
    rw [show ((1 : Int)) = ((1 : Nat) : Int) from rfl, h, List.map_cons, Lib.join_cons]
    rfl
theorem rText_any (p : List Int) (A : Option Addr) (c : Nat) (w : World) (hC : (Kd.int .i64).C w A p.length p) (hc : p.length ≤ c) (hp : ∀ x ∈ p, 0 ≤ x ∧ x < 9223372036854775808) (hlen : p.length ≤ 100) :
    Calls Tryd.prog 12 #[.slice A p.length c] w fun e w' => e = .returned (.string (bx (textL p))) ∧ Below w.heap.size w w' :=
  haymowref05_Text.calls _ A c p _ w hC hc (rtext_f p hp hlen)
/-- The table that strconv reads is as it was laid. -/
def Tab (w : World) : Prop := Lib.TabIs Tryd.prog w "internal/strconv.uint64pow10" .u64 Lib.pow10Tab
theorem tells_any (w : World) (x : Int) (h0 : 0 ≤ x) (h1 : x < 9223372036854775808) (ht : Tab w) : Tells w x := by
  refine (Tryd.strconv_Itoa x (by omega) (by omega) w ht).mono ?_
  rintro e w' ⟨rfl, k, os, rfl⟩
  exact ⟨rfl, Lib.below_grow _ _ (Nat.le_refl _) _ _⟩
end Go.Proofs.YtcchoeomeklgmaaDoor.Core
