/- eval: what the called deed comes to, whichever it is. -/
import Derived.Test.YtbiajfkencamiaaGreatDoorE8
import Derived.Test.YtbiajfkencamiaaGreatDoorE7b
/-! E9 -/
namespace Go.Proofs.YtbiajfkencamiaaGreatDoor.EV
open Go.Proofs.YtbiajfkencamiaaGreatDoorW.PrintMore Go.Proofs.YtbiajfkencamiaaGreatDoor Go.Proofs.YtbiajfkencamiaaGreatDoor.Core Go.RowKit Go.Proofs.YtbiajfkencamiaaGreatDoorW.PrintWords
set_option linter.unusedVariables false
set_option linter.unusedSimpArgs false
/-- What a deed answers. -/
def DP (c : Cx) (wb Z : World) (gt : Nat) (r : DRes) (en : Ending) (X : World) : Prop :=
  Kq [142, 2, 229] wb X ∧ Below c.base c.w00 X ∧ match r with
  | .go e2 t2 => en = .returned (.tuple #[]) ∧ c.ev X e2 ∧ TkR wb.heap.size gt c.gw X t2 ∧ Km Z X
  | .stop o => OutR c X en o
section
variable {c : Cx} {wb Z X : World} {gt : Nat} {e : Ev} {t t2 : Tk} {en : Ending}
theorem DP.ofUpd (hT : TkR wb.heap.size gt c.gw Z t) (hE : c.ev Z e) (hB : Below c.base c.w00 Z) (hbz : c.base ≤ wb.heap.size) (hK : Kq [142, 2, 229] wb Z) (hu : Upd gt Z X) : Kq [142, 2, 229] wb X ∧ Below c.base c.w00 X ∧ c.ev X e := by
  obtain ⟨cb, hcb⟩ := hT.blk
  exact ⟨hK.upd hu hT.hb, hB.trans (hu.low _ (Nat.le_trans hbz hT.hb) hB.size), EvR.keep hE (hu.kq hcb) (by decide) (by decide) (by decide)⟩
theorem DP.ofDG (hT : TkR wb.heap.size gt c.gw Z t) (hE : c.ev Z e) (hB : Below c.base c.w00 Z) (hbz : c.base ≤ wb.heap.size) (hK : Kq [142, 2, 229] wb Z) (h : DG wb.heap.size gt c.gw Z t2 en X) : DP c wb Z gt (.go e t2) en X := by
  obtain ⟨h1, h2, h3⟩ := DP.ofUpd hT hE hB hbz hK h.2.1
  exact ⟨h1, h2, h.1, h3, h.2.2, (h.2.1.kq hT.blk.choose_spec).km⟩
theorem DP.ofDF {why : Int} (hT : TkR wb.heap.size gt c.gw Z t) (hE : c.ev Z e) (hB : Below c.base c.w00 Z) (hbz : c.base ≤ wb.heap.size) (hK : Kq [142, 2, 229] wb Z) (h : DF gt Z why en X) : DP c wb Z gt (.stop (.fail e why)) en X := by
  obtain ⟨h1, h2, h3⟩ := DP.ofUpd hT hE hB hbz hK h.2
  exact ⟨h1, h2, h.1, h3⟩
end
abbrev insV (i : Int × List Int) : Value := .agg #[.int .i64 i.1, .int .i64 (fd i 0), .int .i64 (fd i 1), .int .i64 (fd i 2), .int .i64 (fd i 3)]
theorem reg_nat {n : Int} (h : regOk n) : ∃ a : Nat, n = (a : Int) ∧ a < 8 := by
  obtain ⟨a, ha⟩ := Int.eq_ofNat_of_zero_le h.1
  exact ⟨a, ha, by have := h.2; omega⟩
theorem hand_nat {n : Int} (h : handOk n) : ∃ a : Nat, n = (a : Int) ∧ a < 4 := by
  obtain ⟨a, ha⟩ := Int.eq_ofNat_of_zero_le h.1
  exact ⟨a, ha, by have := h.2; omega⟩
/-- What a deed that begins a kid comes to. -/
theorem deed_kid {c : Cx} (m : Nat) (o : Int) (ho : o = 11 ∨ o = 13) {fs : List Int} {e : Ev} {t : Tk} {x y z n : Nat} (hA : fd (o, fs) 0 = (x : Int)) (hB : fd (o, fs) 1 = (y : Int)) (hC : fd (o, fs) 2 = (z : Int)) (hn : arityOf c.p (z : Int) = (n : Int)) (h8 : t.regs.length = 8) (hra : y + n ≤ 8) (hd : ¬ (t.dep : Int) = c.D) :
    deed c.p c.D (runF c.p c.B c.D m) (o, fs) e t = (match kidOut c m e t y z n with
      | .ok e2 v => .go e2 (tkOf t x (o == 11) (.ok e2 v))
      | o' => .stop o') := by
  have hp : (t.regs.drop y).take n ++ List.replicate (8 - n) (0 : Int) = padR ((t.regs.drop y).take n) := by
    unfold padR
    rw [show ((t.regs.drop y).take n).length = n from by rw [List.length_take, List.length_drop, h8]; omega]
  rcases ho with rfl | rfl
  · show (if (t.dep : Int) = c.D then _ else _) = _
    rw [if_neg hd, hA, hB, hC, hn]
    simp only [Int.toNat_natCast]
    rw [hp]
    unfold kidOut tk0
    cases runF c.p c.B c.D m _ _ _ <;> rfl
  · show (if (t.dep : Int) = c.D then _ else _) = _
    rw [if_neg hd, hA, hB, hC, hn]
    simp only [Int.toNat_natCast]
    rw [hp]
    unfold kidOut tk0
    cases runF c.p c.B c.D m _ _ _ <;> rfl
def deedF : List Nat := [204, 205, 206, 207, 208, 209, 210, 211, 212, 213, 214, 167, 215, 216, 217, 218]
theorem deed_call {c : Cx} (hc : c.Ok) (m : Nat) (HR : RunSpec c m) {wb Z : World} {gt mb : Nat} {e : Ev} {t : Tk} (fn : Fn) (i : Int × List Int) (hop : OpF c.p fn i) (h17 : i.1 ≠ 17) (hT : TkR wb.heap.size gt c.gw Z t) (hE : c.ev Z e) (heo : EvS e) (hl : e.left < m)
    (hw : ∀ x ∈ t.wait, regOk x.1) (hwl : t.wait.length ≤ big) (hkl : t.kids ≤ big) (hdl : (t.dep : Int) ≤ c.D) (hB : Below c.base c.w00 Z) (hbz : c.base ≤ wb.heap.size) (hK : Kq [142, 2, 229] wb Z) (hM : MapD Z mb) :
    ∃ F : Nat, F ∈ deedF ∧ (Instr.lookup 305 (.map (some mb)) (.int .i64 i.1) false).run Tryz.prog Z = .ok (.func (.func F) #[] #[]) Z ∧ Calls Tryz.prog F #[.pointer (some ⟨gt, 0, none⟩), insV i] Z (DP c wb Z gt (deed c.p c.D (runF c.p c.B c.D m) i e t)) := by
  obtain ⟨o, fs⟩ := i
  obtain ⟨A, hA⟩ : ∃ A, fd (o, fs) 0 = A := ⟨_, rfl⟩
  obtain ⟨B, hBf⟩ : ∃ B, fd (o, fs) 1 = B := ⟨_, rfl⟩
  obtain ⟨C, hC⟩ : ∃ C, fd (o, fs) 2 = C := ⟨_, rfl⟩
  obtain ⟨K, hKf⟩ : ∃ K, fd (o, fs) 3 = K := ⟨_, rfl⟩
  have hb : big ≤ 1000000 := by decide
  have hm : ∀ (k : Int) (f : Nat), (k, f) ∈ deedsL → 0 ≤ k ∧ k ≤ 1000 → 0 < f → (Instr.lookup 305 (.map (some mb)) (.int .i64 k) false).run Tryz.prog Z = .ok (.func (.func f) #[] #[]) Z := fun k f h1 h2 h3 => hM.look k f h1 h2 h3
  cases hop with
  | set ho a k =>
    obtain rfl : o = 1 := ho
    refine ⟨204, by decide, hm 1 204 (by simp [deedsL]) (by decide) (by decide), ?_⟩
    rw [hA] at a
    obtain ⟨x, rfl, hx⟩ := reg_nat a
    unfold insV
    rw [hA]
    refine (tset_any hT 1 x _ _ _ hx).mono fun en w' h => ?_
    have := DP.ofDG hT hE hB hbz hK h
    simpa [deed, Tk.put, hA] using this
  | move ho a b =>
    obtain rfl : o = 2 := ho
    refine ⟨205, by decide, hm 2 205 (by simp [deedsL]) (by decide) (by decide), ?_⟩
    rw [hA] at a
    rw [hBf] at b
    obtain ⟨x, rfl, hx⟩ := reg_nat a
    obtain ⟨y, rfl, hy⟩ := reg_nat b
    unfold insV
    rw [hA, hBf]
    refine (tmove_any hT 2 x y _ _ hx hy).mono fun en w' h => ?_
    have := DP.ofDG hT hE hB hbz hK h
    simpa [deed, Tk.put, Tk.reg, hA, hBf] using this
  | arith ho a b c' =>
    rw [hA] at a
    rw [hBf] at b
    rw [hC] at c'
    obtain ⟨x, rfl, hx⟩ := reg_nat a
    obtain ⟨y, rfl, hy⟩ := reg_nat b
    obtain ⟨z, rfl, hz⟩ := reg_nat c'
    have ho' : o = 3 ∨ o = 4 ∨ o = 5 ∨ o = 6 ∨ o = 7 ∨ o = 8 := by have : 3 ≤ o ∧ o ≤ 8 := ho; omega
    rcases ho' with rfl | rfl | rfl | rfl | rfl | rfl
    · refine ⟨206, by decide, hm 3 206 (by simp [deedsL]) (by decide) (by decide), ?_⟩
      unfold insV
      rw [hA, hBf, hC]
      refine (tadd_any hT 3 x y z _ hx hy hz).mono fun en w' h => ?_
      have := DP.ofDG hT hE hB hbz hK h
      simpa [deed, Tk.put, Tk.reg, hA, hBf, hC] using this
    · refine ⟨207, by decide, hm 4 207 (by simp [deedsL]) (by decide) (by decide), ?_⟩
      unfold insV
      rw [hA, hBf, hC]
      refine (tsub_any hT 4 x y z _ hx hy hz).mono fun en w' h => ?_
      have := DP.ofDG hT hE hB hbz hK h
      simpa [deed, Tk.put, Tk.reg, hA, hBf, hC] using this
    · refine ⟨208, by decide, hm 5 208 (by simp [deedsL]) (by decide) (by decide), ?_⟩
      unfold insV
      rw [hA, hBf, hC]
      refine (tmul_any hT 5 x y z _ hx hy hz).mono fun en w' h => ?_
      have := DP.ofDG hT hE hB hbz hK h
      simpa [deed, Tk.put, Tk.reg, hA, hBf, hC] using this
    · refine ⟨209, by decide, hm 6 209 (by simp [deedsL]) (by decide) (by decide), ?_⟩
      unfold insV
      rw [hA, hBf, hC]
      by_cases h0 : t.regs.getD z 0 = 0
      · refine (tdiv_zero hT 6 x y z _ hz h0).mono fun en w' h => ?_
        have := DP.ofDF hT hE hB hbz hK h
        have hd : deed c.p c.D (runF c.p c.B c.D m) (6, fs) e t = .stop (.fail e 1) := by
          show (if t.reg (fd (6, fs) 2) = 0 then _ else _) = _
          rw [hC, if_pos (by simpa [Tk.reg] using h0)]
        rw [hd]
        exact this
      · refine (tdiv_any hT 6 x y z _ hx hy hz h0).mono fun en w' h => ?_
        have := DP.ofDG hT hE hB hbz hK h
        have hd : deed c.p c.D (runF c.p c.B c.D m) (6, fs) e t = .go e (t.put (fd (6, fs) 0) (wr ((t.reg (fd (6, fs) 1)).tdiv (t.reg (fd (6, fs) 2))))) := by
          show (if t.reg (fd (6, fs) 2) = 0 then _ else _) = _
          rw [hC, if_neg (by simpa [Tk.reg] using h0)]
        rw [hd, hA, hBf, hC]
        simpa [Tk.put, Tk.reg] using this
    · refine ⟨210, by decide, hm 7 210 (by simp [deedsL]) (by decide) (by decide), ?_⟩
      unfold insV
      rw [hA, hBf, hC]
      refine (tless_any hT 7 x y z _ hx hy hz).mono fun en w' h => ?_
      have := DP.ofDG hT hE hB hbz hK h
      simpa [deed, Tk.put, Tk.reg, hA, hBf, hC] using this
    · refine ⟨211, by decide, hm 8 211 (by simp [deedsL]) (by decide) (by decide), ?_⟩
      unfold insV
      rw [hA, hBf, hC]
      refine (tsame_any hT 8 x y z _ hx hy hz).mono fun en w' h => ?_
      have := DP.ofDG hT hE hB hbz hK h
      simpa [deed, Tk.put, Tk.reg, hA, hBf, hC] using this
  | jump ho k =>
    obtain rfl : o = 9 := ho
    refine ⟨212, by decide, hm 9 212 (by simp [deedsL]) (by decide) (by decide), ?_⟩
    rw [hKf] at k
    obtain ⟨x, rfl⟩ := Int.eq_ofNat_of_zero_le k.1
    unfold insV
    rw [hKf]
    refine (tjump_any hT 9 _ _ _ x).mono fun en w' h => ?_
    have := DP.ofDG hT hE hB hbz hK h
    simpa [deed, hKf] using this
  | zero ho a k =>
    obtain rfl : o = 10 := ho
    refine ⟨213, by decide, hm 10 213 (by simp [deedsL]) (by decide) (by decide), ?_⟩
    rw [hKf] at k
    rw [hA] at a
    obtain ⟨x, rfl⟩ := Int.eq_ofNat_of_zero_le k.1
    obtain ⟨y, rfl, hy⟩ := reg_nat a
    unfold insV
    rw [hKf, hA]
    refine (tzero_any hT 10 y _ _ x hy).mono fun en w' h => ?_
    have := DP.ofDG hT hE hB hbz hK h
    simpa [deed, Tk.reg, hKf, hA] using this
  | spawn ho a b c' ar =>
    obtain rfl : o = 11 := ho
    refine ⟨214, by decide, hm 11 214 (by simp [deedsL]) (by decide) (by decide), ?_⟩
    rw [hA] at a
    rw [hBf] at b ar
    rw [hC] at c' ar
    obtain ⟨x, rfl, hx⟩ := reg_nat a
    obtain ⟨y, rfl, hy⟩ := reg_nat b
    obtain ⟨z, rfl⟩ := Int.eq_ofNat_of_zero_le c'.1
    have hz : z < c.p.length := by have := c'.2; omega
    have hfn := (valid_fn hc.valid z hz).ar
    obtain ⟨n, hn⟩ := Int.eq_ofNat_of_zero_le (show 0 ≤ arityOf c.p (z : Int) from hfn.1)
    have hra : y + n ≤ 8 := by
      have ar' : arityOf c.p (z : Int) ≤ 8 - (y : Int) := ar
      rw [hn] at ar'
      omega
    unfold insV
    rw [hA, hBf, hC]
    by_cases hd : (t.dep : Int) = c.D
    · refine (tspawn_deep 11 x y z _ hT hE hd).mono fun en w' h => ?_
      have := DP.ofDF hT hE hB hbz hK h
      have hdd : deed c.p c.D (runF c.p c.B c.D m) (11, fs) e t = .stop (.fail e 4) := by
        show (if (t.dep : Int) = c.D then _ else _) = _
        rw [if_pos hd]
      rw [hdd]
      exact this
    · refine (tspawn_any hc m HR 11 x y z n _ hT hE heo hl (by omega) (by omega) hdl hz hy hn hra hB hbz hK hd).mono fun en w' h => ?_
      rw [deed_kid (x := x) (y := y) (z := z) (n := n) m 11 (by simp) hA hBf hC hn hT.regs hra hd]
      obtain ⟨k1, k2, k3⟩ := h
      cases hk : kidOut c m e t y z n with
      | ok e2 v =>
        rw [hk] at k3
        exact ⟨k1, k2, k3⟩
      | fail e2 why =>
        rw [hk] at k3
        exact ⟨k1, k2, k3⟩
      | long e2 =>
        rw [hk] at k3
        exact ⟨k1, k2, k3⟩
  | sync ho =>
    obtain rfl : o = 12 := ho
    refine ⟨167, by decide, hm 12 167 (by simp [deedsL]) (by decide) (by decide), ?_⟩
    refine (tsync_any hT hw (by omega) 12 _ _ _ _).mono fun en w' h => ?_
    exact DP.ofDG hT hE hB hbz hK h
  | future ho a b c' ar =>
    obtain rfl : o = 13 := ho
    refine ⟨215, by decide, hm 13 215 (by simp [deedsL]) (by decide) (by decide), ?_⟩
    rw [hA] at a
    rw [hBf] at b ar
    rw [hC] at c' ar
    obtain ⟨x, rfl, hx⟩ := hand_nat a
    obtain ⟨y, rfl, hy⟩ := reg_nat b
    obtain ⟨z, rfl⟩ := Int.eq_ofNat_of_zero_le c'.1
    have hz : z < c.p.length := by have := c'.2; omega
    have hfn := (valid_fn hc.valid z hz).ar
    obtain ⟨n, hn⟩ := Int.eq_ofNat_of_zero_le (show 0 ≤ arityOf c.p (z : Int) from hfn.1)
    have hra : y + n ≤ 8 := by
      have ar' : arityOf c.p (z : Int) ≤ 8 - (y : Int) := ar
      rw [hn] at ar'
      omega
    unfold insV
    rw [hA, hBf, hC]
    by_cases hd : (t.dep : Int) = c.D
    · refine (tfuture_deep 13 x y z _ hx hT hE hd).mono fun en w' h => ?_
      have := DP.ofDF hT hE hB hbz hK h
      have hdd : deed c.p c.D (runF c.p c.B c.D m) (13, fs) e t = .stop (.fail e 4) := by
        show (if (t.dep : Int) = c.D then _ else _) = _
        rw [if_pos hd]
      rw [hdd]
      exact this
    · refine (tfuture_any hc m HR 13 x y z n _ hT hE heo hl (by omega) (by omega) hdl hx hz hy hn hra hB hbz hK hd).mono fun en w' h => ?_
      rw [deed_kid (x := x) (y := y) (z := z) (n := n) m 13 (by simp) hA hBf hC hn hT.regs hra hd]
      obtain ⟨k1, k2, k3⟩ := h
      cases hk : kidOut c m e t y z n with
      | ok e2 v =>
        rw [hk] at k3
        exact ⟨k1, k2, k3⟩
      | fail e2 why =>
        rw [hk] at k3
        exact ⟨k1, k2, k3⟩
      | long e2 =>
        rw [hk] at k3
        exact ⟨k1, k2, k3⟩
  | touch ho a b =>
    obtain rfl : o = 14 := ho
    refine ⟨216, by decide, hm 14 216 (by simp [deedsL]) (by decide) (by decide), ?_⟩
    rw [hA] at a
    rw [hBf] at b
    obtain ⟨x, rfl, hx⟩ := reg_nat a
    obtain ⟨y, rfl, hy⟩ := hand_nat b
    unfold insV
    rw [hA, hBf]
    cases h0 : (t.hands.getD y (false, 0)).1 with
    | false =>
      refine (ttouch_no hT 14 x y _ _ hy h0).mono fun en w' h => ?_
      have := DP.ofDF hT hE hB hbz hK h
      have hd : deed c.p c.D (runF c.p c.B c.D m) (14, fs) e t = .stop (.fail e 2) := by
        show (if (t.hands.getD (fd (14, fs) 1).toNat (false, 0)).1 = true then _ else _) = _
        rw [hBf, Int.toNat_natCast, h0]
        rfl
      rw [hd]
      exact this
    | true =>
      refine (ttouch_any hT 14 x y _ _ hx hy h0).mono fun en w' h => ?_
      have := DP.ofDG hT hE hB hbz hK h
      have hd : deed c.p c.D (runF c.p c.B c.D m) (14, fs) e t = .go e (t.put (fd (14, fs) 0) (t.hands.getD (fd (14, fs) 1).toNat (false, 0)).2) := by
        show (if (t.hands.getD (fd (14, fs) 1).toNat (false, 0)).1 = true then _ else _) = _
        rw [hBf, Int.toNat_natCast, h0]
        rfl
      rw [hd, hA, hBf, Int.toNat_natCast]
      simpa [Tk.put] using this
  | emit ho a =>
    obtain rfl : o = 15 := ho
    refine ⟨217, by decide, hm 15 217 (by simp [deedsL]) (by decide) (by decide), ?_⟩
    rw [hA] at a
    obtain ⟨x, rfl, hx⟩ := reg_nat a
    unfold insV
    rw [hA]
    refine (temit_any hT hE hB hB.size (by have := heo.told; omega) 15 x _ _ _ hx).mono fun en w' h => ?_
    obtain ⟨h1, h2, h3, h4, h5⟩ := h
    have hd : deed c.p c.D (runF c.p c.B c.D m) (15, fs) e t = .go { e with told := e.told ++ [t.regs.getD x 0] } t := by
      show DRes.go { e with told := e.told ++ [t.reg (fd (15, fs) 0)] } t = _
      rw [hA]
      simp [Tk.reg]
    rw [hd]
    exact ⟨hK.trans (h2.more (by intro t ht; simp at ht; rcases ht with rfl | rfl <;> simp)), h3, h1, h5, h4, h2.km⟩
  | fail ho k =>
    obtain rfl : o = 16 := ho
    refine ⟨218, by decide, hm 16 218 (by simp [deedsL]) (by decide) (by decide), ?_⟩
    refine (tfail_any hT 16 _ _ _ _).mono fun en w' h => ?_
    exact DP.ofDF hT hE hB hbz hK h
  | ret ho a => exact absurd ho h17
end Go.Proofs.YtbiajfkencamiaaGreatDoor.EV
