/- Plain laws: a job's own events; what is done adds up. What the walks of this chapter share. The jobs that have events, in plain Lean. audit.Jobs: which jobs have events, rising. -/
import Derived.Test.YtceankldidkohaaDoorCS
import Derived.Test.YtceankldidkohaaDoorC6
import Derived.LaidSub
import Derived.Test.YtceankldidkohaaDoorP2
import Derived.Test.YtceankldidkohaaDoorKeys
/-! Plain laws: a job's own events; what is done adds up. -/
namespace Go.Proofs.YtceankldidkohaaDoor.Core
open Go.RowKit Go.Proofs.YtceankldidkohaaDoorW.PrintWords Go.Proofs.YtceankldidkohaaDoorW.PrintMore Go.Proofs.YtceankldidkohaaDoor.PAuditTwice Go.Proofs.YtceankldidkohaaDoor
set_option linter.unusedVariables false
set_option linter.unusedSimpArgs false
theorem snd_take {xs : List S28} (h : sndL [] xs = true) (m : Nat) : sndL [] (xs.take m) = true := by
  have e := sndL_app [] (xs.take m) (xs.drop m)
  rw [List.take_append_drop, h] at e
  have e := e.symm
  rw [Bool.and_eq_true] at e
  exact e.1
def ownL (job : Int) (xs : List S28) : List S28 := xs.filter fun e => decide (e.f0 = job)
theorem own_snoc (job : Int) (xs : List S28) (x : S28) : ownL job (xs ++ [x]) = if x.f0 = job then ownL job xs ++ [x] else ownL job xs := by
  unfold ownL
  rw [List.filter_append]
  by_cases h : x.f0 = job <;> simp [List.filter_cons, h]
theorem own_le (job : Int) (xs : List S28) : (ownL job xs).length ≤ xs.length := List.length_filter_le ..
theorem raw_own (job : Int) : ∀ (xs : List S28) (out : List S40), rawF job out (ownL job xs) = rawF job out xs
  | [], out => rfl
  | e :: xs, out => by
    unfold ownL
    rw [List.filter_cons]
    by_cases h : e.f0 = job
    · rw [if_pos (by simpa using h)]
      simp only [rawF, if_pos h]
      exact raw_own job xs _
    · rw [if_neg (by simpa using h)]
      simp only [rawF, if_neg h]
      exact raw_own job xs _
theorem same_sorted {raw s s' : List S40} (hd : Dis raw) (h1 : s.Perm raw) (h2 : s'.Perm raw) (a1 : Asc s) (a2 : Asc s') : s = s' := by
  refine asc_eq a1 a2 fun p => ?_
  have d1 : Dis s := (h1.pairwise_iff (fun {x y} h e => h e.symm)).2 hd
  have d2 : Dis s' := (h2.pairwise_iff (fun {x y} h e => h e.symm)).2 hd
  rw [look_perm h1 d1, look_perm h2 d2]
def tot (l : List S40) : Int := (l.map fun x => x.f1).sum
structure Cnts (l : List S40) (N : Int) : Prop where
  pos : ∀ x ∈ l, 0 ≤ x.f1
  eq : tot l = N
theorem tot_nonneg {l : List S40} (h : ∀ x ∈ l, 0 ≤ x.f1) : 0 ≤ tot l := by
  induction l with
  | nil => simp [tot]
  | cons x l ih =>
    have h1 := h x (by simp)
    have h2 := ih (fun y hy => h y (by simp [hy]))
    simp only [tot, List.map_cons, List.sum_cons] at *
    omega
theorem tot_cons (x : S40) (l : List S40) : tot (x :: l) = x.f1 + tot l := by simp [tot]
theorem tot_append (a b : List S40) : tot (a ++ b) = tot a + tot b := by simp [tot]
theorem cnts_add {p : List Int} : ∀ {l : List S40} {N : Int}, Cnts l N → N ≤ 1000000 → Cnts (addD l p) (N + 1)
  | [], N, h, hN => by
    have := h.eq
    refine ⟨fun x hx => ?_, ?_⟩
    · obtain rfl : x = ⟨p, 1⟩ := by simpa [addD] using hx
      show (0 : Int) ≤ 1; omega
    · simp [addD, tot] at this ⊢; omega
  | y :: l, N, h, hN => by
    have h0 := h.pos y (by simp)
    have hl : ∀ x ∈ l, 0 ≤ x.f1 := fun x hx => h.pos x (by simp [hx])
    have h1 := tot_nonneg hl
    have h2 := h.eq
    rw [tot_cons] at h2
    unfold addD
    split
    · have hw : wrap64 (y.f1 + 1) = y.f1 + 1 := by unfold wrap64; omega
      rw [hw]
      refine ⟨fun x hx => ?_, by rw [tot_cons]; show y.f1 + 1 + _ = _; omega⟩
      rcases List.mem_cons.1 hx with rfl | hx
      · show 0 ≤ y.f1 + 1; omega
      · exact hl x hx
    · have ih := cnts_add (p := p) (l := l) (N := N - y.f1) ⟨hl, by omega⟩ (by omega)
      refine ⟨fun x hx => ?_, by rw [tot_cons, ih.eq]; omega⟩
      rcases List.mem_cons.1 hx with rfl | hx
      · exact h0
      · exact ih.pos x hx
theorem cnts_raw (job : Int) : ∀ (xs : List S28) (out : List S40) (N : Int), Cnts out N → N + xs.length ≤ 1000000 → Cnts (rawF job out xs) (N + (ownL job xs).length)
  | [], out, N, h, _ => by simpa [rawF, ownL] using h
  | e :: xs, out, N, h, hN => by
    simp only [List.length_cons] at hN
    unfold ownL
    rw [List.filter_cons]
    by_cases he : e.f0 = job
    · rw [if_pos (by simpa using he)]
      simp only [rawF, if_pos he, List.length_cons]
      have := cnts_raw job xs (addD out e.f2) (N + 1) (cnts_add h (by omega)) (by omega)
      unfold ownL at this
      rw [show N + (((xs.filter fun e => decide (e.f0 = job)).length + 1 : Nat) : Int) = N + 1 + ((xs.filter fun e => decide (e.f0 = job)).length : Int) by omega]
      exact this
    · rw [if_neg (by simpa using he)]
      simp only [rawF, if_neg he]
      have := cnts_raw job xs out N h (by omega)
      unfold ownL at this
      exact this
theorem tot_perm {a b : List S40} (h : b.Perm a) : tot b = tot a := by
  induction h with
  | nil => rfl
  | cons x _ ih => rw [tot_cons, tot_cons, ih]
  | swap x y l => rw [tot_cons, tot_cons, tot_cons, tot_cons]; omega
  | trans _ _ ih1 ih2 => exact ih1.trans ih2
theorem cnts_perm {a b : List S40} {N : Int} (h : Cnts a N) (hp : b.Perm a) : Cnts b N :=
  ⟨fun x hx => h.pos x (hp.mem_iff.1 hx), (tot_perm hp).trans h.eq⟩
theorem cnts_did {job : Int} {xs : List S28} (hn : xs.length ≤ 1000000) {s : List S40} (hp : s.Perm (rawF job [] xs)) : Cnts s (ownL job xs).length := by
  have h := cnts_raw job xs [] 0 ⟨(fun x hx => by cases hx), rfl⟩ (by omega)
  rw [Int.zero_add] at h
  exact cnts_perm h hp
theorem tot_take_le {l : List S40} (h : ∀ x ∈ l, 0 ≤ x.f1) (j : Nat) : 0 ≤ tot (l.take j) ∧ tot (l.take j) ≤ tot l := by
  have h1 : 0 ≤ tot (l.take j) := tot_nonneg fun x hx => h x (List.mem_of_mem_take hx)
  have h2 : 0 ≤ tot (l.drop j) := tot_nonneg fun x hx => h x (List.mem_of_mem_drop hx)
  have h3 := tot_append (l.take j) (l.drop j)
  rw [List.take_append_drop] at h3
  omega
theorem tot_succ {l : List S40} {j : Nat} (hj : j < l.length) : tot (l.take (j + 1)) = tot (l.take j) + l[j].f1 := by
  rw [List.take_succ_eq_append_getElem hj, tot_append, tot_cons]
  simp [tot]
end Go.Proofs.YtceankldidkohaaDoor.Core
/-! What the walks of this chapter share. -/
namespace Go.Proofs.YtceankldidkohaaDoor.Core
open Go.RowKit Go.Proofs.YtceankldidkohaaDoorW.PrintWords Go.Proofs.YtceankldidkohaaDoorW.PrintMore Go.Proofs.YtceankldidkohaaDoor.PAuditTwice Go.Proofs.YtceankldidkohaaDoor
set_option linter.unusedVariables false
set_option linter.unusedSimpArgs false
theorem heap29 : Kd.Heap k29 := Kd.heap_iso _ (Kd.heap_pair (Kd.heap_int _) (Kd.heap_pair (Kd.heap_int _) (Kd.heap_slice 3 (Kd.heap_int _))))
theorem V_of_C {w : World} {A : Option Addr} {c : Nat} {l : List S29} (h : Kd.C k29 w A l.length l) (hc : l.length ≤ c) (base : Nat) : Kd.V k29 29 w base (fun _ => True) (.slice A l.length c) l :=
  Kd.V_mk hc (fun W' hW => Kd.Heap.C heap29 (fun k hk => hW k trivial hk) h)
theorem at_F28 {w : World} {ok : Nat → Prop} {A : Option Addr} {n : Nat} {xs : List S28} (h : Kd.F k28 w ok A n xs) (i : Int) (h0 : 0 ≤ i) (h1 : i < n) : ∃ ad A2 c2, A = some ad ∧ w.cell? (ad.add (i.toNat * 3)) = some (.int .i64 (rd_T28 xs i).f0) ∧ w.cell? ⟨(ad.add (i.toNat * 3)).block, (ad.add (i.toNat * 3)).off + 1, none⟩ = some (.int .i64 (rd_T28 xs i).f1) ∧ w.cell? ⟨(ad.add (i.toNat * 3)).block, (ad.add (i.toNat * 3)).off + 2, none⟩ = some (.slice A2 (rd_T28 xs i).f2.length c2) ∧ (rd_T28 xs i).f2.length ≤ c2 ∧ Kd.FK k28 w ok (rd_T28 xs i) [.int .i64 (rd_T28 xs i).f0, .int .i64 (rd_T28 xs i).f1, .slice A2 (rd_T28 xs i).f2.length c2] := by
  obtain ⟨ad, c, e, _, hK, hc0, _⟩ := Kd.F_get h z28 i h0 h1
  have hc : ∀ j u, c[j]? = some u → w.cell? (ad.add (i.toNat * 3 + j)) = some u := hc0
  obtain ⟨A2, c2, rfl, l2, g2⟩ := k28_openF hK
  exact ⟨ad, A2, c2, e, hc 0 _ rfl, by rw [← add_field _ _ 1 (by omega)]; exact hc 1 _ rfl, by rw [← add_field _ _ 2 (by omega)]; exact hc 2 _ rfl, l2, hK⟩
theorem rd28 {l : List S28} {j : Nat} (hj : j < l.length) : rd_T28 l j = l[j] := by simp [rd_T28, List.getD, List.getElem?_eq_getElem hj]
theorem in64_of {x : Int} (h : (Lit.int .i64 x).wf = true) : In64 x := by
  simp [Lit.wf, IntKind.min, IntKind.max, IntKind.bits, IntKind.signed] at h
  exact ⟨by omega, by omega⟩
theorem lit2_of {l : List S29} (h : lit2 l = true) : l.length ≤ 1000 ∧ ∀ e ∈ l, e.f2.length ≤ 1000 := by
  unfold lit2 at h
  simp only [Bool.and_eq_true, decide_eq_true_eq, List.all_eq_true] at h
  exact ⟨by omega, fun e he => by have := h.2 e he; omega⟩
theorem ev_of {l : List S29} (h : ∀ e ∈ l, (Lit.int .i64 e.f0).wf = true ∧ (Lit.int .i64 e.f1).wf = true ∧ (∀ z ∈ e.f2, (Lit.int .i64 z).wf = true)) (hp : ∀ e ∈ l, e.f2.length ≤ 1000) : ∀ e ∈ l.map cvE, Ev e := by
  intro e he
  obtain ⟨x, hx, rfl⟩ := List.mem_map.1 he
  obtain ⟨h0, h1, h2⟩ := h x hx
  exact ⟨in64_of h0, in64_of h1, fun z hz => in64_of (h2 z hz), hp x hx⟩
end Go.Proofs.YtceankldidkohaaDoor.Core
/-! The jobs that have events, in plain Lean. -/
namespace Go.Proofs.YtceankldidkohaaDoor.Core
open Go.RowKit Go.Proofs.YtceankldidkohaaDoorW.PrintWords Go.Proofs.YtceankldidkohaaDoorW.PrintMore Go.Proofs.YtceankldidkohaaDoor.PAuditTwice Go.Proofs.YtceankldidkohaaDoor.P2 Go.Proofs.YtceankldidkohaaDoor
set_option linter.unusedVariables false
set_option linter.unusedSimpArgs false
def insJ : List Int → Int → List Int
  | [], j => [j]
  | x :: r, j => if x < j then x :: insJ r j else if x = j then x :: r else j :: x :: r
def jobsL : List Int → List S29 → List Int
  | out, [] => out
  | out, e :: l => jobsL (insJ out e.f0) l
def JAt (out : List Int) (j : Int) (p : Nat) : Prop := insJ out j = out.take p ++ insJ (out.drop p) j
theorem JAt.zero (out : List Int) (j : Int) : JAt out j 0 := by simp [JAt]
theorem JAt.next {out : List Int} {j : Int} {p : Nat} (h : JAt out j p) (hp : p < out.length) (hc : out[p] < j) : JAt out j (p + 1) := by
  unfold JAt at *
  rw [h, List.drop_eq_getElem_cons hp]
  show _ ++ (if out[p] < j then _ else _) = _
  rw [if_pos hc, List.take_succ_eq_append_getElem hp, List.append_assoc]
  rfl
theorem JAt.same {out : List Int} {j : Int} {p : Nat} (h : JAt out j p) (hp : p < out.length) (hc : out[p] = j) : insJ out j = out := by
  unfold JAt at h
  rw [h, List.drop_eq_getElem_cons hp]
  show _ ++ (if out[p] < j then _ else if out[p] = j then _ else _) = _
  rw [if_neg (by omega), if_pos hc, ← List.drop_eq_getElem_cons hp, List.take_append_drop]
theorem JAt.over {out : List Int} {j : Int} {p : Nat} (h : JAt out j p) (hp : p < out.length) (hc : j < out[p]) : insJ out j = out.take p ++ [j] ++ out.drop p := by
  unfold JAt at h
  rw [h, List.drop_eq_getElem_cons hp]
  show _ ++ (if out[p] < j then _ else if out[p] = j then _ else _) = _
  rw [if_neg (by omega), if_neg (by omega)]
  simp
theorem JAt.last {out : List Int} {j : Int} {p : Nat} (h : JAt out j p) (hp : out.length ≤ p) : insJ out j = out.take p ++ [j] ++ out.drop p := by
  unfold JAt at h
  rw [h, List.drop_of_length_le hp]
  simp [insJ]
theorem insJ_len (out : List Int) (j : Int) : (insJ out j).length ≤ out.length + 1 := by
  induction out with
  | nil => simp [insJ]
  | cons x r ih =>
    unfold insJ
    split
    · simp only [List.length_cons]; omega
    · split <;> simp
theorem rd_get {l : List Int} {p : Nat} (h : p < l.length) : rd l (p : Int) = l[p] := by simp [rd, List.getD, List.getElem?_eq_getElem h]
theorem rjobs_l1 {l : List S29} {i : Nat} (hi : i < l.length) (hl : l.length ≤ 1000) {out : List Int} (ho : out.length ≤ 1000) (d : Nat) : ∀ (K p : Nat), out.length - p = d → p ≤ out.length → JAt out l[i].f0 p → d < K →
    ∃ K', K ≤ K' + d + 1 ∧ haymowref20_Jobs.l1 K l out i p = haymowref20_Jobs.l0 K' l (insJ out l[i].f0) ((i + 1 : Nat) : Int) := by
  induction d with
  | zero =>
    intro K p hd hp hA hK
    obtain ⟨K, rfl⟩ : ∃ m, K = m + 1 := ⟨K - 1, by omega⟩
    have hpl : ¬ ((p : Int) < (out.length : Int)) := by omega
    refine ⟨K, by omega, ?_⟩
    have hw := wr (n := (i : Int) + 1) (by omega) (by omega)
    simp only [haymowref20_Jobs.l1, Option.bind_some, Int.toNat_natCast]
    have hrd := rd29 hi
    rw [if_neg hpl, if_pos (show (0 : Int) ≤ p by omega), if_pos (show (p : Int) ≤ (out.length : Int) by omega), if_pos (by simp only [List.length_nil, List.length_take]; omega), if_pos (show (0 : Int) ≤ i by omega), if_pos (show (i : Int) < (l.length : Int) by omega), if_pos (by simp only [List.length_nil, List.length_take, List.length_append, List.length_cons]; omega), if_pos (by simp only [List.length_nil, List.length_take, List.length_append, List.length_cons, List.length_drop]; omega), hw, hrd, hA.last (by omega)]
    simp
  | succ d ih =>
    intro K p hd hp hA hK
    obtain ⟨K, rfl⟩ : ∃ m, K = m + 1 := ⟨K - 1, by omega⟩
    have hpn : p < out.length := by omega
    have hpl : (p : Int) < (out.length : Int) := by omega
    have hw := wr (n := (i : Int) + 1) (by omega) (by omega)
    have hw2 := wr (n := (p : Int) + 1) (by omega) (by omega)
    have hrd := rd29 hi
    simp only [haymowref20_Jobs.l1, Option.bind_some, Int.toNat_natCast]
    rw [if_pos hpl, if_pos (show (0 : Int) ≤ p by omega), if_pos (show (0 : Int) ≤ i by omega), if_pos (show (i : Int) < (l.length : Int) by omega), hrd, rd_get hpn]
    rcases Int.lt_trichotomy out[p] l[i].f0 with h | h | h
    · obtain ⟨K', h1, h2⟩ := ih K (p + 1) (by omega) (by omega) (hA.next hpn h) (by omega)
      refine ⟨K', by omega, ?_⟩
      rw [if_pos h, hw2]
      exact h2
    · refine ⟨K, by omega, ?_⟩
      rw [if_neg (by omega), if_pos h, hw, hA.same hpn h]
      rfl
    · refine ⟨K, by omega, ?_⟩
      rw [if_neg (by omega), if_neg (by omega), if_pos (show (p : Int) ≤ (out.length : Int) by omega), if_pos (by simp only [List.length_nil, List.length_take]; omega), if_pos (by simp only [List.length_nil, List.length_take, List.length_append, List.length_cons]; omega), if_pos (by simp only [List.length_nil, List.length_take, List.length_append, List.length_cons, List.length_drop]; omega), hw, hA.over hpn h]
      simp
theorem rjobs_l0 {l : List S29} (hl : l.length ≤ 1000) (d : Nat) : ∀ (K i : Nat) (out : List Int), i + d = l.length → out.length ≤ i → 2000 * (d + 1) < K → haymowref20_Jobs.l0 K l out i = some (jobsL out (l.drop i)) := by
  induction d with
  | zero =>
    intro K i out hd ho hK
    obtain ⟨K, rfl⟩ : ∃ m, K = m + 1 := ⟨K - 1, by omega⟩
    simp only [haymowref20_Jobs.l0]
    rw [if_neg (by omega), List.drop_of_length_le (by omega)]
    rfl
  | succ d ih =>
    intro K i out hd ho hK
    obtain ⟨K, rfl⟩ : ∃ m, K = m + 1 := ⟨K - 1, by omega⟩
    have hi : i < l.length := by omega
    simp only [haymowref20_Jobs.l0]
    rw [if_pos (show (i : Int) < (l.length : Int) by omega)]
    obtain ⟨K', h1, h2⟩ := rjobs_l1 hi hl (out := out) (by omega) out.length K 0 (by omega) (by omega) (JAt.zero _ _) (by omega)
    rw [show ((0 : Nat) : Int) = 0 from rfl] at h2
    rw [h2, ih K' (i + 1) (insJ out l[i].f0) (by omega) (by have := insJ_len out l[i].f0; omega) (by omega), List.drop_eq_getElem_cons hi]
    rfl
theorem rjobs_f {l : List S29} (hl : l.length ≤ 1000) : haymowref20_Jobs.f (2000 * (l.length + 1) + 1) l = some (jobsL [] l) :=
  rjobs_l0 hl l.length _ 0 [] (by omega) (Nat.le_refl _) (by omega)
/-! A rising row is known by what it holds. -/
def Rise (l : List Int) : Prop := l.Pairwise fun x y => x < y
theorem rise_eq : ∀ {a b : List Int}, Rise a → Rise b → (∀ x, x ∈ a ↔ x ∈ b) → a = b
  | [], [], _, _, _ => rfl
  | [], y :: b, _, _, h => absurd ((h y).2 (by simp)) (by simp)
  | x :: a, [], _, _, h => absurd ((h x).1 (by simp)) (by simp)
  | x :: a, y :: b, ha, hb, h => by
    obtain ⟨ha1, ha2⟩ := List.pairwise_cons.1 ha
    obtain ⟨hb1, hb2⟩ := List.pairwise_cons.1 hb
    have hxy : x = y := by
      rcases List.mem_cons.1 ((h x).1 (by simp)) with e | e
      · exact e
      · rcases List.mem_cons.1 ((h y).2 (by simp)) with e2 | e2
        · exact e2.symm
        · have h1 := hb1 x e
          have h2 := ha1 y e2
          omega
    subst hxy
    rw [rise_eq ha2 hb2 (fun z => ?_)]
    have hz := h z
    simp only [List.mem_cons] at hz
    constructor
    · intro hm
      rcases hz.1 (.inr hm) with e | e
      · have := ha1 z hm; omega
      · exact e
    · intro hm
      rcases hz.2 (.inr hm) with e | e
      · have := hb1 z hm; omega
      · exact e
theorem mem_insJ : ∀ {l : List Int} {j x : Int}, x ∈ insJ l j ↔ x ∈ l ∨ x = j
  | [], j, x => by simp [insJ]
  | y :: l, j, x => by
    unfold insJ
    split
    · simp only [List.mem_cons, mem_insJ (l := l)]
      constructor
      · rintro (h | h | h)
        · exact .inl (.inl h)
        · exact .inl (.inr h)
        · exact .inr h
      · rintro ((h | h) | h)
        · exact .inl h
        · exact .inr (.inl h)
        · exact .inr (.inr h)
    · split
      · rename_i h1 h2
        subst h2
        simp only [List.mem_cons]
        constructor
        · exact fun h => .inl h
        · rintro (h | h)
          · exact h
          · exact .inl h
      · simp only [List.mem_cons]
        constructor
        · rintro (h | h | h) <;> simp [h]
        · rintro ((h | h) | h) <;> simp [h]
theorem rise_ins : ∀ {l : List Int} {j : Int}, Rise l → Rise (insJ l j)
  | [], j, _ => by simp [insJ, Rise]
  | y :: l, j, h => by
    obtain ⟨h1, h2⟩ := List.pairwise_cons.1 h
    unfold insJ
    split
    · rename_i hy
      refine List.pairwise_cons.2 ⟨fun z hz => ?_, rise_ins h2⟩
      rcases mem_insJ.1 hz with hz | rfl
      · exact h1 z hz
      · exact hy
    · split
      · exact h
      · refine List.pairwise_cons.2 ⟨fun z hz => ?_, h⟩
        rcases List.mem_cons.1 hz with rfl | hz
        · omega
        · have := h1 z hz; omega
theorem rise_jobs : ∀ (l : List S29) {out : List Int}, Rise out → Rise (jobsL out l)
  | [], _, h => h
  | e :: l, out, h => rise_jobs l (rise_ins h)
theorem mem_jobs : ∀ (l : List S29) {out : List Int} {x : Int}, x ∈ jobsL out l ↔ x ∈ out ∨ ∃ e ∈ l, e.f0 = x
  | [], out, x => by simp [jobsL]
  | e :: l, out, x => by
    show x ∈ jobsL (insJ out e.f0) l ↔ _
    rw [mem_jobs l, mem_insJ]
    constructor
    · rintro ((h | h) | ⟨e2, h, h2⟩)
      · exact .inl h
      · exact .inr ⟨e, by simp, h.symm⟩
      · exact .inr ⟨e2, by simp [h], h2⟩
    · rintro (h | ⟨e2, h, h2⟩)
      · exact .inl (.inl h)
      · rcases List.mem_cons.1 h with rfl | h
        · exact .inl (.inr h2.symm)
        · exact .inr ⟨e2, h, h2⟩
end Go.Proofs.YtceankldidkohaaDoor.Core
/-! audit.Jobs: which jobs have events, rising. -/
namespace Go.Proofs.YtceankldidkohaaDoor.Core
open Go.RowKit Go.Maps Go.ChangeMaps Go.WideMaps Go.WideAt Go.Shelf Go.Lib Go.Sort Go.Proofs.YtceankldidkohaaDoorW.PrintWords Go.Proofs.YtceankldidkohaaDoorW.PrintMore Go.Proofs.YtceankldidkohaaDoor.PAuditTwice Go.Proofs.YtceankldidkohaaDoor
set_option linter.unusedVariables false
set_option linter.unusedSimpArgs false
theorem sortsJ (m : Nat) : AnyZI.SortsIn Tryd.prog Tryd.sortedJ_ren Fence.wide m :=
  ⟨fun blk off cap ss W hH hblk hsz => callsIn_wide.2 (AnyM.slices_Sort_int Tryd.sortJ blk off cap ss W hH hblk hsz),
   fun p cap W => callsIn_wide.2 (AnyM.slices_Sort_int_none Tryd.sortJ p cap W)⟩
theorem keysJ_any (mb : Option Nat) (W : World) : Calls Tryd.prog 32 #[.map mb] W fun e w' => e = .returned (.func (.func 42) #[] #[.pointer (some ⟨W.heap.size, 0, none⟩)]) ∧ w' = W.alloc (.cells #[.map mb] 64) :=
  (callsIn_wide (n := 5)).1 (AnyZI.keys_in Tryd.keysJ Fence.wide 5 trivial rfl mb W)
set_option maxHeartbeats 1000000 in
theorem sortedJ_any {H : Type} (b nn : Nat) (D0 : DataW H) (R : Value → Option (DataW H × List MemPlace)) (w : World) (hown : w.ownsMap Tryd.prog 3 R b nn D0) (hmax : Maps.size D0 ≤ maxLen) (hbytes : Maps.size D0 * 8 ≤ 140737488355328) :
    Calls Tryd.prog 31 #[.func (.func 42) #[] #[.pointer (some ⟨w.heap.size, 0, none⟩)]] (w.alloc (.cells #[.map (some b)] 64)) fun e w' => ∃ (v : Value) (ss : List Int), e = .returned v ∧ ss.Perm (intKeys D0) ∧
      w'.ownsRow (w.alloc (.cells #[.map (some b)] 64)).heap.size 3 1 v ss.length ((ss.mergeSort (fun x y => decide (x ≤ y))).map encZ) ∧ (v = .slice none 0 0 ↔ ss = []) ∧ RowKit.Below (w.alloc (.cells #[.map (some b)] 64)).heap.size (w.alloc (.cells #[.map (some b)] 64)) w' := by
  have hbl := hown.lt
  have hseq : SeqGives Fence.wide 2 Tryd.prog 42 #[.pointer (some ⟨w.heap.size, 0, none⟩)] encZ (fun ss => ss.Perm (intKeys D0)) (Maps.size D0) (w.alloc (.cells #[.map (some b)] 64)) :=
    AnyZI.keys_gives (ρ := Tryd.keysJ_ren) { Tryd.keysJ with } Fence.wide _ trivial rfl (by omega) w.heap.size b nn D0 _ (by simp) (by simp) (by
      obtain ⟨es, clock, hb, Ft, hs, hD⟩ := hown
      exact ⟨es, clock, (Below.heap_alloc _ _ b hbl).trans hb, Ft, hs, hD⟩)
  have cS := AnyZI.sorted_in Tryd.sortedJ Fence.wide 5 trivial trivial trivial trivial rfl (by omega) (sortsJ _) (enters_of Tryd.func41 (by kernel_rfl) rfl) 42 #[.pointer (some ⟨w.heap.size, 0, none⟩)] trivial (enters_of Tryd.func42 (by kernel_rfl) rfl) _ _ hmax hbytes _ hseq
  change CallsIn _ _ Tryd.prog 31 _ _ _ at cS
  exact (callsIn_wide (n := 5)).1 cS
theorem law3 : Keyed Tryd.prog 3 := int_keyed Tryd.underlying3
/-- The map behind so many events: its keys are their jobs. -/
structure Jm (W X : World) (d : List S28) : Prop where
  below : Below W.heap.size W X
  mp : ∃ D : DataW Unit, X.ownsMap Tryd.prog 3 (plainElem Tryd.prog 4) W.heap.size d.length D ∧ IsMap D ∧ Maps.size D ≤ d.length ∧ ∀ x : Int, Maps.has D (.int .i64 x) = true ↔ ∃ e ∈ d, e.f0 = x
theorem Jm.keep {W X X' : World} {d : List S28} (h : Jm W X d) (hb : Below X.heap.size X X') : Jm W X' d := by
  obtain ⟨D, h1, h2⟩ := h.mp
  exact ⟨below_lower h.below hb, D, h1.kept (grown_of_below hb none) (by simp), h2⟩
theorem Jm.start (W : World) : Jm W (W.alloc (.map #[] 0)) [] := ⟨(Below.refl _ _).alloc (Nat.le_refl _) _, .map [], World.ownsMap_made _ _ _ _, ⟨[], rfl⟩, Nat.le_refl _, fun x => by simp [Maps.has]⟩
theorem Jm.put {W X' : World} {d : List S28} {e : S28} {D : DataW Unit} (hm : IsMap D) (hT : Tidy D) (hs : Maps.size D ≤ d.length) (hh : ∀ x : Int, Maps.has D (.int .i64 x) = true ↔ ∃ e ∈ d, e.f0 = x)
    (hown : X'.ownsMap Tryd.prog 3 (plainElem Tryd.prog 4) W.heap.size (d.length + 1) (D.put (.int .i64 e.f0) (.lit (.bool true)))) (hb : Below W.heap.size W X') : Jm W X' (d ++ [e]) := by
  refine ⟨hb, _, by rw [List.length_append]; exact hown, hm.put _ _, ?_, fun x => ?_⟩
  · rw [size_put hT, List.length_append]
    simp only [List.length_singleton]
    split <;> omega
  · by_cases hx : x = e.f0
    · subst hx
      rw [has_put_same (k := .int .i64 e.f0) hm trivial]
      simp
    · rw [has_put_other (by intro he; injection he with _ he; exact hx he), hh x]
      constructor
      · rintro ⟨y, hy, he⟩
        exact ⟨y, by simp [hy], he⟩
      · rintro ⟨y, hy, he⟩
        rcases List.mem_append.1 hy with hy | hy
        · exact ⟨y, hy, he⟩
        · obtain rfl := List.mem_singleton.1 hy
          exact absurd he.symm hx
theorem rise_sorted {ss : List Int} (h : ss.Nodup) : Rise (ss.mergeSort (fun x y => decide (x ≤ y))) := by
  have tr : ∀ a b c : Int, decide (a ≤ b) = true → decide (b ≤ c) = true → decide (a ≤ c) = true := fun a b c h1 h2 => by simp only [decide_eq_true_eq] at *; omega
  have tt : ∀ a b : Int, (decide (a ≤ b) || decide (b ≤ a)) = true := fun a b => by simp only [Bool.or_eq_true, decide_eq_true_eq]; omega
  have h1 := List.pairwise_mergeSort (le := fun x y : Int => decide (x ≤ y)) tr tt ss
  have h2 : (ss.mergeSort (fun x y => decide (x ≤ y))).Nodup := (List.mergeSort_perm ss _).nodup_iff.2 h
  have h3 := List.Pairwise.and h1 h2
  exact h3.imp fun {a b} hab => by
    have := of_decide_eq_true hab.1
    have := hab.2
    omega
theorem keys_spec {W : World} {D : DataW Unit} {b n : Nat} (hown : W.ownsMap Tryd.prog 3 (plainElem Tryd.prog 4) b n D) {d : List S29} (hh : ∀ x : Int, Maps.has D (.int .i64 x) = true ↔ ∃ e ∈ d.map cvE, e.f0 = x) {ss : List Int} (hp : ss.Perm (intKeys D)) :
    ss.mergeSort (fun x y => decide (x ≤ y)) = jobsL [] d := by
  obtain ⟨es, hD, hpw, _⟩ := hown.entries law3
  obtain ⟨es', hD', hko⟩ := hown.keysOf
  obtain rfl : es = es' := by rw [hD] at hD'; simpa using hD'
  subst hD
  have hk : ∀ p ∈ es, ∃ x, p.1 = .int .i64 x := fun p hp => by obtain ⟨v, hv⟩ := hko p hp; obtain ⟨x, _, hx, _⟩ := Maps.keyOf_i64 Tryd.underlying3 hv; exact ⟨x, hx⟩
  have hnd : (intKeys (.map es : DataW Unit)).Nodup := by
    show (es.map fun p => Go.intOf p.1).Nodup
    refine List.pairwise_map.2 (hpw.imp_of_mem fun {p q} hp' hq' hne e => hne ?_)
    obtain ⟨a, ha⟩ := hk p hp'
    obtain ⟨b, hb⟩ := hk q hq'
    rw [ha, hb] at e ⊢
    exact congrArg _ e
  have hm : ∀ x, x ∈ intKeys (.map es : DataW Unit) ↔ Maps.has (.map es : DataW Unit) (.int .i64 x) = true := by
    intro x
    rw [has_eq, List.any_eq_true]
    show x ∈ es.map (fun p => Go.intOf p.1) ↔ _
    rw [List.mem_map]
    constructor
    · rintro ⟨p, hp', rfl⟩
      obtain ⟨a, ha⟩ := hk p hp'
      exact ⟨p, hp', by rw [ha]; simp [Lit.sameKey, Go.intOf]⟩
    · rintro ⟨p, hp', hs⟩
      obtain ⟨a, ha⟩ := hk p hp'
      rw [ha] at hs
      exact ⟨p, hp', by rw [ha]; simpa [Lit.sameKey, Go.intOf] using hs⟩
  refine rise_eq (rise_sorted (hp.nodup_iff.2 hnd)) (rise_jobs d List.Pairwise.nil) fun x => ?_
  rw [(List.mergeSort_perm ss _).mem_iff, hp.mem_iff, hm, hh, mem_jobs]
  constructor
  · rintro ⟨e, he, h⟩
    obtain ⟨y, hy, rfl⟩ := List.mem_map.1 he
    exact .inr ⟨y, hy, h⟩
  · rintro (h | ⟨e, he, h⟩)
    · cases h
    · exact ⟨cvE e, List.mem_map.2 ⟨e, he, rfl⟩, h⟩
set_option maxHeartbeats 4000000 in
set_option maxRecDepth 100000 in
theorem aJobs_any {w : World} (l : List S29) (A : Option Addr) (c : Nat) (hC : Kd.C k28 w A l.length (l.map cvE)) (hn : l.length ≤ 1000000) (hE : ∀ e ∈ l.map cvE, (Lit.int .i64 e.f0).wf = true) :
    Calls Tryd.prog 19 #[.slice A l.length c] w fun e W' => ∃ A' c', e = .returned (.slice A' (jobsL [] l).length c') ∧ (jobsL [] l).length ≤ c' ∧ Kd.F (Kd.int .i64) W' (fun q => w.heap.size ≤ q ∧ q < W'.heap.size) A' (jobsL [] l).length (jobsL [] l) ∧ Below w.heap.size w W' := by
  obtain ⟨xs, hxs⟩ : ∃ xs, xs = l.map cvE := ⟨_, rfl⟩
  rw [← hxs] at hC hE
  have HE := Lib.hid hE
  have hxl : xs.length = l.length := by rw [hxs, List.length_map]
  have HXS := Lib.hid hxs
  have HC := Lib.hid hC
  obtain ⟨js, hjs⟩ : ∃ js, js = jobsL [] l := ⟨_, rfl⟩
  rw [← hjs]
  have HJS := Lib.hid hjs
  obtain ⟨n, hnn⟩ : ∃ n, n = l.length := ⟨_, rfl⟩
  rw [← hnn] at hn hxl HC ⊢
  have HXL := Lib.hid hxl
  have J0 := Lib.hid (Jm.start w)
  clear hC hxs hjs hnn hxl hE
  have hmm := @run_makeMap Tryd.prog
  go_enter Tryd.func19, Tryd.ntmps19
  go_wp2_with fail
  clear hmm
  go_loopg [9] n (fun k v9 X => ∃ (j : Nat), j + k = n ∧ v9 = .int .i64 j ∧ Hid (Jm w X (xs.take j)))
  case atStart => exact ⟨0, by omega, rfl, J0.out⟩
  case round =>
    obtain ⟨j, hjk, rfl, hA⟩ := hrel
    have HK := Lib.hid hjk
    clear hjk J0
    obtain ⟨X, hX⟩ : ∃ X, X = wr := ⟨_, rfl⟩
    subst hX
    by_cases hlt : j < n
    · have hl : j < xs.length := by have := HXL.out; omega
      have HLT := Lib.hid hlt
      obtain ⟨ad, A2, c2, hAd, h0, h1, h2, l2, r2⟩ := at_T28 (Kd.C_below HC.out hA.out.below) (j : Int) (Int.natCast_nonneg j) (Int.ofNat_lt.2 hlt)
      subst hAd
      have hx : rd_T28 xs j = xs[j] := rd28 hl
      have hd : xs.take (j + 1) = xs.take j ++ [rd_T28 xs j] := by rw [hx]; exact List.take_succ_eq_append_getElem hl
      have hwx : (Lit.int .i64 (rd_T28 xs j).f0).wf = true := by rw [hx]; exact HE.out _ (List.getElem_mem hl)
      have HD := Lib.hid hd
      have HWX := Lib.hid hwx
      clear hx hd r2 hwx
      generalize rd_T28 xs j = x at *
      simp only [Int.toNat_natCast] at h0 h1 h2
      have hnj : (j : Int) + 1 ≤ 1000000 := by omega
      have HA2 : Hid (Jm w (X.alloc (.cells #[.int .i64 x.f0, .int .i64 x.f1, .slice A2 x.f2.length c2] 28)) (xs.take j)) := hA.out.keep ((Below.refl _ _).alloc (Nat.le_refl _) _)
      obtain ⟨D, hown, hm, hs, hh⟩ := HA2.out.mp
      have HOWN := Lib.hid hown
      have HM := Lib.hid hm
      have HS := Lib.hid hs
      have HH := Lib.hid hh
      have hlj : (xs.take j).length = j := by rw [List.length_take]; omega
      have HLJ := Lib.hid hlj
      have hown2 : Hid ((X.alloc (.cells #[.int .i64 x.f0, .int .i64 x.f1, .slice A2 x.f2.length c2] 28)).ownsMap Tryd.prog 3 (plainElem Tryd.prog 4) w.heap.size j D) := by
        have h := hown
        rw [hlj] at h
        exact h
      have HKY : Hid (keyOf Tryd.prog 3 (.int .i64 x.f0) = some (.int .i64 x.f0)) := keyOf_int_mk Tryd.underlying3 HWX.out
      clear hown hm hs hh hlj
      go_wp2_with (at_mapUpdate; refine wpList_mapUpdate_own _ rfl _ _ _ 64 rfl 3 4 law3 Tryd.underlying64 _ w.heap.size j _ rfl hown2.out (by unfold maxLen; omega) _ _ _ rfl rfl HKY.out _ [] (plainElem_bool Tryd.underlying4 true) ?_; intro w3 hown3 hgrow3; have HOWN3 := Lib.hid hown3; have HG3 := Lib.hid hgrow3; clear hown3 hgrow3)
      go_roundg (n - (j + 1))
      case measure => have := HK.out; have := HLT.out; omega
      case rel =>
        refine ⟨j + 1, by have := HLT.out; omega, by go_num, ?_⟩
        show Jm w _ _
        rw [HD.out]
        exact Jm.put HM.out (HOWN.out.tidy law3) HS.out HH.out (by rw [HLJ.out]; exact HOWN3.out) (HA2.out.below.grown HG3.out HA2.out.below.size (fun k hk => by injection hk with hk; omega))
    · obtain rfl : j = n := by have := HK.out; omega
      have hA2 := hA.out
      rw [List.take_of_length_le (by have := HXL.out; omega)] at hA2
      obtain ⟨D, hown, hm, hs, hh⟩ := hA2.mp
      have hs2 : Maps.size D ≤ 1000000 := by have := HXL.out; omega
      have hsp : ∀ ss : List Int, ss.Perm (intKeys D) → ss.mergeSort (fun x y => decide (x ≤ y)) = js := fun ss hp => by
        rw [HJS.out]
        exact keys_spec hown (fun x => by rw [← HXS.out]; exact hh x) hp
      have HSP := Lib.hid hsp
      have HSO := Lib.hid (sortedJ_any w.heap.size _ D _ X hown (by unfold maxLen; omega) (by omega))
      have HB := Lib.hid hA2.below
      clear hown hm hs hh hA2 hA hs2 hsp
      go_wp2_with fail
      refine (keysJ_any _ _).mono ?_
      rintro e w2 ⟨rfl, rfl⟩
      go_wp2_with fail
      refine HSO.out.mono ?_
      rintro e w3 ⟨v, ss, rfl, hp, hrow, _, hb⟩
      have hlen : ss.length = js.length := by rw [← HSP.out ss hp, List.length_mergeSort]
      rw [HSP.out ss hp, hlen] at hrow
      obtain ⟨A', c', rfl, h1, h2⟩ := own_F hrow
      have H1 := Lib.hid h1
      have H2 := Lib.hid h2
      have HB3 := Lib.hid hb
      clear hp hrow hlen h1 h2 hb
      go_wp2_with fail
      go_ret
      have b2 : Below X.heap.size X (X.alloc (.cells #[.map (some w.heap.size)] 64)) := (Below.refl _ _).alloc (Nat.le_refl _) _
      exact ⟨A', c', rfl, H1.out, Kd.F_mono H2.out (fun q hq => ⟨Nat.le_trans (Nat.le_trans HB.out.size b2.size) hq.1, hq.2⟩), below_lower (below_lower HB.out b2) HB3.out⟩
end Go.Proofs.YtceankldidkohaaDoor.Core
