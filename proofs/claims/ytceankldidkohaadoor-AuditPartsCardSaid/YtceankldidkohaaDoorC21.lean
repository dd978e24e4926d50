/- Plain laws: a job's own events; what is done adds up. -/
import Derived.Test.YtceankldidkohaaDoorC20
namespace Go.Proofs.YtceankldidkohaaDoor.Core
open Go.RowKit Go.Proofs.YtceankldidkohaaDoorW.PrintWords Go.Proofs.YtceankldidkohaaDoorW.PrintMore Go.Proofs.YtceankldidkohaaDoor.PAuditTwice Go.Proofs.YtceankldidkohaaDoor
set_option linter.unusedVariables false
set_option linter.unusedSimpArgs false
theorem snd_take {xs : List S28} (h : sndL [] xs = true) (m : Nat) : sndL [] (xs.take m) = true := by
  have e := sndL_app [] (xs.take m) (xs.drop m)
  rw [List.take_append_drop, h] at e
  have e := e.symm
  rw [Bool.and_eq_true] at e
  exact e.1
def ownL (job : Int) (xs : List S28) : List S28 := xs.filter fun e => decide (e.f0 = job)
theorem own_snoc (job : Int) (xs : List S28) (x : S28) : ownL job (xs ++ [x]) = if x.f0 = job then ownL job xs ++ [x] else ownL job xs := by
  unfold ownL
  rw [List.filter_append]
  by_cases h : x.f0 = job <;> simp [List.filter_cons, h]
theorem own_le (job : Int) (xs : List S28) : (ownL job xs).length ≤ xs.length := List.length_filter_le ..
theorem raw_own (job : Int) : ∀ (xs : List S28) (out : List S40), rawF job out (ownL job xs) = rawF job out xs
  | [], out => rfl
  | e :: xs, out => by
    unfold ownL
    rw [List.filter_cons]
    by_cases h : e.f0 = job
    · rw [if_pos (by simpa using h)]
      simp only [rawF, if_pos h]
      exact raw_own job xs _
    · rw [if_neg (by simpa using h)]
      simp only [rawF, if_neg h]
      exact raw_own job xs _
theorem same_sorted {raw s s' : List S40} (hd : Dis raw) (h1 : s.Perm raw) (h2 : s'.Perm raw) (a1 : Asc s) (a2 : Asc s') : s = s' := by
  refine asc_eq a1 a2 fun p => ?_
  have d1 : Dis s := (h1.pairwise_iff (fun {x y} h e => h e.symm)).2 hd
  have d2 : Dis s' := (h2.pairwise_iff (fun {x y} h e => h e.symm)).2 hd
  rw [look_perm h1 d1, look_perm h2 d2]
def tot (l : List S40) : Int := (l.map fun x => x.f1).sum
structure Cnts (l : List S40) (N : Int) : Prop where
  pos : ∀ x ∈ l, 0 ≤ x.f1
  eq : tot l = N
theorem tot_nonneg {l : List S40} (h : ∀ x ∈ l, 0 ≤ x.f1) : 0 ≤ tot l := by
  induction l with
  | nil => simp [tot]
  | cons x l ih =>
    have h1 := h x (by simp)
    have h2 := ih (fun y hy => h y (by simp [hy]))
    simp only [tot, List.map_cons, List.sum_cons] at *
    omega
theorem tot_cons (x : S40) (l : List S40) : tot (x :: l) = x.f1 + tot l := by simp [tot]
theorem tot_append (a b : List S40) : tot (a ++ b) = tot a + tot b := by simp [tot]
theorem cnts_add {p : List Int} : ∀ {l : List S40} {N : Int}, Cnts l N → N ≤ 1000000 → Cnts (addD l p) (N + 1)
  | [], N, h, hN => by
    have := h.eq
    refine ⟨fun x hx => ?_, ?_⟩
    · obtain rfl : x = ⟨p, 1⟩ := by simpa [addD] using hx
      show (0 : Int) ≤ 1; omega
    · simp [addD, tot] at this ⊢; omega
  | y :: l, N, h, hN => by
    have h0 := h.pos y (by simp)
    have hl : ∀ x ∈ l, 0 ≤ x.f1 := fun x hx => h.pos x (by simp [hx])
    have h1 := tot_nonneg hl
    have h2 := h.eq
    rw [tot_cons] at h2
    unfold addD
    split
    · have hw : wrap64 (y.f1 + 1) = y.f1 + 1 := by unfold wrap64; omega
      rw [hw]
      refine ⟨fun x hx => ?_, by rw [tot_cons]; show y.f1 + 1 + _ = _; omega⟩
      rcases List.mem_cons.1 hx with rfl | hx
      · show 0 ≤ y.f1 + 1; omega
      · exact hl x hx
    · have ih := cnts_add (p := p) (l := l) (N := N - y.f1) ⟨hl, by omega⟩ (by omega)
      refine ⟨fun x hx => ?_, by rw [tot_cons, ih.eq]; omega⟩
      rcases List.mem_cons.1 hx with rfl | hx
      · exact h0
      · exact ih.pos x hx
theorem cnts_raw (job : Int) : ∀ (xs : List S28) (out : List S40) (N : Int), Cnts out N → N + xs.length ≤ 1000000 → Cnts (rawF job out xs) (N + (ownL job xs).length)
  | [], out, N, h, _ => by simpa [rawF, ownL] using h
  | e :: xs, out, N, h, hN => by
    simp only [List.length_cons] at hN
    unfold ownL
    rw [List.filter_cons]
    by_cases he : e.f0 = job
    · rw [if_pos (by simpa using he)]
      simp only [rawF, if_pos he, List.length_cons]
      have := cnts_raw job xs (addD out e.f2) (N + 1) (cnts_add h (by omega)) (by omega)
      unfold ownL at this
      rw [show N + (((xs.filter fun e => decide (e.f0 = job)).length + 1 : Nat) : Int) = N + 1 + ((xs.filter fun e => decide (e.f0 = job)).length : Int) by omega]
      exact this
    · rw [if_neg (by simpa using he)]
      simp only [rawF, if_neg he]
      have := cnts_raw job xs out N h (by omega)
      unfold ownL at this
      exact this
theorem tot_perm {a b : List S40} (h : b.Perm a) : tot b = tot a := by
  induction h with
  | nil => rfl
  | cons x _ ih => rw [tot_cons, tot_cons, ih]
  | swap x y l => rw [tot_cons, tot_cons, tot_cons, tot_cons]; omega
  | trans _ _ ih1 ih2 => exact ih1.trans ih2
theorem cnts_perm {a b : List S40} {N : Int} (h : Cnts a N) (hp : b.Perm a) : Cnts b N :=
  ⟨fun x hx => h.pos x (hp.mem_iff.1 hx), (tot_perm hp).trans h.eq⟩
theorem cnts_did {job : Int} {xs : List S28} (hn : xs.length ≤ 1000000) {s : List S40} (hp : s.Perm (rawF job [] xs)) : Cnts s (ownL job xs).length := by
  have h := cnts_raw job xs [] 0 ⟨(fun x hx => by cases hx), rfl⟩ (by omega)
  rw [Int.zero_add] at h
  exact cnts_perm h hp
theorem tot_take_le {l : List S40} (h : ∀ x ∈ l, 0 ≤ x.f1) (j : Nat) : 0 ≤ tot (l.take j) ∧ tot (l.take j) ≤ tot l := by
  have h1 : 0 ≤ tot (l.take j) := tot_nonneg fun x hx => h x (List.mem_of_mem_take hx)
  have h2 : 0 ≤ tot (l.drop j) := tot_nonneg fun x hx => h x (List.mem_of_mem_drop hx)
  have h3 := tot_append (l.take j) (l.drop j)
  rw [List.take_append_drop] at h3
  omega
theorem tot_succ {l : List S40} {j : Nat} (hj : j < l.length) : tot (l.take (j + 1)) = tot (l.take j) + l[j].f1 := by
  rw [List.take_succ_eq_append_getElem hj, tot_append, tot_cons]
  simp [tot]
end Go.Proofs.YtceankldidkohaaDoor.Core
