/- audit.Did at any events: it tells what the reference tells. -/
import Derived.Test.YtceankldidkohaaDoorC19
namespace Go.Proofs.YtceankldidkohaaDoor.Core
open Go.RowKit Go.Shelf Go.Lib Go.Sort Go.Proofs.YtceankldidkohaaDoorW.PrintWords Go.Proofs.YtceankldidkohaaDoorW.PrintMore Go.Proofs.YtceankldidkohaaDoor.PAuditTwice Go.Proofs.YtceankldidkohaaDoor
set_option linter.unusedVariables false
set_option linter.unusedSimpArgs false
theorem add_len (out : List S40) (p : List Int) : (addD out p).length ≤ out.length + 1 := by
  cases h : pos out p with
  | none => rw [add_none h]; simp
  | some i => rw [add_pos h, List.length_set]; omega
theorem raw_len (job : Int) : ∀ (l : List S28) (out : List S40), (rawF job out l).length ≤ out.length + l.length
  | [], out => by simp [rawF]
  | e :: l, out => by
    unfold rawF
    split
    · have h1 := raw_len job l (addD out e.f2)
      have h2 := add_len out e.f2
      simp only [List.length_cons]
      omega
    · have h1 := raw_len job l out
      simp only [List.length_cons]
      omega
theorem hsort_any {w X : World} {l : List S28} {job : Int} (hn : l.length ≤ 1000000) {v : Value} {n : Nat} (h : Ad w X job v (rawF job [] l) n) :
    Calls Tryd.prog 24 #[v, .func (.func 25) #[] #[]] X fun e W' => e = .returned (.tuple #[]) ∧ ∃ s, Kd.N k40 38 W' w.heap.size (fun _ => True) v s ∧ s.Perm (rawF job [] l) ∧ Asc s ∧ Below w.heap.size w W' := by
  have hrl := raw_len job l []
  have hd : Dis (rawF job [] l) := dis_raw job l List.Pairwise.nil
  by_cases hp : 0 < (rawF job [] l).length
  · obtain ⟨g, cap, rfl, hb, hg, _⟩ := Kd.N_form h.row hp
    obtain ⟨els, h1, h2⟩ := els_of h.row rfl h.small _ (Nat.le_refl _)
    rw [List.take_length] at h1
    have hel : els.length = (rawF job [] l).length := by rw [← h1, List.length_map]
    have hH := holds_of h2
    have hrun := sort_run (cap := cap) hH hg (by simp only [List.length_nil] at hrl; omega)
    rw [hel] at hrun
    refine hrun.mono ?_
    rintro e w' ⟨rfl, d', m, os, hpm, hs, rfl⟩
    rw [← hel] at hpm hs
    obtain ⟨hsz, hpl⟩ := perm_list hpm
    have hps := sorted_asc hpm hs (by rw [h1]; exact hd)
    rw [h1] at hps
    have hrow := h.row
    rw [← hel, ← hsz] at hrow
    have hN := sort_back hrow m os
    rw [hsz, hel] at hN
    exact ⟨rfl, _, hN, hps.1, hps.2, h.below.grown (sort_grown El.enc 2 X g 0 m d' os) h.below.size (fun k hk => by injection hk with hk; omega)⟩
  · have he : rawF job [] l = [] := List.length_eq_zero_iff.1 (by omega)
    rw [he] at h ⊢
    obtain ⟨A, c, rfl⟩ := Kd.N_slice h.row
    refine (AnyF.slices_SortFunc_none Tryd.sortE A c (.func (.func 25) #[] #[]) X).mono ?_
    rintro e w' ⟨rfl, rfl⟩
    exact ⟨rfl, [], Kd.N_mono h.row (fun _ _ => trivial), List.Perm.refl _, List.Pairwise.nil, h.below⟩
/-- audit.Did: a row that rises, and the same tasks with the same numbers as rawF. -/
theorem aDid_any {w0 w : World} (T : Tab w0) (hW : Below w0.heap.size w0 w) (l : List S28) (A : Option Addr) (c : Nat) (job : Int) (hj : In64 job) (hF : Kd.F k28 w (fun q => q < w.heap.size) A l.length l) (hn : l.length ≤ 1000000) (hE : ∀ e ∈ l, Ev e) :
    Calls Tryd.prog 13 #[.slice A l.length c, .int .i64 job] w fun e W' => ∃ v s, e = .returned v ∧ Kd.N k40 38 W' w.heap.size (fun _ => True) v s ∧ s.Perm (rawF job [] l) ∧ Asc s ∧ Below w.heap.size w W' :=
  aDid_loop T hW l A c job hj hF hn hE (fun X v n h => hsort_any hn h)
theorem aDid_ref {w0 w : World} (T : Tab w0) (hW : Below w0.heap.size w0 w) (l : List S29) (A : Option Addr) (c : Nat) (job : Int) (hj : In64 job) (hF : Kd.F k28 w (fun q => q < w.heap.size) A l.length (l.map cvE)) (hn : l.length ≤ 1000000) (hE : ∀ e ∈ l.map cvE, Ev e) :
    Calls Tryd.prog 13 #[.slice A l.length c, .int .i64 job] w fun e W' => ∃ v, e = .returned v ∧ Kd.N k40 38 W' w.heap.size (fun _ => True) v (didF job [] l) ∧ Below w.heap.size w W' := by
  have hl : (l.map cvE).length = l.length := List.length_map ..
  have h := aDid_any T hW (l.map cvE) A c job hj (by rw [hl]; exact hF) (by rw [hl]; exact hn) hE
  rw [hl] at h
  refine h.mono ?_
  rintro e w' ⟨v, s, rfl, h1, h2, h3, h4⟩
  rw [sorted_did rfl (dis_raw job _ List.Pairwise.nil) h2 h3] at h1
  exact ⟨v, rfl, h1, h4⟩
end Go.Proofs.YtceankldidkohaaDoor.Core
