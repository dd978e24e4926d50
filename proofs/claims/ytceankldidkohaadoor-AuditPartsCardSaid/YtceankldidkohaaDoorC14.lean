/- A row of one's own as the sort takes it. -/
import Derived.Test.YtceankldidkohaaDoorC13
namespace Go.Proofs.YtceankldidkohaaDoor.Core
open Go.RowKit Go.Shelf Go.Lib Go.Sort Go.Proofs.YtceankldidkohaaDoorW.PrintWords Go.Proofs.YtceankldidkohaaDoorW.PrintMore Go.Proofs.YtceankldidkohaaDoor.PAuditTwice Go.Proofs.YtceankldidkohaaDoor
set_option linter.unusedVariables false
set_option linter.unusedSimpArgs false
def El.un {X : World} {blk : Nat} (e : El X blk) : S40 := ⟨e.p, e.s⟩
theorem els_of {X : World} {base g n cap : Nat} {ok : Nat → Prop} {raw : List S40} (h : Kd.N k40 38 X base ok (.slice (some ⟨g, 0, none⟩) n cap) raw) (hn : n = raw.length) (hs : ∀ x ∈ raw, x.f0.length ≤ 1000000) : ∀ m, m ≤ raw.length →
    ∃ els : List (El X g), els.map El.un = raw.take m ∧ ∀ (j : Nat) (e : El X g), els[j]? = some e → (X.cell? ⟨g, j * 2, none⟩ = some (.slice e.A e.p.length e.c) ∧ X.frozen? ⟨g, j * 2, none⟩ = false) ∧ (X.cell? ⟨g, j * 2 + 1, none⟩ = some (.int .i64 e.s) ∧ X.frozen? ⟨g, j * 2 + 1, none⟩ = false) := by
  intro m
  induction m with
  | zero => exact fun _ => ⟨[], rfl, fun j e he => by simp at he⟩
  | succ m ih =>
    intro hm
    obtain ⟨els, h1, h2⟩ := ih (by omega)
    have hml : m < raw.length := by omega
    obtain ⟨c, hcl, hK, hcc, hfr⟩ := Kd.N_elem h z40 (m : Int) (by omega) (by omega)
    simp only [Int.toNat_natCast] at hK hcc hfr
    have hx : raw.getD m z40 = raw[m] := by simp [List.getD, List.getElem?_eq_getElem hml]
    rw [hx] at hK
    obtain ⟨A0, c0, rfl, l0, g0⟩ := k40_openF hK
    have hlen : els.length = m := by
      have := congrArg List.length h1
      rw [List.length_map, List.length_take] at this
      omega
    refine ⟨els ++ [⟨A0, c0, raw[m].f0, raw[m].f1, l0, hs _ (List.getElem_mem hml), Kd.F_mono (Kd.F_bound g0) (fun q hq => ⟨hq.2, hq.1.2⟩)⟩], ?_, fun j e he => ?_⟩
    · rw [List.map_append, h1, List.take_succ_eq_append_getElem hml]
      rfl
    · rcases Nat.lt_trichotomy j m with hj | rfl | hj
      · rw [List.getElem?_append_left (by omega)] at he
        exact h2 j e he
      · rw [List.getElem?_append_right (by omega), hlen, Nat.sub_self] at he
        have he := (Option.some.inj he).symm
        subst he
        exact ⟨⟨hcc 0 _ rfl, hfr 0⟩, ⟨hcc 1 _ rfl, hfr 1⟩⟩
      · rw [List.getElem?_append_right (by omega)] at he
        have : j - els.length ≠ 0 := by omega
        obtain ⟨q, hq⟩ : ∃ q, j - els.length = q + 1 := ⟨j - els.length - 1, by omega⟩
        rw [hq] at he
        simp at he
end Go.Proofs.YtceankldidkohaaDoor.Core
