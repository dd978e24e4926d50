/- eval: a task is begun (over a contract for its run). -/
import Derived.Test.YtbiajfkencamiaaGreatDoorE4
import Derived.Laws.CopyOwn
import Derived.OwnWalk
/-! E5 -/
namespace Go.Proofs.YtbiajfkencamiaaGreatDoor.EV
open Go.Proofs.YtbiajfkencamiaaGreatDoorW.PrintMore Go.Proofs.YtbiajfkencamiaaGreatDoor Go.Proofs.YtbiajfkencamiaaGreatDoor.Core Go.RowKit Go.Proofs.YtbiajfkencamiaaGreatDoorW.PrintWords
open Go.Proofs.YtbiajfkencamiaaGreatDoor.PK (S121 k121 z121 S124 k124 z124 at_T124 at_T121 rd_T124 rd_T121)
set_option linter.unusedVariables false
set_option linter.unusedSimpArgs false
/-- What an evaluation has: a program in memory, limits, the world ahead of it, where it stands. -/
structure Cx where
  p : List Fn
  B : Int
  D : Int
  w00 : World
  gw : Nat
  A : Option Addr
  cp : Nat
abbrev Cx.base (c : Cx) : Nat := c.w00.heap.size
abbrev Cx.pv (c : Cx) : Value := .slice c.A c.p.length c.cp
abbrev Cx.ev (c : Cx) (W : World) (e : Ev) : Prop := EvR c.base c.gw c.pv c.B c.D W e
structure Cx.Ok (c : Cx) : Prop where
  valid : validB c.p = true
  len : c.p.length ≤ c.cp
  rd : Kd.C k124 c.w00 c.A c.p.length (c.p.map toP)
  dmax : c.D ≤ 1000
def longV : List PanicEntry := [{ v := .iface 146 (.agg #[]), recovered := false }]
/-- What a run answers. -/
def OutR (c : Cx) (W : World) (en : Ending) : Out → Prop
  | .ok e v => en = .returned (.int .i64 v) ∧ c.ev W e
  | .fail e why => en = .panicked (failV why) ∧ c.ev W e
  | .long e => en = .panicked longV ∧ c.ev W e
def RP (c : Cx) (wb : World) (o : Out) (en : Ending) (W' : World) : Prop := Kq [142, 2, 229] wb W' ∧ Below c.base c.w00 W' ∧ OutR c W' en o
def RunSpec (c : Cx) (n : Nat) : Prop := ∀ (wb W : World) (gt : Nat) (e : Ev) (t : Tk) (f : Nat) (A1 : Option Addr) (c1 : Nat), f < c.p.length → c.ev W e → EvOk e → e.left < n → TkR wb.heap.size gt c.gw W t →
  TkOk (codeOf c.p f).length e t → (t.dep : Int) ≤ c.D → Kq [142, 2, 229] wb W → Below c.base c.w00 W → c.base ≤ wb.heap.size → (codeOf c.p f).length ≤ c1 → Kd.C k121 c.w00 A1 (codeOf c.p f).length ((codeOf c.p f).map toI) →
  Calls Tryz.prog 121 #[.pointer (some ⟨gt, 0, none⟩), .slice A1 (codeOf c.p f).length c1] W (RP c wb (runF c.p c.B c.D n e t f))
theorem Cx.fn_at {c : Cx} (h : c.Ok) (f : Nat) (hf : f < c.p.length) {W : World} (hb : Below c.base c.w00 W) : ∃ ad A1 c1, c.A = some ad ∧ W.cell? (ad.add (f * 2)) = some (.int .i64 (arityOf c.p f)) ∧ W.cell? ⟨(ad.add (f * 2)).block, (ad.add (f * 2)).off + 1, none⟩ = some (.slice A1 (codeOf c.p f).length c1) ∧ (codeOf c.p f).length ≤ c1 ∧ Kd.C k121 c.w00 A1 (codeOf c.p f).length ((codeOf c.p f).map toI) := by
  obtain ⟨ad, A1, c1, hA, f0, f1, hl, hC1⟩ := at_T124 h.rd (f : Int) (by omega) (by omega)
  have e1 : rd_T124 (c.p.map toP) (f : Int) = toP (c.p.getD f (0, [])) := by
    have := rd49 c.p f hf
    simpa using this
  rw [e1] at f0 f1 hl hC1
  have hx : ∀ {q : Addr} {u : Value}, c.w00.cell? q = some u → W.cell? q = some u := fun h' => (hb.cell (World.block_lt_of_cell? _ _ h')).trans h'
  refine ⟨ad, A1, c1, hA, ?_, ?_, ?_, ?_⟩
  · simpa [arityOf, toP] using hx f0
  · simpa [codeOf, toP] using hx f1
  · simpa [codeOf, toP] using hl
  · simpa [codeOf, toP] using hC1
theorem Cx.prog_lt {c : Cx} (h : c.Ok) (f : Nat) (hf : f < c.p.length) {ad : Addr} (hA : c.A = some ad) : c.w00.cell? (ad.add (f * 2)) = some (.int .i64 (arityOf c.p f)) := by
  obtain ⟨ad', A1, c1, hA', f0, _⟩ := Cx.fn_at h f hf (Below.refl _ _)
  rw [hA] at hA'
  injection hA' with e
  rw [e]
  exact f0
theorem hand4 {l : List (Bool × Int)} (h : l.length = 4) : ∃ a b c d : Bool × Int, l = [a, b, c, d] := by
  match l, h with
  | [a, b, c, d], _ => exact ⟨a, b, c, d, rfl⟩
abbrev padR (args : List Int) : List Int := args ++ List.replicate (8 - args.length) 0
theorem splice_args (P T : List Value) (args : List Int) (hP : P.length = 2) (ha : args.length ≤ 8) :
    splice (P ++ (List.replicate 8 (Value.int .i64 0) ++ T)) 2 (args.map (.int .i64)) = P ++ ((padR args).map (.int .i64) ++ T) := by
  unfold splice
  have e1 : (P ++ (List.replicate 8 (Value.int .i64 0) ++ T)).take 2 = P := by rw [← hP]; exact List.take_left
  have e2 : (P ++ (List.replicate 8 (Value.int .i64 0) ++ T)).drop (2 + (args.map (Value.int .i64)).length) = List.replicate (8 - args.length) (Value.int .i64 0) ++ T := by
    rw [← hP, List.length_map, List.drop_append, List.drop_eq_nil_of_le (by omega), List.nil_append, show P.length + args.length - P.length = args.length by omega, List.drop_append_of_le_length (by simp; omega), List.drop_replicate]
  rw [e1, e2]
  simp
theorem info229 : (Tryz.prog.info? 229).map (fun i => (i.zero, i.size, i.bytes)) = some (some (.agg #[.slice none 0 0, .int .i64 0]), 2, 32) := by kernel_rfl
theorem size2 : (Tryz.prog.info? 2).map (·.size) = some 1 := by kernel_rfl
/-- Numbers that can be read: a slice's. -/
def ArgsR (W : World) (v : Value) (args : List Int) : Prop := ∃ sp c, v = .slice sp args.length c ∧ (0 < args.length → ∃ ad, sp = some ad ∧ ∀ j u, (args.map (Value.int .i64))[j]? = some u → W.cell? (ad.add j) = some u)
theorem ArgsR.below {W W' : World} {v : Value} {args : List Int} (h : ArgsR W v args) (hb : Below W.heap.size W W') : ArgsR W' v args := by
  obtain ⟨sp, c, rfl, hr⟩ := h
  refine ⟨sp, c, rfl, fun h0 => ?_⟩
  obtain ⟨ad, e, hc⟩ := hr h0
  exact ⟨ad, e, fun j u hj => (hb.cell (World.block_lt_of_cell? _ _ (hc j u hj))).trans (hc j u hj)⟩
theorem PathR.below {W W' : World} {v : Value} {n : Nat} (h : PathR W v n) (hb : Below W.heap.size W W') : PathR W' v n := h.kq (Kq.below (ts := []) hb) (by simp)
abbrev tk0 (dep : Nat) (args : List Int) (hands : List (Bool × Int)) (at0 : Nat) : Tk := { dep := dep, regs := padR args, hands := hands, wait := [], kids := 0, pc := 0, at0 := at0 }
set_option maxRecDepth 100000 in
set_option maxHeartbeats 8000000 in
theorem begin_any {c : Cx} (hc : c.Ok) (n : Nat) (HR : RunSpec c n) (W : World) (e : Ev) (f : Nat) (dep : Nat) (pathv argv : Value) (args : List Int) (hands : List (Bool × Int)) (hf : f < c.p.length) (hE : c.ev W e) (heo : EvOk { e with log := e.log ++ [0] }) (hl : e.left < n)
    (hp : PathR W pathv dep) (ha : ArgsR W argv args) (ha8 : args.length ≤ 8) (h4 : hands.length = 4) (hB : Below c.base c.w00 W) (hdep : (dep : Int) ≤ c.D) :
    Calls Tryz.prog 81 #[.pointer (some ⟨c.gw, 0, none⟩), .int .i64 (f : Int), pathv, argv, .agg (handC hands).toArray] W (RP c W (runF c.p c.B c.D n { e with log := e.log ++ [0] } (tk0 dep args hands e.log.length) f)) := by
  obtain ⟨x0, x1, x2, x3, rfl⟩ := hand4 h4
  obtain ⟨hgw, tv, lv, lx, q1, q2, q3, q4⟩ := hE
  obtain ⟨b0, v0⟩ := x0
  obtain ⟨b1, v1⟩ := x1
  obtain ⟨b2, v2⟩ := x2
  obtain ⟨b3, v3⟩ := x3
  obtain ⟨o, ho⟩ : ∃ o, runF c.p c.B c.D n { e with log := e.log ++ [0] } (tk0 dep args [(b0, v0), (b1, v1), (b2, v2), (b3, v3)] e.log.length) f = o := ⟨_, rfl⟩
  rw [ho]
  have HO := Lib.hid ho
  clear ho
  obtain ⟨len, hlen⟩ : ∃ len, len = e.log.length := ⟨_, rfl⟩
  obtain ⟨A0, cl, hlv⟩ := own_slice q3
  subst hlv
  obtain ⟨ps, hps⟩ := hp
  obtain ⟨PA, pc, hpv⟩ := own_slice hps
  subst hpv
  have ha0 : Below W.heap.size W (W.alloc (.cells #[.bool b0, .int .i64 v0, .bool b1, .int .i64 v1, .bool b2, .int .i64 v2, .bool b3, .int .i64 v3] 150)) := (Below.refl _ _).alloc (Nat.le_refl _) _
  have k7 : (W.alloc (.cells #[.bool b0, .int .i64 v0, .bool b1, .int .i64 v1, .bool b2, .int .i64 v2, .bool b3, .int .i64 v3] 150)).cell? ⟨c.gw, 7, none⟩ = some (.slice A0 e.log.length cl) := (blk_cell (blk_below q1 ha0) 7).trans rfl
  rw [← hlen] at k7
  obtain ⟨sp, ac, hargv, har⟩ := ha
  subst hargv
  obtain ⟨an, han⟩ : ∃ an, an = args.length := ⟨_, rfl⟩
  rw [← han]
  obtain ⟨gt, hgt⟩ : ∃ gt, gt = W.heap.size + 1 := ⟨_, rfl⟩
  obtain ⟨W2, hW2⟩ : ∃ X : World, X = ((W.alloc (.cells #[.bool b0, .int .i64 v0, .bool b1, .int .i64 v1, .bool b2, .int .i64 v2, .bool b3, .int .i64 v3] 150)).alloc (.cells #[.pointer (some ⟨c.gw, 0, none⟩), .slice PA dep pc, .int .i64 0, .int .i64 0, .int .i64 0, .int .i64 0, .int .i64 0, .int .i64 0, .int .i64 0, .int .i64 0, .bool b0, .int .i64 v0, .bool b1, .int .i64 v1, .bool b2, .int .i64 v2, .bool b3, .int .i64 v3, .slice none 0 0, .int .i64 0, .int .i64 0, .int .i64 (len : Int)] 227)).drew := ⟨_, rfl⟩
  have hcur : Hid (W2.heap[gt]? = some (.cells (([Value.pointer (some ⟨c.gw, 0, none⟩), Value.slice PA dep pc] : List Value) ++ (List.replicate 8 (Value.int .i64 0) ++ (handC [(b0, v0), (b1, v1), (b2, v2), (b3, v3)] ++ ([Value.slice none 0 0, Value.int .i64 0, Value.int .i64 0, Value.int .i64 (len : Int)] : List Value)))).toArray 227 (0, 0))) := by
    rw [hW2, hgt, show W.heap.size + 1 = (W.alloc (.cells #[.bool b0, .int .i64 v0, .bool b1, .int .i64 v1, .bool b2, .int .i64 v2, .bool b3, .int .i64 v3] 150)).heap.size from (World.size_alloc ..).symm]
    exact heap_alloc_new _ _
  have hB2 : Hid (Below W.heap.size W W2) := by
    rw [hW2]
    exact below_drew (((Below.refl _ _).alloc (Nat.le_refl _) _).alloc (by rw [World.size_alloc]; omega) _)
  have HGT := Lib.hid hgt
  have HAN := Lib.hid han
  have HAR := Lib.hid har
  have HA8 := Lib.hid ha8
  have HLEN := Lib.hid hlen
  have HE := Lib.hid (And.intro hgw (And.intro q1 (And.intro q2 (And.intro q3 q4))))
  have HP := Lib.hid hps
  have HBB := Lib.hid hB
  have HR := Lib.hid HR
  have HF := Lib.hid hf
  have HEO := Lib.hid heo
  have HL := Lib.hid hl
  have HDP := Lib.hid hdep
  have HC := Lib.hid hc
  clear k7
  have k7 : W2.cell? ⟨c.gw, 7, none⟩ = some (.slice A0 e.log.length cl) := by rw [hB2.out.cell (p := ⟨c.gw, 7, none⟩) (blk_lt q1)]; exact (blk_cell q1 7).trans rfl
  clear k7
  have k7 : (W.alloc (.cells #[.bool b0, .int .i64 v0, .bool b1, .int .i64 v1, .bool b2, .int .i64 v2, .bool b3, .int .i64 v3] 150)).cell? ⟨c.gw, 7, none⟩ = some (.slice A0 e.log.length cl) := (blk_cell (blk_below q1 ha0) 7).trans rfl
  rw [← hlen] at k7
  have HW2 := Lib.hid hW2
  clear hW2 hgt
  clear ha0 har ha8 hlen hgw q1 q2 q3 q4 hps hB hf heo hl h4 hc hdep
  go_enter Tryz.func81, Tryz.ntmps81
  go_wp2_with fail
  go_region
  all_goals go_wp2_with ((with_reducible refine gate_builtin (b := .copy) (xs := #[.tmp 26, .tmp 27]) rfl ?_); rw [← HW2.out, ← HGT.out]; (refine wpList_copy_splice rfl (.tmp 26) (.tmp 27) 80 80 rfl 2 Tryz.underlying80 size2 (some ⟨gt, 2, none⟩) sp 8 8 an ac rfl rfl gt 2 _ 227 hcur.out (args.map (.int .i64)) ?cn ?cpos ?cfit ?c1 gt W2 (Below.refl _ _) (Nat.le_refl _) ?_))
  case cn => rw [List.length_map, ← HAN.out]; exact (Nat.min_eq_left (by rw [HAN.out]; exact HA8.out)).symm
  case cpos =>
    intro h0
    obtain ⟨ad, e1, hcc⟩ := HAR.out (by simpa using h0)
    exact ⟨ad, e1, fun j v hj => (hB2.out.cell (World.block_lt_of_cell? _ _ (hcc j (.int .i64 v) (by simp [hj])))).trans (hcc j (.int .i64 v) (by simp [hj]))⟩
  case cfit =>
    have := HA8.out
    simp
    omega
  case c1 =>
    intro v hv
    obtain ⟨x, _, rfl⟩ := List.mem_map.1 hv
    rfl
  intro w3 hblk hbw
  have hbT : w3.heap[gt]? = some (.cells (tkC c.gw (.slice PA dep pc) (.slice none 0 0) (tk0 dep args [(b0, v0), (b1, v1), (b2, v2), (b3, v3)] len)).toArray 227 (0, 0)) := by
    rw [hblk.out]
    exact congrArg (fun l => some (Obj.cells (List.toArray l) 227 (0, 0))) (splice_args [.pointer (some ⟨c.gw, 0, none⟩), .slice PA dep pc] (handC [(b0, v0), (b1, v1), (b2, v2), (b3, v3)] ++ [.slice none 0 0, .int .i64 0, .int .i64 0, .int .i64 (len : Int)]) args rfl HA8.out)
  have HB3 : Hid (Below W.heap.size W w3) := hB2.out.trans (hbw.mono (by rw [HGT.out]; omega))
  have HT3 : Hid (TkR W.heap.size gt c.gw w3 (tk0 dep args [(b0, v0), (b1, v1), (b2, v2), (b3, v3)] len)) :=
    ⟨by rw [HGT.out]; omega, by have := HA8.out; simp [padR]; omega, rfl, _, _, hbT, ⟨ps, pw_own_below HP.out HB3.out⟩, own_nil _ _ _ _⟩
  have q1 := blk_below HE.out.2.1 HB3.out
  have HQ3 := Lib.hid (And.intro (pw_own_below HE.out.2.2.1 HB3.out) (pw_own_below HE.out.2.2.2.1 HB3.out))
  have HBT := Lib.hid hbT
  have HQ1 := Lib.hid q1
  have HLN : Hid ((e.log.length + 1) * 32 ≤ 140737488355328) := by
    have := HEO.out.log
    simp at this
    unfold big at this
    show (e.log.length + 1) * 32 ≤ 140737488355328
    omega
  have HSZ : Hid (c.base ≤ w3.heap.size) := Nat.le_trans HBB.out.size HB3.out.size
  have HB4 : Hid (Below c.base c.w00 w3) := HBB.out.trans (HB3.out.mono HBB.out.size)
  clear hblk hbw hbT k7
  have k7 : w3.cell? ⟨c.gw, 7, none⟩ = some (.slice A0 e.log.length cl) := (blk_cell HQ1.out 7).trans rfl
  have z7 : w3.frozen? ⟨c.gw, 7, none⟩ = false := blk_frozen HQ1.out 7
  clear q1
  go_wp2_with ((with_reducible refine gate_builtin (b := .append) (xs := #[.tmp 34, .tmp 37]) rfl ?_); refine print_append_cells (w0 := c.w00) c.base rfl (.tmp 34) (.tmp 37) 89 229 (.agg #[.slice none 0 0, .int .i64 0]) 2 32 rfl Tryz.underlying89 info229 rfl (by decide) (by decide) (.slice A0 e.log.length cl) e.log.length lx [.slice PA dep pc, .int .i64 0] rfl rfl rfl (by intro u hu; simp at hu; rcases hu with rfl | rfl <;> rfl) HQ3.out.2 HB4.out HSZ.out HLN.out ?_; intro v4 w4 hR4 hB4 hg4 hat4; obtain ⟨A4, c4, hv4⟩ := own_slice hR4; subst hv4; have HK4 : Hid (Kq [229] w3 w4) := Kq.row HQ3.out.2 (by simp) hg4.size hg4; have HR4 := Lib.hid hR4; have HB5 := Lib.hid hB4; clear hR4 hB4 hg4 hat4 k7 z7; have k7 : w4.cell? ⟨c.gw, 7, none⟩ = some (.slice A0 e.log.length cl) := (blk_cell (HK4.out.get HQ1.out (by decide)) 7).trans rfl; have z7 : w4.frozen? ⟨c.gw, 7, none⟩ = false := blk_frozen (HK4.out.get HQ1.out (by decide)) 7; have k0 : w4.cell? ⟨c.gw, 0, none⟩ = some c.pv := (blk_cell (HK4.out.get HQ1.out (by decide)) 0).trans rfl; obtain ⟨ad, A1, c1, hA, f0, f1, fl, fC⟩ := Cx.fn_at HC.out f HF.out HB5.out; have hpv : c.pv = .slice (some ad) c.p.length c.cp := (by show Value.slice c.A _ _ = _; rw [hA]); rw [hpv] at k0; have hne : ¬ (ad.add (f * 2)).block = c.gw := (by have h1 := World.block_lt_of_cell? _ _ (Cx.prog_lt HC.out f HF.out hA); have h2 : c.w00.heap.size ≤ c.gw := HE.out.1; omega); have i0 : (0 : Int) ≤ (f : Int) := (by omega); have i1 : (f : Int) < (c.p.length : Int) := (by have := HF.out; omega); have HFC := Lib.hid (And.intro fl fC); have HHA := Lib.hid hA; clear fl fC hA hpv f0)
  clear k7 z7 k0 f1 hne i0 i1
  have hk : Kq [142] w4 (w4.setCell ⟨c.gw, 7, none⟩ (.slice A4 (e.log.length + 1) c4)) := Kq.set (HK4.out.get HQ1.out (by decide)) (by simp) 7 _
  have hb5 : Below c.base c.w00 (w4.setCell ⟨c.gw, 7, none⟩ (.slice A4 (e.log.length + 1) c4)) := HB5.out.setCell (p := ⟨c.gw, 7, none⟩) HE.out.1 _
  have hK5 : Kq [142, 2, 229] W (w4.setCell ⟨c.gw, 7, none⟩ (.slice A4 (e.log.length + 1) c4)) :=
    ((Kq.below HB3.out).trans (HK4.out.more (by intro t ht; simp at ht; subst ht; simp))).trans (hk.more (by intro t ht; simp at ht; subst ht; simp))
  have hEV : c.ev (w4.setCell ⟨c.gw, 7, none⟩ (.slice A4 (e.log.length + 1) c4)) { e with log := e.log ++ [0] } := by
    refine ⟨HE.out.1, tv, .slice A4 (e.log.length + 1) c4, lx ++ [.slice PA dep pc, .int .i64 ((0 : Nat) : Int)], ?_, hk.own (HK4.out.own HQ3.out.1 (by decide)) (by decide), ?_, HE.out.2.2.2.2.snoc _ 0⟩
    · rw [blk_set (HK4.out.get HQ1.out (by decide)) 7]; rfl
    · have := hk.own HR4.out (by decide)
      simpa using this
  have hT5 : TkR W.heap.size gt c.gw (w4.setCell ⟨c.gw, 7, none⟩ (.slice A4 (e.log.length + 1) c4)) (tk0 dep args [(b0, v0), (b1, v1), (b2, v2), (b3, v3)] e.log.length) := by
    have := (HT3.out.kq HK4.out (by decide) (by decide) (by decide)).kq hk (by decide) (by decide) (by decide)
    rwa [HLEN.out] at this
  have hFn := valid_fn HC.out.valid f HF.out
  have hTO : TkOk (codeOf c.p f).length { e with log := e.log ++ [0] } (tk0 dep args [(b0, v0), (b1, v1), (b2, v2), (b3, v3)] e.log.length) := by
    have h1 := HEO.out.told
    refine ⟨by have := HA8.out; simp [padR]; omega, rfl, fun x hx => by simp at hx, ?_, ?_, ?_, ?_⟩
    · show 0 + e.left ≤ big
      have : e.told.length + e.left ≤ big := h1
      omega
    · show 0 + e.left ≤ big
      have : e.told.length + e.left ≤ big := h1
      omega
    · show 0 < (codeOf c.p f).length
      have := hFn.len.1
      exact Nat.lt_of_lt_of_le Nat.zero_lt_one (by simpa [codeOf] using this)
    · show e.log.length < (e.log ++ [0]).length
      simp
  refine (HR.out W _ gt { e with log := e.log ++ [0] } _ f A1 c1 HF.out hEV HEO.out HL.out hT5 hTO HDP.out hK5 hb5 HBB.out.size HFC.out.1 HFC.out.2).mono ?_
  rintro en w6 ⟨g1, g2, g3⟩
  have HG := Lib.hid (And.intro g1 g2)
  clear g1 g2 hk hb5 hK5 hEV hT5 hFn hTO
  rw [HO.out] at g3
  clear HO
  cases o with
  | ok e2 v =>
    obtain ⟨rfl, g4⟩ := g3
    have HG4 := Lib.hid g4
    clear g4
    go_wp2_with fail
    go_ret
    exact ⟨HG.out.1, HG.out.2, rfl, HG4.out⟩
  | fail e2 why =>
    obtain ⟨rfl, g4⟩ := g3
    exact ⟨rfl, HG.out.1, HG.out.2, rfl, g4⟩
  | long e2 =>
    obtain ⟨rfl, g4⟩ := g3
    exact ⟨rfl, HG.out.1, HG.out.2, rfl, g4⟩
end Go.Proofs.YtbiajfkencamiaaGreatDoor.EV
