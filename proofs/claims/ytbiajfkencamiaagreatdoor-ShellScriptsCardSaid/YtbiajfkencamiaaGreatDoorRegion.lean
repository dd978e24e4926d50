/- A region that draws its order, walked operation by operation: what is said of each operation holds in whatever order its edges allow; operations that act follow one behind the other. -/
import Derived.Orders
import Derived.Scope
import Derived.KernelRfl
/-! Region -/
namespace Go.Proofs.YtbiajfkencamiaaGreatDoor.Reg
set_option linter.unusedVariables false
set_option linter.unusedSimpArgs false
section
variable {P : Program} {ops : Array Oper} {Q : Exit → Act → World → Prop}

def edge (o : Oper) (j : Nat) : Bool := o.after.any fun e => Region.binds .any e && e.on == j
/-- i stands behind j, by at most so many edges. -/
def behind (ops : Array Oper) : Nat → Nat → Nat → Bool
  | 0, _, _ => false
  | n + 1, i, j => match ops[i]? with
    | none => false
    | some o => o.after.any fun e => Region.binds .any e && (e.on == j || behind ops n e.on j)

def Closed (ops : Array Oper) (L : Nat → Prop) : Prop := ∀ i o, ops[i]? = some o → L i → ∀ e ∈ o.after.toList, Region.binds .any e = true → L e.on

theorem behind_spec {L : Nat → Prop} (hc : Closed ops L) : ∀ n i j, behind ops n i j = true → L i → L j := by
  intro n
  induction n with
  | zero => intro i j h; simp [behind] at h
  | succ n ih =>
    intro i j h hi
    unfold behind at h
    cases ho : ops[i]? with
    | none => simp [ho] at h
    | some o =>
      rw [ho] at h
      simp only [Array.any_eq_true', Bool.and_eq_true, Bool.or_eq_true, beq_iff_eq] at h
      obtain ⟨e, he, hb, h⟩ := h
      have hl := hc i o ho hi e (by simpa using he) hb
      rcases h with rfl | h
      · exact hl
      · exact ih _ _ h hl

theorem getD_lt {l : Array Bool} {i : Nat} (h : i < l.size) (b : Bool) : l.getD i b = l[i] := by simp [Array.getD, h]
theorem countP_lt {p q : Nat → Bool} : ∀ {l : List Nat} {i : Nat}, i ∈ l → (∀ j, q j = true → p j = true) → p i = true → q i = false → l.countP q < l.countP p := by
  intro l
  induction l with
  | nil => intro i hi; cases hi
  | cons x l ih =>
    intro i hi hqp hp hq
    have hmono : ∀ l : List Nat, l.countP q ≤ l.countP p := fun l => List.countP_mono_left (fun x _ h => hqp x h)
    rcases List.mem_cons.1 hi with rfl | hi
    · rw [List.countP_cons_of_neg (by simp [hq]), List.countP_cons_of_pos hp]
      have := hmono l
      omega
    · have h1 := ih hi hqp hp hq
      by_cases hx : q x = true
      · rw [List.countP_cons_of_pos hx, List.countP_cons_of_pos (hqp x hx)]; omega
      · rw [List.countP_cons_of_neg hx]
        by_cases hx2 : p x = true
        · rw [List.countP_cons_of_pos hx2]; omega
        · rw [List.countP_cons_of_neg hx2]; omega
/-- The general law: I of what has been done. -/
theorem wp_region_inv {id : Nat} {a0 : Act} {w0 : World} (hm : P.follows .mixedOrders = true) (I : (Nat → Prop) → Act → World → Prop)
    (hlow : ∀ i o, ops[i]? = some o → ∀ e ∈ o.after.toList, Region.binds .any e = true → e.on < i)
    (h0 : I (fun _ => False) a0 w0.drew)
    (step : ∀ (L : Nat → Prop) i o a w, ops[i]? = some o → ¬ L i → Closed ops L → (∀ e ∈ o.after.toList, Region.binds .any e = true → L e.on) → I L a w → wpOp P ops Q i (I (fun j => L j ∨ j = i)) a w)
    (fin : ∀ (L : Nat → Prop) a w, (∀ i, i < ops.size → L i) → I L a w → Q .normal a w)
    (hext : ∀ (L L' : Nat → Prop) a w, (∀ i, L i ↔ L' i) → I L a w → I L' a w) : (Code.region id ops true).wp P Q a0 w0 := by
  refine wp_region_any hm ?_
  have key : ∀ (fuel : Nat) (listed : Array Bool) (a : Act) (w : World), listed.size = ops.size → (List.range ops.size).countP (fun i => !listed.getD i true) ≤ fuel →
      Closed ops (fun i => listed.getD i false = true) → I (fun i => listed.getD i false = true) a w → wpAny P .any ops Q fuel listed a w := by
    intro fuel
    have done : ∀ (listed : Array Bool) (a : Act) (w : World), listed.size = ops.size → Region.ready .any ops listed = [] → Closed ops (fun i => listed.getD i false = true) → I (fun i => listed.getD i false = true) a w → Q .normal a w := by
      intro listed a w hs hr hc hI
      refine fin _ a w ?_ hI
      intro i
      induction i using Nat.strongRecOn with
      | _ i ih =>
        intro hi
        by_cases hl : listed.getD i false = true
        · exact hl
        · exfalso
          have hmem : i ∈ Region.ready .any ops listed := by
            unfold Region.ready
            rw [List.mem_filter]
            refine ⟨List.mem_range.2 hi, ?_⟩
            have hlt : i < listed.size := by omega
            have e1 : listed.getD i true = false := by
              rw [getD_lt hlt] at hl ⊢
              simpa using hl
            rw [e1, Array.getElem?_eq_getElem hi]
            simp only [Bool.not_false, Bool.true_and, Option.map_some, Option.getD_some, Array.all_eq_true', Bool.or_eq_true, Bool.not_eq_true']
            intro e he
            cases hb : Region.binds .any e with
            | false => exact .inl rfl
            | true =>
              have hlo := hlow i _ (Array.getElem?_eq_getElem hi) e (by simpa using he) hb
              exact .inr (ih e.on hlo (by omega))
          rw [hr] at hmem
          cases hmem
    induction fuel with
    | zero =>
      intro listed a w hs hcnt hc hI
      have hr : Region.ready .any ops listed = [] := by
        unfold Region.ready
        rw [List.filter_eq_nil_iff]
        intro i hi
        have h0 := List.countP_eq_zero.1 (Nat.le_zero.1 hcnt) i hi
        have h0' : listed.getD i true = true := by
          cases hb : listed.getD i true with
          | true => rfl
          | false => exact absurd (by rw [hb]; rfl) h0
        rw [h0']
        simp
      exact ⟨hr, done listed a w hs hr hc hI⟩
    | succ fuel ih =>
      intro listed a w hs hcnt hc hI
      refine ⟨fun hr => done listed a w hs hr hc hI, fun i hi => ?_⟩
      unfold Region.ready at hi
      rw [List.mem_filter] at hi
      obtain ⟨hir, hi2⟩ := hi
      have hi3 : i < ops.size := List.mem_range.1 hir
      have hlt : i < listed.size := by omega
      rw [Array.getElem?_eq_getElem hi3] at hi2
      simp only [Bool.and_eq_true, Bool.not_eq_true', Option.map_some, Option.getD_some, Array.all_eq_true', Bool.or_eq_true] at hi2
      obtain ⟨hnl, hpre⟩ := hi2
      have hnl' : ¬ listed.getD i false = true := by
        rw [getD_lt hlt] at hnl ⊢
        simp [hnl]
      have hpre' : ∀ e ∈ ops[i].after.toList, Region.binds .any e = true → listed.getD e.on false = true := by
        intro e he hb
        rcases hpre e (by simpa using he) with h | h
        · rw [hb] at h; cases h
        · exact h
      have hiff : ∀ j, (listed.getD j false = true ∨ j = i) ↔ (listed.setIfInBounds i true).getD j false = true := by
        intro j
        simp only [Array.getD_eq_getD_getElem?, Array.getElem?_setIfInBounds]
        by_cases e : i = j
        · subst e; simp [hlt]
        · simp [e]; intro h; exact absurd h.symm e
      refine wpOp_mono ?_ (step _ i _ a w (Array.getElem?_eq_getElem hi3) hnl' hc hpre' hI)
      intro a' w' hI'
      refine ih _ a' w' (by simpa using hs) ?_ ?_ (hext _ _ _ _ hiff hI')
      · have : (List.range ops.size).countP (fun j => !(listed.setIfInBounds i true).getD j true) < (List.range ops.size).countP (fun j => !listed.getD j true) := by
          refine countP_lt (i := i) (List.mem_range.2 hi3) (fun j hj => ?_) (by simp [hnl]) ?_
          · by_cases e : i = j
            · subst e
              simp only [Array.getD_eq_getD_getElem?, Array.getElem?_setIfInBounds, hlt, if_pos] at hj
              simp at hj
            · simp only [Array.getD_eq_getD_getElem?, Array.getElem?_setIfInBounds, if_neg e] at hj ⊢
              exact hj
          · simp [Array.getD_eq_getD_getElem?, Array.getElem?_setIfInBounds, hlt]
        omega
      · intro j o ho hj e he hb
        rcases (hiff j).2 hj with h | rfl
        · exact (hiff _).1 (.inl (hc j o ho h e he hb))
        · rw [Array.getElem?_eq_getElem hi3] at ho
          injection ho with ho
          subst ho
          exact (hiff _).1 (.inl (hpre' e he hb))
  refine key ops.size _ a0 _ (by simp) ?_ ?_ (hext _ _ _ _ ?_ h0)
  · exact Nat.le_trans (List.countP_le_length) (by simp)
  · intro i o ho hi
    exfalso
    simp [Array.getD] at hi
  · intro i
    simp [Array.getD]

/-! ### In phases: the operations of E act, one behind the other; all others only yield. -/
def val (a : Act) (t : Tmp) : Value := a.tmps.getD t undef
theorem eval_val (a : Act) (t : Tmp) : a.eval (.tmp t) = val a t := by simp [Act.eval, val, Array.getD_eq_getD_getElem?]
theorem val_put_ne (a : Act) (x : Option Tmp) (v : Value) (t : Tmp) (h : x ≠ some t) : val (a.put x v) t = val a t := by
  cases x with
  | none => rfl
  | some d =>
    have hne : d ≠ t := fun e => h (by rw [e])
    simp [val, Act.put, Array.getD_eq_getD_getElem?, Array.getElem?_setIfInBounds, hne]
theorem val_put_same (a : Act) (d : Tmp) (v : Value) (h : d < a.tmps.size) : val (a.put (some d) v) d = v := by
  simp [val, Act.put, Array.getD_eq_getD_getElem?, Array.getElem?_setIfInBounds, h]
theorem put_size (a : Act) (x : Option Tmp) (v : Value) : (a.put x v).tmps.size = a.tmps.size := by cases x <;> simp [Act.put]
theorem put_defers (a : Act) (x : Option Tmp) (v : Value) : (a.put x v).defers = a.defers := by cases x <;> rfl

/-- Outside the region's own slots the frame is as it was. -/
structure Frm (ops : Array Oper) (a0 a : Act) : Prop where
  defers : a.defers = a0.defers
  size : a.tmps.size = a0.tmps.size
  rest : ∀ t, (∀ o ∈ ops.toList, o.dst ≠ some t) → val a t = val a0 t
def noDst (ops : Array Oper) (t : Tmp) : Bool := ops.toList.all fun o => o.dst != some t
theorem Frm.eval {a0 a : Act} (h : Frm ops a0 a) (t : Tmp) (ht : noDst ops t = true) : a.eval (.tmp t) = a0.eval (.tmp t) := by
  rw [eval_val, eval_val]
  refine h.rest t fun o ho => ?_
  have := List.all_eq_true.1 ht o ho
  simpa using this
def isSlot (ops : Array Oper) (j d : Nat) : Bool := match ops[j]? with | some o => o.dst == some d | none => false
def Known (ops : Array Oper) (V : Nat → Value → Prop) (S : Nat → Prop) (a : Act) : Prop := ∀ j d, S j → isSlot ops j d = true → V j (val a d)
theorem Known.eval {V : Nat → Value → Prop} {S : Nat → Prop} {a : Act} (h : Known ops V S a) (j d : Nat) (hs : S j) (hd : isSlot ops j d = true) : V j (a.eval (.tmp d)) := by
  rw [eval_val]
  exact h j d hs hd
/-- The slots are apart, and lie in the frame; edges lead backwards. -/
def chk (ops : Array Oper) (n : Nat) : Bool :=
  ((List.range ops.size).all fun i => (List.range ops.size).all fun j => i == j || (match (ops[i]?).bind (·.dst), (ops[j]?).bind (·.dst) with | some d, some e => d != e | _, _ => true)) &&
  (ops.toList.all fun o => match o.dst with | some d => decide (d < n) | none => true) &&
  ((List.range ops.size).all fun i => match ops[i]? with | some o => o.after.toList.all fun e => !Region.binds .any e || decide (e.on < i) | none => true)
def chainOk (ops : Array Oper) (E : List Nat) : Bool := (List.range (E.length - 1)).all fun k => behind ops ops.size (E.getD (k + 1) 0) (E.getD k 0)
/-- In which phases an operation may come. -/
def mayCome (ops : Array Oper) (E : List Nat) (i k : Nat) : Prop :=
  (∀ m, k ≤ m → m < E.length → behind ops ops.size i (E.getD m 0) = false) ∧ (∀ m, m < k → m < E.length → behind ops ops.size (E.getD m 0) i = false)
def mayComeB (ops : Array Oper) (E : List Nat) (i k : Nat) : Bool :=
  (List.range E.length).all fun m => if m < k then !behind ops ops.size (E.getD m 0) i else !behind ops ops.size i (E.getD m 0)
theorem mayCome_b {E : List Nat} {i k : Nat} (h : mayCome ops E i k) : mayComeB ops E i k = true := by
  unfold mayComeB
  rw [List.all_eq_true]
  intro m hm
  have hm := List.mem_range.1 hm
  split
  · rename_i hk; rw [h.2 m hk hm]; rfl
  · rename_i hk; rw [h.1 m (by omega) hm]; rfl

/-- A slot that is written behind i alone holds what it held. -/
def Still (ops : Array Oper) (a0 a : Act) (i : Nat) : Prop := ∀ j t, isSlot ops j t = true → behind ops ops.size j i = true → val a t = val a0 t
theorem Still.eval {a0 a : Act} {i : Nat} (h : Still ops a0 a i) (j t : Nat) (hs : isSlot ops j t = true) (hb : behind ops ops.size j i = true) : a.eval (.tmp t) = a0.eval (.tmp t) := by
  rw [eval_val, eval_val]
  exact h j t hs hb
theorem nodup_inj {E : List Nat} (h : E.Nodup) {i j : Nat} (hi : i < E.length) (hj : j < E.length) (e : E[i] = E[j]) : i = j := by
  have hp := List.pairwise_iff_getElem.1 h
  rcases Nat.lt_trichotomy i j with h1 | h1 | h1
  · exact absurd e (hp i j hi hj h1)
  · exact h1
  · exact absurd e.symm (hp j i hj hi h1)

theorem wp_region_phase {id : Nat} {a0 : Act} {w0 : World} (hm : P.follows .mixedOrders = true) (E : List Nat) (V : Nat → Value → Prop) (J : Nat → (Nat → Value) → World → Prop)
    (hchk : chk ops a0.tmps.size = true) (hE : chainOk ops E = true) (hEn : E.Nodup) (hEl : ∀ e ∈ E, e < ops.size)
    (hJ : ∀ k f f' w, (∀ m, m < k → m < E.length → ∀ d, isSlot ops (E.getD m 0) d = true → f d = f' d) → J k f w → J k f' w)
    (h0 : J 0 (val a0) w0.drew)
    (pure : ∀ i o k a w, ops[i]? = some o → i ∉ E → k ≤ E.length → mayComeB ops E i k = true → Frm ops a0 a → Still ops a0 a i → Known ops V (fun j => edge o j = true) a → J k (val a) w →
      wpOp P ops Q i (fun a' w' => ∃ v, a' = a.put o.dst v ∧ V i v ∧ J k (val a) w') a w)
    (act : ∀ k o a w, k < E.length → ops[E.getD k 0]? = some o → Frm ops a0 a → Still ops a0 a (E.getD k 0) → Known ops V (fun j => edge o j = true) a → J k (val a) w →
      wpOp P ops Q (E.getD k 0) (fun a' w' => ∃ v, a' = a.put o.dst v ∧ V (E.getD k 0) v ∧ J (k + 1) (val a') w') a w)
    (fin : ∀ a w, Frm ops a0 a → Known ops V (fun j => j < ops.size) a → J E.length (val a) w → Q .normal a w) : (Code.region id ops true).wp P Q a0 w0 := by
  unfold chk at hchk
  simp only [Bool.and_eq_true, List.all_eq_true, List.mem_range, Bool.or_eq_true] at hchk
  obtain ⟨⟨hc1, hc2⟩, hc3⟩ := hchk
  have hap : ∀ (i j : Nat) (o p : Oper) (d : Tmp), i ≠ j → ops[i]? = some o → ops[j]? = some p → o.dst = some d → p.dst ≠ some d := by
    intro i j o p d hne ho hp hd he
    have h1 := hc1 i (Array.getElem?_eq_some_iff.1 ho).1 j (Array.getElem?_eq_some_iff.1 hp).1
    rcases h1 with h1 | h1
    · exact hne (by simpa using h1)
    · simp [ho, hp, hd, he] at h1
  have hin : ∀ (i : Nat) (o : Oper) (d : Tmp), ops[i]? = some o → o.dst = some d → d < a0.tmps.size := by
    intro i o d ho hd
    have h1 := hc2 o (by have := Array.getElem?_eq_some_iff.1 ho; obtain ⟨h, rfl⟩ := this; simp)
    rw [hd] at h1
    simpa using h1
  have hlow : ∀ (i : Nat) (o : Oper), ops[i]? = some o → ∀ e ∈ o.after.toList, Region.binds .any e = true → e.on < i := by
    intro i o ho e he hb
    have h1 := hc3 i (Array.getElem?_eq_some_iff.1 ho).1
    rw [ho] at h1
    have h2 := List.all_eq_true.1 h1 e he
    rw [hb] at h2
    simpa using h2
  have hput : ∀ (i : Nat) (o : Oper) (a : Act) (v : Value), ops[i]? = some o → Frm ops a0 a → Frm ops a0 (a.put o.dst v) := by
    intro i o a v ho hf
    refine ⟨by rw [put_defers]; exact hf.defers, by rw [put_size]; exact hf.size, fun t ht => ?_⟩
    have hmem : o ∈ ops.toList := by have := Array.getElem?_eq_some_iff.1 ho; obtain ⟨h, rfl⟩ := this; simp
    rw [val_put_ne _ _ _ _ (ht o hmem)]
    exact hf.rest t ht
  have hknow : ∀ (i : Nat) (o : Oper) (a : Act) (v : Value) (S : Nat → Prop), ops[i]? = some o → Frm ops a0 a → Known ops V S a → V i v → Known ops V (fun j => S j ∨ j = i) (a.put o.dst v) := by
    intro i o a v S ho hf hk hv j d hj hd
    unfold isSlot at hd
    cases hp : ops[j]? with
    | none => simp [hp] at hd
    | some p =>
      rw [hp] at hd
      have hd' : p.dst = some d := by simpa using hd
      by_cases e : j = i
      · subst e
        rw [ho] at hp
        injection hp with hp
        subst hp
        rw [hd', val_put_same _ _ _ (by rw [hf.size]; exact hin j o d ho hd')]
        exact hv
      · rw [val_put_ne _ _ _ _ (hap j i p o d e hp ho hd')]
        rcases hj with hj | hj
        · exact hk j d hj (by unfold isSlot; rw [hp]; simpa using hd')
        · exact absurd hj e
  refine wp_region_inv hm (fun L a w => ∃ k, k ≤ E.length ∧ (∀ m, m < E.length → (L (E.getD m 0) ↔ m < k)) ∧ Frm ops a0 a ∧ (∀ t, (∀ j, L j → isSlot ops j t = false) → val a t = val a0 t) ∧ Known ops V L a ∧ J k (val a) w) hlow ?_ ?_ ?_ ?_
  · exact ⟨0, Nat.zero_le _, fun m _ => by simp, ⟨rfl, rfl, fun _ _ => rfl⟩, fun _ _ => rfl, fun j d h => h.elim, h0⟩
  · intro L i o a w ho hnl hc hpre ⟨k, hk, hL, hf, hu, hkn, hj⟩
    have hpk : Known ops V (fun j => edge o j = true) a := by
      intro j d he hd
      refine hkn j d ?_ hd
      unfold edge at he
      simp only [Array.any_eq_true', Bool.and_eq_true, beq_iff_eq] at he
      obtain ⟨e, he1, he2, rfl⟩ := he
      exact hpre e (by simpa using he1) he2
    have hcl : Closed ops (fun j => L j ∨ j = i) := by
      intro j p hp hj' e he hb
      rcases hj' with hj' | rfl
      · exact .inl (hc j p hp hj' e he hb)
      · rw [ho] at hp
        injection hp with hp
        subst hp
        exact .inl (hpre e he hb)
    have hst0 : Still ops a0 a i := by
      intro j t hs hb
      refine hu t fun m hm => ?_
      by_cases e : m = j
      · subst e
        exact absurd (behind_spec hc _ _ _ hb hm) hnl
      · cases hx : isSlot ops m t with
        | false => rfl
        | true =>
          exfalso
          unfold isSlot at hx hs
          cases hp : ops[m]? with
          | none => rw [hp] at hx; cases hx
          | some p =>
            cases hq : ops[j]? with
            | none => rw [hq] at hs; cases hs
            | some q =>
              rw [hp] at hx
              rw [hq] at hs
              exact hap m j p q t e hp hq (by simpa using hx) (by simpa using hs)
    have hu' : ∀ v t, (∀ j, (fun j => L j ∨ j = i) j → isSlot ops j t = false) → val (a.put o.dst v) t = val a0 t := by
      intro v t h
      have h1 := h i (.inr rfl)
      unfold isSlot at h1
      rw [ho] at h1
      rw [val_put_ne _ _ _ _ (by simpa using h1)]
      exact hu t fun j hj' => h j (.inl hj')
    by_cases hiE : i ∈ E
    · obtain ⟨m, hmE, rfl⟩ := List.mem_iff_getElem.1 hiE
      have hgd : ∀ x (hx : x < E.length), E.getD x 0 = E[x] := fun x hx => by simp [List.getD, List.getElem?_eq_getElem hx]
      have hmk : ¬ m < k := fun h => hnl (by rw [← hgd m hmE]; exact (hL m hmE).2 h)
      have hkm : k = m := by
        rcases Nat.lt_or_ge k m with h | h
        · exfalso
          -- the one ahead of m must have been done
          have : ∀ x, x ≤ m → ¬ (k ≤ m - x ∧ x ≠ 0) := by
            intro x
            induction x with
            | zero => intro _ h; exact h.2 rfl
            | succ x ih =>
              intro hx ⟨h1, _⟩
              have hch := List.all_eq_true.1 hE (m - x - 1) (List.mem_range.2 (by omega))
              rw [show m - x - 1 + 1 = m - x by omega] at hch
              have hdone : (fun j => L j ∨ j = E[m]) (E.getD (m - x) 0) := by
                by_cases hx0 : x = 0
                · subst hx0
                  exact .inr (hgd m hmE)
                · exact absurd ⟨by omega, hx0⟩ (ih (by omega))
              rcases behind_spec hcl _ _ _ hch hdone with h3 | h3
              · have := (hL _ (by omega)).1 h3
                omega
              · rw [hgd _ (by omega)] at h3
                have := nodup_inj hEn _ _ h3
                omega
          exact this 1 (by omega) ⟨by omega, by omega⟩
        · omega
      subst hkm
      have hst := act k o a w hmE (by rw [hgd k hmE]; exact ho) hf (by rw [hgd k hmE]; exact hst0) hpk hj
      rw [hgd k hmE] at hst
      refine wpOp_mono ?_ hst
      rintro a' w' ⟨v, rfl, hv, hj'⟩
      refine ⟨k + 1, hmE, fun x hx => ?_, hput _ o a v ho hf, hu' v, hknow _ o a v L ho hf hkn hv, hj'⟩
      show (L _ ∨ _) ↔ _
      rw [hL x hx, hgd x hx]
      refine ⟨fun h => ?_, fun h => ?_⟩
      · rcases h with h | h
        · omega
        · have := nodup_inj hEn hx hmE h; omega
      · rcases Nat.lt_or_ge x k with h1 | h1
        · exact .inl h1
        · right; congr 1; omega
    · have hmc : mayComeB ops E i k = true := by
        refine mayCome_b ⟨fun m h1 h2 => ?_, fun m h1 h2 => ?_⟩
        · cases hb : behind ops ops.size i (E.getD m 0) with
          | false => rfl
          | true =>
            exfalso
            rcases behind_spec hcl _ _ _ hb (.inr rfl) with h3 | h3
            · have := (hL m h2).1 h3; omega
            · exact hiE (by rw [← h3, List.getD, List.getElem?_eq_getElem h2]; exact List.getElem_mem h2)
        · cases hb : behind ops ops.size (E.getD m 0) i with
          | false => rfl
          | true => exact absurd (behind_spec hc _ _ _ hb ((hL m h2).2 h1)) hnl
      refine wpOp_mono ?_ (pure i o k a w ho hiE hk hmc hf hst0 hpk hj)
      rintro a' w' ⟨v, rfl, hv, hj'⟩
      refine ⟨k, hk, fun x hx => ?_, hput _ o a v ho hf, hu' v, hknow _ o a v L ho hf hkn hv, ?_⟩
      · show (L _ ∨ _) ↔ _
        rw [hL x hx]
        refine ⟨fun h => ?_, fun h => .inl h⟩
        rcases h with h | h
        · exact h
        · exact absurd (by rw [← h, List.getD, List.getElem?_eq_getElem hx]; exact List.getElem_mem hx) hiE
      · refine hJ k _ _ w' ?_ hj'
        intro m h1 h2 d hd
        unfold isSlot at hd
        cases hp : ops[E.getD m 0]? with
        | none => rw [hp] at hd; cases hd
        | some p =>
          rw [hp] at hd
          have hd' : p.dst = some d := by simpa using hd
          have hne : E.getD m 0 ≠ i := fun e => hiE (by rw [← e, List.getD, List.getElem?_eq_getElem h2]; exact List.getElem_mem h2)
          rw [val_put_ne _ _ _ _ (hap _ i p o d hne hp ho hd')]
  · rintro L a w hall ⟨k, hk, hL, hf, hu, hkn, hj⟩
    have hkE : k = E.length := by
      rcases Nat.lt_or_ge k E.length with h | h
      · have h1 := (hL k h).1 (hall _ (hEl _ (by rw [List.getD, List.getElem?_eq_getElem h]; exact List.getElem_mem h)))
        omega
      · omega
    subst hkE
    exact fin a w hf (fun j d hj' hd => hkn j d (hall j hj') hd) hj
  · rintro L L' a w hiff ⟨k, hk, hL, hf, hu, hkn, hj⟩
    exact ⟨k, hk, fun m hm => by rw [← hiff, hL m hm], hf, fun t ht => hu t fun j hj' => ht j ((hiff j).1 hj'), fun j d hj' hd => hkn j d ((hiff j).2 hj') hd, hj⟩

/-! ### One operation -/
/-- The same with one act more, phi, that may come in any phase that its edges allow: J of the phase, and whether phi is done. -/
theorem wp_region_float {id : Nat} {a0 : Act} {w0 : World} (hm : P.follows .mixedOrders = true) (E : List Nat) (φ : Nat) (V : Nat → Value → Prop) (J : Nat → Bool → (Nat → Value) → World → Prop)
    (hchk : chk ops a0.tmps.size = true) (hE : chainOk ops E = true) (hEn : E.Nodup) (hEl : ∀ e ∈ E, e < ops.size) (hφ : φ ∉ E) (hφl : φ < ops.size)
    (hJ : ∀ k b f f' w, (∀ m, m < k → m < E.length → ∀ d, isSlot ops (E.getD m 0) d = true → f d = f' d) → (b = true → ∀ d, isSlot ops φ d = true → f d = f' d) → J k b f w → J k b f' w)
    (h0 : J 0 false (val a0) w0.drew)
    (pure : ∀ i o k b a w, ops[i]? = some o → i ∉ E → i ≠ φ → k ≤ E.length → mayComeB ops E i k = true → Frm ops a0 a → Still ops a0 a i → Known ops V (fun j => edge o j = true) a → J k b (val a) w →
      wpOp P ops Q i (fun a' w' => ∃ v, a' = a.put o.dst v ∧ V i v ∧ J k b (val a) w') a w)
    (flo : ∀ o k a w, ops[φ]? = some o → k ≤ E.length → mayComeB ops E φ k = true → Frm ops a0 a → Still ops a0 a φ → Known ops V (fun j => edge o j = true) a → J k false (val a) w →
      wpOp P ops Q φ (fun a' w' => ∃ v, a' = a.put o.dst v ∧ V φ v ∧ J k true (val a') w') a w)
    (act : ∀ k b o a w, k < E.length → ops[E.getD k 0]? = some o → (behind ops ops.size (E.getD k 0) φ = true → b = true) → Frm ops a0 a → Still ops a0 a (E.getD k 0) → Known ops V (fun j => edge o j = true) a → J k b (val a) w →
      wpOp P ops Q (E.getD k 0) (fun a' w' => ∃ v, a' = a.put o.dst v ∧ V (E.getD k 0) v ∧ J (k + 1) b (val a') w') a w)
    (fin : ∀ a w, Frm ops a0 a → Known ops V (fun j => j < ops.size) a → J E.length true (val a) w → Q .normal a w) : (Code.region id ops true).wp P Q a0 w0 := by
  unfold chk at hchk
  simp only [Bool.and_eq_true, List.all_eq_true, List.mem_range, Bool.or_eq_true] at hchk
  obtain ⟨⟨hc1, hc2⟩, hc3⟩ := hchk
  have hap : ∀ (i j : Nat) (o p : Oper) (d : Tmp), i ≠ j → ops[i]? = some o → ops[j]? = some p → o.dst = some d → p.dst ≠ some d := by
    intro i j o p d hne ho hp hd he
    have h1 := hc1 i (Array.getElem?_eq_some_iff.1 ho).1 j (Array.getElem?_eq_some_iff.1 hp).1
    rcases h1 with h1 | h1
    · exact hne (by simpa using h1)
    · simp [ho, hp, hd, he] at h1
  have hin : ∀ (i : Nat) (o : Oper) (d : Tmp), ops[i]? = some o → o.dst = some d → d < a0.tmps.size := by
    intro i o d ho hd
    have h1 := hc2 o (by have := Array.getElem?_eq_some_iff.1 ho; obtain ⟨h, rfl⟩ := this; simp)
    rw [hd] at h1
    simpa using h1
  have hlow : ∀ (i : Nat) (o : Oper), ops[i]? = some o → ∀ e ∈ o.after.toList, Region.binds .any e = true → e.on < i := by
    intro i o ho e he hb
    have h1 := hc3 i (Array.getElem?_eq_some_iff.1 ho).1
    rw [ho] at h1
    have h2 := List.all_eq_true.1 h1 e he
    rw [hb] at h2
    simpa using h2
  have hput : ∀ (i : Nat) (o : Oper) (a : Act) (v : Value), ops[i]? = some o → Frm ops a0 a → Frm ops a0 (a.put o.dst v) := by
    intro i o a v ho hf
    refine ⟨by rw [put_defers]; exact hf.defers, by rw [put_size]; exact hf.size, fun t ht => ?_⟩
    have hmem : o ∈ ops.toList := by have := Array.getElem?_eq_some_iff.1 ho; obtain ⟨h, rfl⟩ := this; simp
    rw [val_put_ne _ _ _ _ (ht o hmem)]
    exact hf.rest t ht
  have hknow : ∀ (i : Nat) (o : Oper) (a : Act) (v : Value) (S : Nat → Prop), ops[i]? = some o → Frm ops a0 a → Known ops V S a → V i v → Known ops V (fun j => S j ∨ j = i) (a.put o.dst v) := by
    intro i o a v S ho hf hk hv j d hj hd
    unfold isSlot at hd
    cases hp : ops[j]? with
    | none => simp [hp] at hd
    | some p =>
      rw [hp] at hd
      have hd' : p.dst = some d := by simpa using hd
      by_cases e : j = i
      · subst e
        rw [ho] at hp
        injection hp with hp
        subst hp
        rw [hd', val_put_same _ _ _ (by rw [hf.size]; exact hin j o d ho hd')]
        exact hv
      · rw [val_put_ne _ _ _ _ (hap j i p o d e hp ho hd')]
        rcases hj with hj | hj
        · exact hk j d hj (by unfold isSlot; rw [hp]; simpa using hd')
        · exact absurd hj e
  refine wp_region_inv hm (fun L a w => ∃ k b, k ≤ E.length ∧ (∀ m, m < E.length → (L (E.getD m 0) ↔ m < k)) ∧ (L φ ↔ b = true) ∧ Frm ops a0 a ∧ (∀ t, (∀ j, L j → isSlot ops j t = false) → val a t = val a0 t) ∧ Known ops V L a ∧ J k b (val a) w) hlow ?_ ?_ ?_ ?_
  · exact ⟨0, false, Nat.zero_le _, fun m _ => by simp, by simp, ⟨rfl, rfl, fun _ _ => rfl⟩, fun _ _ => rfl, fun j d h => h.elim, h0⟩
  · intro L i o a w ho hnl hc hpre ⟨k, b, hk, hL, hB, hf, hu, hkn, hj⟩
    have hpk : Known ops V (fun j => edge o j = true) a := by
      intro j d he hd
      refine hkn j d ?_ hd
      unfold edge at he
      simp only [Array.any_eq_true', Bool.and_eq_true, beq_iff_eq] at he
      obtain ⟨e, he1, he2, rfl⟩ := he
      exact hpre e (by simpa using he1) he2
    have hcl : Closed ops (fun j => L j ∨ j = i) := by
      intro j p hp hj' e he hb
      rcases hj' with hj' | rfl
      · exact .inl (hc j p hp hj' e he hb)
      · rw [ho] at hp
        injection hp with hp
        subst hp
        exact .inl (hpre e he hb)
    have hst0 : Still ops a0 a i := by
      intro j t hs hb
      refine hu t fun m hm => ?_
      by_cases e : m = j
      · subst e
        exact absurd (behind_spec hc _ _ _ hb hm) hnl
      · cases hx : isSlot ops m t with
        | false => rfl
        | true =>
          exfalso
          unfold isSlot at hx hs
          cases hp : ops[m]? with
          | none => rw [hp] at hx; cases hx
          | some p =>
            cases hq : ops[j]? with
            | none => rw [hq] at hs; cases hs
            | some q =>
              rw [hp] at hx
              rw [hq] at hs
              exact hap m j p q t e hp hq (by simpa using hx) (by simpa using hs)
    have hu' : ∀ v t, (∀ j, (fun j => L j ∨ j = i) j → isSlot ops j t = false) → val (a.put o.dst v) t = val a0 t := by
      intro v t h
      have h1 := h i (.inr rfl)
      unfold isSlot at h1
      rw [ho] at h1
      rw [val_put_ne _ _ _ _ (by simpa using h1)]
      exact hu t fun j hj' => h j (.inl hj')
    by_cases hiE : i ∈ E
    · obtain ⟨m, hmE, rfl⟩ := List.mem_iff_getElem.1 hiE
      have hgd : ∀ x (hx : x < E.length), E.getD x 0 = E[x] := fun x hx => by simp [List.getD, List.getElem?_eq_getElem hx]
      have hmk : ¬ m < k := fun h => hnl (by rw [← hgd m hmE]; exact (hL m hmE).2 h)
      have hkm : k = m := by
        rcases Nat.lt_or_ge k m with h | h
        · exfalso
          -- the one ahead of m must have been done
          have : ∀ x, x ≤ m → ¬ (k ≤ m - x ∧ x ≠ 0) := by
            intro x
            induction x with
            | zero => intro _ h; exact h.2 rfl
            | succ x ih =>
              intro hx ⟨h1, _⟩
              have hch := List.all_eq_true.1 hE (m - x - 1) (List.mem_range.2 (by omega))
              rw [show m - x - 1 + 1 = m - x by omega] at hch
              have hdone : (fun j => L j ∨ j = E[m]) (E.getD (m - x) 0) := by
                by_cases hx0 : x = 0
                · subst hx0
                  exact .inr (hgd m hmE)
                · exact absurd ⟨by omega, hx0⟩ (ih (by omega))
              rcases behind_spec hcl _ _ _ hch hdone with h3 | h3
              · have := (hL _ (by omega)).1 h3
                omega
              · rw [hgd _ (by omega)] at h3
                have := nodup_inj hEn _ _ h3
                omega
          exact this 1 (by omega) ⟨by omega, by omega⟩
        · omega
      subst hkm
      have hst := act k b o a w hmE (by rw [hgd k hmE]; exact ho) (fun hbh => hB.1 (by
        rw [hgd k hmE] at hbh
        rcases behind_spec hcl _ _ _ hbh (.inr rfl) with h3 | h3
        · exact h3
        · exact absurd (h3 ▸ List.getElem_mem hmE) hφ)) hf (by rw [hgd k hmE]; exact hst0) hpk hj
      rw [hgd k hmE] at hst
      refine wpOp_mono ?_ hst
      rintro a' w' ⟨v, rfl, hv, hj'⟩
      refine ⟨k + 1, b, hmE, fun x hx => ?_, ⟨fun h => hB.1 (h.resolve_right fun e => hφ (e ▸ List.getElem_mem hmE)), fun h => .inl (hB.2 h)⟩, hput _ o a v ho hf, hu' v, hknow _ o a v L ho hf hkn hv, hj'⟩
      show (L _ ∨ _) ↔ _
      rw [hL x hx, hgd x hx]
      refine ⟨fun h => ?_, fun h => ?_⟩
      · rcases h with h | h
        · omega
        · have := nodup_inj hEn hx hmE h; omega
      · rcases Nat.lt_or_ge x k with h1 | h1
        · exact .inl h1
        · right; congr 1; omega
    · have hmc : mayComeB ops E i k = true := by
        refine mayCome_b ⟨fun m h1 h2 => ?_, fun m h1 h2 => ?_⟩
        · cases hb : behind ops ops.size i (E.getD m 0) with
          | false => rfl
          | true =>
            exfalso
            rcases behind_spec hcl _ _ _ hb (.inr rfl) with h3 | h3
            · have := (hL m h2).1 h3; omega
            · exact hiE (by rw [← h3, List.getD, List.getElem?_eq_getElem h2]; exact List.getElem_mem h2)
        · cases hb : behind ops ops.size (E.getD m 0) i with
          | false => rfl
          | true => exact absurd (behind_spec hc _ _ _ hb ((hL m h2).2 h1)) hnl
      by_cases hip : i = φ
      · subst hip
        have hbf : b = false := by
          cases b with
          | false => rfl
          | true => exact absurd (hB.2 rfl) hnl
        subst hbf
        refine wpOp_mono ?_ (flo o k a w ho hk hmc hf hst0 hpk hj)
        rintro a' w' ⟨v, rfl, hv, hj'⟩
        refine ⟨k, true, hk, fun x hx => ?_, ⟨fun _ => rfl, fun _ => .inr rfl⟩, hput _ o a v ho hf, hu' v, hknow _ o a v L ho hf hkn hv, hj'⟩
        show (L _ ∨ _) ↔ _
        rw [hL x hx]
        refine ⟨fun h => ?_, fun h => .inl h⟩
        rcases h with h | h
        · exact h
        · exact absurd (by rw [← h, List.getD, List.getElem?_eq_getElem hx]; exact List.getElem_mem hx) hiE
      refine wpOp_mono ?_ (pure i o k b a w ho hiE hip hk hmc hf hst0 hpk hj)
      rintro a' w' ⟨v, rfl, hv, hj'⟩
      refine ⟨k, b, hk, fun x hx => ?_, ⟨fun h => hB.1 (h.resolve_right fun e => hip e.symm), fun h => .inl (hB.2 h)⟩, hput _ o a v ho hf, hu' v, hknow _ o a v L ho hf hkn hv, ?_⟩
      · show (L _ ∨ _) ↔ _
        rw [hL x hx]
        refine ⟨fun h => ?_, fun h => .inl h⟩
        rcases h with h | h
        · exact h
        · exact absurd (by rw [← h, List.getD, List.getElem?_eq_getElem hx]; exact List.getElem_mem hx) hiE
      · refine hJ k b _ _ w' ?_ ?_ hj'
        · intro m h1 h2 d hd
          unfold isSlot at hd
          cases hp : ops[E.getD m 0]? with
          | none => rw [hp] at hd; cases hd
          | some p =>
            rw [hp] at hd
            have hd' : p.dst = some d := by simpa using hd
            have hne : E.getD m 0 ≠ i := fun e => hiE (by rw [← e, List.getD, List.getElem?_eq_getElem h2]; exact List.getElem_mem h2)
            rw [val_put_ne _ _ _ _ (hap _ i p o d hne hp ho hd')]
        · intro _ d hd
          unfold isSlot at hd
          cases hp : ops[φ]? with
          | none => rw [hp] at hd; cases hd
          | some p =>
            rw [hp] at hd
            have hd' : p.dst = some d := by simpa using hd
            rw [val_put_ne _ _ _ _ (hap _ i p o d (fun e => hip e.symm) hp ho hd')]
  · rintro L a w hall ⟨k, b, hk, hL, hB, hf, hu, hkn, hj⟩
    have hbt : b = true := hB.1 (hall φ hφl)
    subst hbt
    have hkE : k = E.length := by
      rcases Nat.lt_or_ge k E.length with h | h
      · have h1 := (hL k h).1 (hall _ (hEl _ (by rw [List.getD, List.getElem?_eq_getElem h]; exact List.getElem_mem h)))
        omega
      · omega
    subst hkE
    exact fin a w hf (fun j d hj' hd => hkn j d (hall j hj') hd) hj
  · rintro L L' a w hiff ⟨k, b, hk, hL, hB, hf, hu, hkn, hj⟩
    exact ⟨k, b, hk, fun m hm => by rw [← hiff, hL m hm], by rw [← hiff, hB], hf, fun t ht => hu t fun j hj' => ht j ((hiff j).1 hj'), fun j d hj' hd => hkn j d ((hiff j).2 hj') hd, hj⟩

/-! ### One operation -/
theorem op_value {i : Nat} {o : Oper} {K : Act → World → Prop} {a : Act} {w w' : World} {v : Value} (ho : ops[i]? = some o) (hw : Region.wanted o (yielded ops a.tmps) = true) (hr : (execOp a.eval o).run P w = .ok (.value v) w') (h : K (a.put o.dst v) w') : wpOp P ops Q i K a w := by
  unfold wpOp
  rw [ho]
  simp only [hw, if_true]
  left
  unfold Oper.wp
  rw [hr]
  exact h
theorem op_unit {i : Nat} {o : Oper} {K : Act → World → Prop} {a : Act} {w w' : World} (ho : ops[i]? = some o) (hw : Region.wanted o (yielded ops a.tmps) = true) (hr : (execOp a.eval o).run P w = .ok .skip w') (h : K (a.put o.dst undef) w') : wpOp P ops Q i K a w := by
  unfold wpOp
  rw [ho]
  simp only [hw, if_true]
  left
  unfold Oper.wp
  rw [hr]
  exact h
theorem op_skip {i : Nat} {o : Oper} {K : Act → World → Prop} {a : Act} {w : World} (ho : ops[i]? = some o) (hw : Region.wanted o (yielded ops a.tmps) = false) (h : K (a.put o.dst undef) w) : wpOp P ops Q i K a w := by
  unfold wpOp
  rw [ho]
  simp only [hw, if_false, Bool.false_eq_true]
  exact h
theorem op_call {i : Nat} {o : Oper} {K : Act → World → Prop} {a : Act} {w w' : World} {f : FuncId} {args : Array Value} (ho : ops[i]? = some o) (hw : Region.wanted o (yielded ops a.tmps) = true) (hr : (execOp a.eval o).run P w = .ok (.enter f args) w')
    (h : Calls P f args w' fun e w'' => (∃ v, e = .returned v ∧ K (a.put o.dst v) w'') ∨ (∃ c, e = .panicked c ∧ Q (.panic c) a w'')) : wpOp P ops Q i K a w := by
  unfold wpOp
  rw [ho]
  simp only [hw, if_true]
  left
  unfold Oper.wp
  rw [hr]
  refine Calls.mono h ?_
  rintro e w'' (⟨v, rfl, hk⟩ | ⟨c, rfl, hq⟩)
  · exact hk
  · exact hq
theorem op_wp {i : Nat} {o : Oper} {K : Act → World → Prop} {a : Act} {w : World} (ho : ops[i]? = some o) (hw : Region.wanted o (yielded ops a.tmps) = true) (h : if Region.wanted o (yielded ops a.tmps) = true then Oper.wp P o a w K Q else K (a.put o.dst undef) w) : wpOp P ops Q i K a w := by
  unfold wpOp
  rw [ho]
  rw [if_pos hw] at h
  simp only [hw, if_true]
  exact .inl h
theorem val_put_in {a0 a : Act} (hf : Frm ops a0 a) {d : Tmp} {v : Value} (hd : decide (d < a0.tmps.size) = true) : val (a.put (some d) v) d = v := val_put_same a d v (by rw [hf.size]; exact of_decide_eq_true hd)
theorem oper_eq {i : Nat} {o p : Oper} (h : ops[i]? = some o) (h' : ops[i]? = some p) : p = o := by
  rw [h] at h'
  injection h' with h'
  exact h'.symm
theorem wanted_of {o : Oper} {a : Act} {j d : Nat} {b b' : Bool} (hg : o.guard = some (j, b)) (hd : isSlot ops j d = true) (hv : a.eval (.tmp d) = .bool b') : Region.wanted o (yielded ops a.tmps) = (some b' == some b) := by
  unfold isSlot at hd
  cases hp : ops[j]? with
  | none => rw [hp] at hd; cases hd
  | some p =>
    rw [hp] at hd
    have hd' : p.dst = some d := by simpa using hd
    have hy : yielded ops a.tmps j = some b' := by
      simp only [yielded, hp, Option.bind_some, hd']
      simp only [Act.eval] at hv
      cases ht : a.tmps[d]? with
      | none => simp [ht, undef] at hv
      | some v => simp [ht] at hv; simp [hv]
    simp only [Region.wanted, hg, hy]
theorem eval_getD {a : Act} {t : Tmp} {v : Value} (h : a.eval (.tmp t) = v) : a.tmps[t]?.getD undef = v := by
  simpa [Act.eval] using h
/-- The frame behind the region, written out over the frame ahead of it. -/
theorem fold_val (f : Nat → Value) (n : Nat) : ∀ (D : List Nat) (x : Act), x.tmps.size = n → (∀ d ∈ D, d < n) →
    (D.foldl (fun x d => x.put (some d) (f d)) x).tmps.size = n ∧ (D.foldl (fun x d => x.put (some d) (f d)) x).defers = x.defers ∧
      ∀ t, t < n → val (D.foldl (fun x d => x.put (some d) (f d)) x) t = if t ∈ D then f t else val x t := by
  intro D
  induction D with
  | nil => intro x hx _; exact ⟨hx, rfl, fun t _ => by simp⟩
  | cons d D ih =>
    intro x hx hd
    obtain ⟨h1, h2, h3⟩ := ih (x.put (some d) (f d)) (by rw [put_size]; exact hx) (fun e he => hd e (List.mem_cons_of_mem _ he))
    simp only [List.foldl_cons]
    refine ⟨h1, by rw [h2, put_defers], fun t ht => ?_⟩
    rw [h3 t ht]
    by_cases hm : t ∈ D
    · simp [hm]
    · rw [if_neg hm]
      by_cases e : t = d
      · subst e
        rw [val_put_same _ _ _ (by rw [hx]; exact ht)]
        simp
      · rw [val_put_ne _ _ _ _ (fun h => e (by injection h with h; exact h.symm)), if_neg (by simp [e, hm])]
theorem frm_fold {a0 a : Act} (h : Frm ops a0 a) (D : List Nat) (hD : ops.toList.filterMap (·.dst) = D) (hn : D.all (fun d => decide (d < a0.tmps.size)) = true) :
    a = D.foldl (fun x d => x.put (some d) (val a d)) a0 := by
  obtain ⟨h1, h2, h3⟩ := fold_val (val a) a0.tmps.size D a0 rfl (fun d hd => by simpa using List.all_eq_true.1 hn d hd)
  generalize D.foldl (fun x d => x.put (some d) (val a d)) a0 = b at *
  have ht : a.tmps = b.tmps := by
    apply Array.ext
    · rw [h.size, h1]
    · intro i hi1 hi2
      have e1 := h3 i (by rw [← h1]; exact hi2)
      have ea : val a i = a.tmps[i] := by simp [val, Array.getD_eq_getD_getElem?, Array.getElem?_eq_getElem hi1]
      have eb : val b i = b.tmps[i] := by simp [val, Array.getD_eq_getD_getElem?, Array.getElem?_eq_getElem hi2]
      rw [← ea, ← eb, e1]
      split
      · rfl
      · rename_i hm
        refine h.rest i fun o ho e => hm ?_
        rw [← hD]
        exact List.mem_filterMap.2 ⟨o, ho, e⟩
  have hd : a.defers = b.defers := by rw [h.defers, h2]
  cases a
  cases b
  simp only at ht hd
  rw [ht, hd]
end
end Go.Proofs.YtbiajfkencamiaaGreatDoor.Reg
