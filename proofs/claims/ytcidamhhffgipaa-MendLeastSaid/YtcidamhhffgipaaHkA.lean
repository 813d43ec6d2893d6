/- The env-based form of the kit's weakest preconditions: the frame as a function from slots to values; regions in their order, and regions that draw their order. -/
import Derived.WalkKit
import Derived.KernelRfl
import Derived.OrdersHeld
set_option linter.unusedVariables false
set_option linter.unusedSimpArgs false
namespace Hk
open Go

abbrev Env := Nat → Value
def upd (ρ : Env) (t : Nat) (v : Value) : Env := fun s => cond (Nat.beq s t) v (ρ s)
def ev (ρ : Env) : Operand → Value
  | .tmp t => ρ t
  | .const v => v
  | .global g => .pointer (some ⟨g, 0, none⟩)
  | .func f => .func (.func f) #[] #[]

theorem upd_self {ρ : Env} {t : Nat} {v : Value} (h : ρ t = v) : upd ρ t v = ρ := by
  funext s
  unfold upd
  cases hb : Nat.beq s t
  · rfl
  · have : s = t := Nat.eq_of_beq_eq_true hb
    subst this; exact h.symm

structure AE (n : Nat) (a : Act) (ρ : Env) : Prop where
  size : a.tmps.size = n
  get : ∀ t, a.tmps.getD t undef = ρ t
  defers : a.defers = []

theorem AE.eval {n : Nat} {a : Act} {ρ : Env} (h : AE n a ρ) : a.eval = ev ρ := by
  funext x
  cases x with
  | tmp t => exact h.get t
  | const v => rfl
  | global g => rfl
  | func f => rfl

theorem AE.put {n : Nat} {a : Act} {ρ : Env} (h : AE n a ρ) {d : Nat} (hd : d < n) (v : Value) : AE n (a.put (some d) v) (upd ρ d v) := by
  refine ⟨by simp [Act.put, h.size], fun t => ?_, by simp [Act.put, h.defers]⟩
  have hs := h.size
  have hg := h.get t
  simp only [Act.put, upd, Array.getD_eq_getD_getElem?] at *
  cases hb : Nat.beq t d
  · have hne : d ≠ t := fun e => by subst e; simp at hb
    simp only [cond_false]
    rw [Array.getElem?_setIfInBounds_ne hne]
    exact hg
  · have he : t = d := Nat.eq_of_beq_eq_true hb
    subst he
    simp [hs, hd]

theorem AE.put_none {n : Nat} {a : Act} {ρ : Env} (h : AE n a ρ) (v : Value) : AE n (a.put none v) ρ := h

abbrev EPost := Exit → Env → World → Prop
def lift (n : Nat) (Q : EPost) : Exit → Act → World → Prop := fun e a w => ∃ ρ, AE n a ρ ∧ Q e ρ w
theorem lift_mono {n : Nat} {Q Q' : EPost} (h : ∀ e ρ w, Q e ρ w → Q' e ρ w) (e : Exit) (a : Act) (w : World) : lift n Q e a w → lift n Q' e a w :=
  fun ⟨ρ, ha, hq⟩ => ⟨ρ, ha, h e ρ w hq⟩

def EWp (P : Program) (n : Nat) (c : Code) (Q : EPost) (ρ : Env) (w : World) : Prop := ∀ a, AE n a ρ → c.wp P (lift n Q) a w

section rules
variable {P : Program} {n : Nat} {Q : EPost} {ρ : Env} {w : World}

theorem EWp.mono {c : Code} {Q' : EPost} (h : EWp P n c Q ρ w) (hq : ∀ e ρ w, Q e ρ w → Q' e ρ w) : EWp P n c Q' ρ w :=
  fun a ha => wp_mono (h a ha) fun e a w => lift_mono hq e a w
theorem ewp_skip (h : Q .normal ρ w) : EWp P n .skip Q ρ w := fun a ha => wp_skip ⟨ρ, ha, h⟩
theorem ewp_exit {id : Nat} (h : Q (.exit id) ρ w) : EWp P n (.exit id) Q ρ w := fun a ha => wp_exit ⟨ρ, ha, h⟩
theorem ewp_ret (h : Q .ret ρ w) : EWp P n .ret Q ρ w := fun a ha => wp_ret ⟨ρ, ha, h⟩
/-- behind the first of two -/
def thenE (K : Env → World → Prop) (Q : EPost) : EPost
  | .normal, ρ, w => K ρ w
  | e, ρ, w => Q e ρ w
theorem ewp_seq {x y : Code} (h : EWp P n x (thenE (EWp P n y Q) Q) ρ w) : EWp P n (.seq x y) Q ρ w := by
  intro a ha
  refine wp_seq (wp_mono (h a ha) fun e a w hq => ?_)
  obtain ⟨ρ', ha', hq'⟩ := hq
  cases e <;> first | exact hq' a ha' | exact ⟨ρ', ha', hq'⟩
theorem ewp_cond {c : Operand} {x y : Code} (b : Bool) (hc : ev ρ c = .bool b) (ht : b = true → EWp P n x Q ρ w) (hf : b = false → EWp P n y Q ρ w) :
    EWp P n (.cond c x y) Q ρ w := by
  intro a ha
  exact wp_cond_split (t := b) (by rw [ha.eval]; exact hc) (fun h => ht h a ha) (fun h => hf h a ha)
def blockE (id : Nat) (Q : EPost) : EPost
  | .exit id', ρ, w => (cond (Nat.beq id' id) (Q .normal ρ w) (Q (.exit id') ρ w) : Prop)
  | e, ρ, w => Q e ρ w
theorem ewp_block {id : Nat} {c : Code} (h : EWp P n c (blockE id Q) ρ w) : EWp P n (.block id c) Q ρ w := by
  intro a ha
  refine wp_block (wp_mono (h a ha) fun e a w hq => ?_)
  obtain ⟨ρ', ha', hq'⟩ := hq
  cases e with
  | exit id' =>
    simp only [Exit.inBlock, blockE] at *
    by_cases hid : id' = id
    · subst hid; simp at hq' ⊢; exact ⟨ρ', ha', hq'⟩
    · have : Nat.beq id' id = false := by cases hb : Nat.beq id' id; rfl; exact absurd (Nat.eq_of_beq_eq_true hb) hid
      rw [this] at hq'
      simp [hid]; exact ⟨ρ', ha', hq'⟩
  | normal => exact ⟨ρ', ha', hq'⟩
  | goto l => exact ⟨ρ', ha', hq'⟩
  | ret => exact ⟨ρ', ha', hq'⟩
  | panic c => exact ⟨ρ', ha', hq'⟩
  | outgrown => exact ⟨ρ', ha', hq'⟩
/-- a loop: a number of rounds that goes down -/
theorem ewp_loop {c : Code} (I : Nat → Env → World → Prop) (k : Nat) (h0 : I k ρ w)
    (round : ∀ k ρ w, I k ρ w → EWp P n c (thenE (fun ρ' w' => ∃ k', k' < k ∧ I k' ρ' w') Q) ρ w) : EWp P n (.loop c) Q ρ w := by
  intro a ha b kk cs
  have key : ∀ k a ρ w, AE n a ρ → I k ρ w →
      ∃ e a' w', lift n Q e a' w' ∧ Arrives P (lone (b.at a (.code c :: .inLoop c :: kk)) cs w) b kk cs e a' w' := by
    intro k
    induction k using Nat.strongRecOn with
    | _ k ih =>
      intro a ρ w ha hI
      obtain ⟨e, a₁, w₁, hq, harr⟩ := round k ρ w hI a ha b (.inLoop c :: kk) cs
      obtain ⟨ρ₁, ha₁, hq⟩ := hq
      cases e with
      | normal =>
        obtain ⟨k', hlt, hI₁⟩ := hq
        obtain ⟨e₂, a₂, w₂, hq₂, harr₂⟩ := ih k' hlt a₁ ρ₁ w₁ ha₁ hI₁
        exact ⟨e₂, a₂, w₂, hq₂, .of_steps (Steps.trans harr (.one step_inLoop)) harr₂⟩
      | exit id => exact ⟨_, a₁, w₁, ⟨ρ₁, ha₁, hq⟩, .pass (x := .inLoop c) rfl (fun _ _ => .inl (by simp)) harr⟩
      | goto l => exact ⟨_, a₁, w₁, ⟨ρ₁, ha₁, hq⟩, .pass (x := .inLoop c) rfl (fun _ _ => .inl (by simp)) harr⟩
      | ret => exact ⟨_, a₁, w₁, ⟨ρ₁, ha₁, hq⟩, .pass (x := .inLoop c) rfl (fun _ _ => .inl (by simp)) harr⟩
      | panic ch => exact ⟨_, a₁, w₁, ⟨ρ₁, ha₁, hq⟩, .pass (x := .inLoop c) rfl (fun _ _ => .inl (by simp)) harr⟩
      | outgrown => exact ⟨_, a₁, w₁, ⟨ρ₁, ha₁, hq⟩, .pass (x := .inLoop c) rfl (fun _ _ => .inl (by simp)) harr⟩
  obtain ⟨e, a', w', hq, harr⟩ := key k a ρ w ha h0
  exact ⟨e, a', w', hq, .of_steps (.one step_loop) harr⟩
end rules

/-! ### the frame of a call -/
def ResIs (P : Program) (fn : Func) (ρ : Env) (w : World) (v : Value) : Prop :=
  ∀ tmps : Array Value, (∀ t, tmps.getD t undef = ρ t) → (results fn tmps).run P w = .ok v w
def RetPost (P : Program) (fn : Func) (R : Value → World → Prop) : EPost
  | .normal, ρ, w => ∃ v, ResIs P fn ρ w v ∧ R v w
  | .ret, ρ, w => ∃ v, ResIs P fn ρ w v ∧ R v w
  | _, _, _ => False
/-- the ending is a return with such a value -/
def Returns (R : Value → World → Prop) : Ending → World → Prop := fun e w' => ∃ v, e = .returned v ∧ R v w'
theorem ecalls {P : Program} {f : FuncId} {fn : Func} {c : Code} {args : Array Value} {w : World} {R : Value → World → Prop} (n : Nat)
    (hf : P.funcs[f]? = some fn) (hb : fn.body = some c) (hn : args.size + (fn.ntmps - args.size) = n)
    (h : EWp P n c (RetPost P fn R) (fun t => args.getD t undef) w) : Calls P f args w (Returns R) := by
  refine calls_of_wp hf hb ?_
  refine wp_mono (h ⟨_, _⟩ ⟨by simpa using hn, fun t => ?_, rfl⟩) fun e a w hq => ?_
  · simp only [Array.getD_eq_getD_getElem?, Array.getElem?_append]
    split
    · rfl
    · rename_i hlt
      simp only [Array.getElem?_replicate]
      have : args[t]? = none := by simp; omega
      rw [this]
      split <;> rfl
  · obtain ⟨ρ, ha, hq⟩ := hq
    cases e with
    | normal => obtain ⟨v, hr, hR⟩ := hq; exact ⟨ha.defers, v, hr a.tmps ha.get, v, rfl, hR⟩
    | ret => obtain ⟨v, hr, hR⟩ := hq; exact ⟨ha.defers, v, hr a.tmps ha.get, v, rfl, hR⟩
    | exit id => exact hq.elim
    | goto l => exact hq.elim
    | panic c => exact hq.elim
    | outgrown => exact hq.elim
theorem res0 {P : Program} {fn : Func} {ρ : Env} {w : World} (h : fn.results = #[]) : ResIs P fn ρ w (.tuple #[]) := fun tmps ht => by simp [results, h]
theorem res1 {P : Program} {fn : Func} {ρ : Env} {w : World} {t : Tmp} (h : fn.results = #[.tmp t]) : ResIs P fn ρ w (ρ t) := fun tmps ht => by
  rw [results_tmp h, ht]
theorem res2 {P : Program} {fn : Func} {ρ : Env} {w : World} {t u : Tmp} (h : fn.results = #[.tmp t, .tmp u]) : ResIs P fn ρ w (.tuple #[ρ t, ρ u]) := fun tmps ht => by
  rw [results_tmp2 h, ht, ht]
theorem res3 {P : Program} {fn : Func} {ρ : Env} {w : World} {t u s : Tmp} (h : fn.results = #[.tmp t, .tmp u, .tmp s]) : ResIs P fn ρ w (.tuple #[ρ t, ρ u, ρ s]) := fun tmps ht => by
  simp [results, h, ← ht]
theorem res4 {P : Program} {fn : Func} {ρ : Env} {w : World} {t u s r : Tmp} (h : fn.results = #[.tmp t, .tmp u, .tmp s, .tmp r]) : ResIs P fn ρ w (.tuple #[ρ t, ρ u, ρ s, ρ r]) := fun tmps ht => by
  simp [results, h, ← ht]

/-! ### a region in its order -/
def EL (P : Program) (n : Nat) (ops : Array Oper) (Q : EPost) (l : List Oper) (ρ : Env) (w : World) : Prop := ∀ a, AE n a ρ → wpList P ops (lift n Q) l a w
def yieldedE (ops : Array Oper) (ρ : Env) (j : Nat) : Option Bool :=
  match (ops[j]?).bind (·.dst) with
  | some d => (match ρ d with | .bool b => some b | _ => none)
  | none => none
theorem AE.yielded {n : Nat} {a : Act} {ρ : Env} (h : AE n a ρ) (ops : Array Oper) (j : Nat) : Go.yielded ops a.tmps j = yieldedE ops ρ j := by
  unfold Go.yielded yieldedE
  cases hd : (ops[j]?).bind (·.dst) with
  | none => rfl
  | some d =>
    simp only [Option.bind_some]
    rw [← h.get d]
    simp only [Array.getD_eq_getD_getElem?]
    cases hx : a.tmps[d]? with
    | none => simp [undef]
    | some v => cases v <;> rfl

section region
variable {P : Program} {n : Nat} {ops : Array Oper} {Q : EPost} {ρ : Env} {w : World} {rest : List Oper} {o : Oper}
theorem ewp_region {id : Nat} {l : List Oper} (h : EL P n l.toArray Q l ρ w) : EWp P n (.region id l.toArray false) Q ρ w :=
  fun a ha => wp_region_lit (h a ha)
theorem el_nil (h : Q .normal ρ w) : EL P n ops Q [] ρ w := fun a ha => wpList_nil ⟨ρ, ha, h⟩
/-- an operation with a value -/
theorem el_val {d : Nat} {v : Value} {w' : World} (hg : Region.wanted o (yieldedE ops ρ) = true) (hd : o.dst = some d) (hlt : Nat.blt d n = true)
    (hr : (execOp (ev ρ) o).run P w = .ok (.value v) w') (h : EL P n ops Q rest (upd ρ d v) w') : EL P n ops Q (o :: rest) ρ w := by
  intro a ha
  unfold wpList
  have hy : Go.yielded ops a.tmps = yieldedE ops ρ := funext fun j => ha.yielded ops j
  rw [hy, if_pos hg]
  refine .inl ?_
  simp only [Oper.wp, ha.eval, hr, Oper.upon, hd]
  exact h _ (ha.put (by simpa [Nat.blt_eq] using hlt) v)
/-- an operation without a value -/
theorem el_unit {w' : World} (hg : Region.wanted o (yieldedE ops ρ) = true) (hd : o.dst = none)
    (hr : (execOp (ev ρ) o).run P w = .ok .skip w') (h : EL P n ops Q rest ρ w') : EL P n ops Q (o :: rest) ρ w := by
  intro a ha
  unfold wpList
  have hy : Go.yielded ops a.tmps = yieldedE ops ρ := funext fun j => ha.yielded ops j
  rw [hy, if_pos hg]
  refine .inl ?_
  simp only [Oper.wp, ha.eval, hr, Oper.upon, hd]
  exact h _ ha
/-- an operation that its guard passes over -/
theorem el_pass {d : Nat} (hg : Region.wanted o (yieldedE ops ρ) = false) (hd : o.dst = some d) (hlt : Nat.blt d n = true)
    (h : EL P n ops Q rest (upd ρ d undef) w) : EL P n ops Q (o :: rest) ρ w := by
  intro a ha
  unfold wpList
  have hy : Go.yielded ops a.tmps = yieldedE ops ρ := funext fun j => ha.yielded ops j
  rw [hy, if_neg (by simp [hg]), hd]
  exact h _ (ha.put (by simpa [Nat.blt_eq] using hlt) undef)
/-- a call -/
theorem el_call {d : Nat} {f : FuncId} {args : Array Value} {w' : World} {R : Value → World → Prop} (hg : Region.wanted o (yieldedE ops ρ) = true) (hd : o.dst = some d) (hlt : Nat.blt d n = true)
    (hr : (execOp (ev ρ) o).run P w = .ok (.enter f args) w') (hc : Calls P f args w' (Returns R))
    (h : ∀ v w'', R v w'' → EL P n ops Q rest (upd ρ d v) w'') : EL P n ops Q (o :: rest) ρ w := by
  intro a ha
  unfold wpList
  have hy : Go.yielded ops a.tmps = yieldedE ops ρ := funext fun j => ha.yielded ops j
  rw [hy, if_pos hg]
  refine .inl ?_
  simp only [Oper.wp, ha.eval, hr, Oper.upon, hd]
  refine hc.mono fun e w'' ⟨v, he, hR⟩ => ?_
  subst he
  exact h v w'' hR _ (ha.put (by simpa [Nat.blt_eq] using hlt) v)
end region

/-! ### a region that draws its order: the head (numbers below m) in any order, then the tail, each of which waits for all before it -/
section drawn
variable {P : Program} {ops : Array Oper} {Q : Exit → Act → World → Prop} {S T : World → Prop} {brk : List Nat} {n m : Nat}
def headDone (m : Nat) (listed : Array Bool) : Prop := ∀ j, j < m → listed.getD j true = true
/-- 'wpAny' with S kept by each operation of the head, save those in 'brk' -/
def wpAnyT (P : Program) (ops : Array Oper) (Q : Exit → Act → World → Prop) (S : World → Prop) (brk : List Nat) (m : Nat) : Nat → Nat → Array Bool → Act → World → Prop
  | 0, fuel, listed, a, w => headDone m listed ∧ wpAny P .any ops Q fuel listed a w
  | _ + 1, 0, _, _, _ => False
  | k + 1, fuel + 1, listed, a, w => Region.ready .any ops listed ≠ [] ∧
    ∀ i ∈ Region.ready .any ops listed, wpOp P ops Q i (fun a' w' => (brk.contains i = false → S w → S w') ∧ wpAnyT P ops Q S brk m k fuel (listed.setIfInBounds i true) a' w') a w
theorem wpAny_of_T : ∀ (k fuel : Nat) (listed : Array Bool) (a : Act) (w : World), wpAnyT P ops Q S brk m k fuel listed a w → wpAny P .any ops Q fuel listed a w
  | 0, _, _, _, _, h => h.2
  | _ + 1, 0, _, _, _, h => h.elim
  | k + 1, fuel + 1, listed, a, w, h => ⟨fun h0 => absurd h0 h.1, fun i hi => wpOp_mono (fun a' w' h' => wpAny_of_T k fuel _ a' w' h'.2) (h.2 i hi)⟩
/-- each operation of the tail waits for each of the head -/
def Region.tailWaits (ops : Array Oper) (m : Nat) : Bool :=
  (List.range ops.size).all fun j => Nat.blt j m || (match ops[j]? with
    | some oj => (List.range m).all fun i => oj.after.any fun e => Region.binds .any e && e.on == i
    | none => true)
theorem tailWaits_spec (h : Region.tailWaits ops m = true) {j : Nat} {oj : Oper} (hj : ops[j]? = some oj) (hm : m ≤ j) {i : Nat} (hi : i < m) :
    ∃ e ∈ oj.after, Region.binds .any e = true ∧ e.on = i := by
  unfold Region.tailWaits at h
  have h1 := List.all_eq_true.1 h j (List.mem_range.2 (Array.getElem?_eq_some_iff.1 hj).1)
  have hb : Nat.blt j m = false := by
    cases hb : Nat.blt j m
    · rfl
    · rw [Nat.blt_eq] at hb; omega
  simp only [hb, Bool.false_or, hj] at h1
  have h2 := List.all_eq_true.1 h1 i (List.mem_range.2 hi)
  obtain ⟨e, he, hb⟩ := Array.any_eq_true'.1 h2
  simp only [Bool.and_eq_true, beq_iff_eq] at hb
  exact ⟨e, he, hb.1, hb.2⟩
theorem wpAnyT_first {i : Nat} {oi : Oper} {v : Value} (ht : Region.tailWaits ops m = true) (him : i < m) (hi : ops[i]? = some oi) (hsel : ∀ (j : Nat) (o : Oper) cs b, ops[j]? = some o → o.op ≠ .select cs b)
    (hQ : ∀ c a w, Q (.panic c) (a.put oi.dst v) w → Q (.panic c) a w)
    (hT : ∀ j oj, ops[j]? = some oj → (∀ e ∈ oj.after, Region.binds .any e = true → e.on ≠ i) → ∀ w w', (brk.contains j = false → S w → S w') → T w → T w') :
    ∀ (k fuel : Nat) (listed : Array Bool) (a : Act) (w : World),
      (∀ j oj, ops[j]? = some oj → j ≠ i → listed.getD j true = false → (∀ e ∈ oj.after, Region.binds .any e = true → e.on ≠ i) → oi.apart ops oj = true) →
      i ∈ Region.ready .any ops listed → YieldsIf P ops T oi v a → T w →
      wpAnyT P ops Q S brk m k fuel (listed.setIfInBounds i true) (a.put oi.dst v) w → wpAnyT P ops Q S brk m (k + 1) (fuel + 1) listed a w := by
  intro k
  induction k with
  | zero =>
    intro fuel listed a w _ hr hy hS H
    refine ⟨fun h => (by rw [h] at hr; cases hr), fun j hj => ?_⟩
    by_cases hji : j = i
    · subst hji; exact hy.wpOp hi hS ⟨fun _ h => h, H⟩
    · exfalso
      obtain ⟨hjun, oj, hoj, hall⟩ := mem_ready.1 hj
      by_cases hjm : j < m
      · have := H.1 j hjm
        rw [getD_set_ne true (Ne.symm hji)] at this
        rw [this] at hjun; cases hjun
      · obtain ⟨e, he, hb, hon⟩ := tailWaits_spec ht hoj (by omega) him
        have h1 := hall e he hb
        rw [hon] at h1
        have h0 := (mem_ready.1 hr).1
        rcases Nat.lt_or_ge i listed.size with h' | h'
        · simp [h'] at h0 h1; rw [h0] at h1; cases h1
        · simp [Array.getElem?_eq_none h'] at h1
  | succ k ih =>
    intro fuel listed a w hfree hr hy hS H
    cases fuel with
    | zero => exact H.elim
    | succ fuel =>
    refine ⟨fun h => (by rw [h] at hr; cases hr), fun j hj => ?_⟩
    by_cases hji : j = i
    · subst hji; exact hy.wpOp hi hS ⟨fun _ h => h, H⟩
    · have h1 := H.2 j (ready_mono hj hji)
      obtain ⟨hjun, oj, hoj, hall⟩ := mem_ready.1 hj
      have hnot : ∀ e ∈ oj.after, Region.binds .any e = true → e.on ≠ i := fun e he hb heq => by
        have h1 := hall e he hb
        have h0 := (mem_ready.1 hr).1
        rw [heq] at h1
        rcases Nat.lt_or_ge i listed.size with h' | h'
        · simp [h'] at h0 h1; rw [h0] at h1; cases h1
        · simp [Array.getElem?_eq_none h'] at h1
      have h2 := wpOp_putIf hoj (hfree j oj hoj hji hjun hnot) (fun cs b => hsel i oi cs b hi) (fun cs b => hsel j oj cs b hoj) hQ hy h1
      have hfree' : ∀ k ok, ops[k]? = some ok → k ≠ i → (listed.setIfInBounds j true).getD k true = false →
          (∀ e ∈ ok.after, Region.binds .any e = true → e.on ≠ i) → oi.apart ops ok = true := fun k ok hk hki hun hno => by
        refine hfree k ok hk hki ?_ hno
        by_cases hjk : j = k
        · subst hjk; exact hjun
        · rw [getD_set_ne true hjk] at hun; exact hun
      refine wpOp_mono (fun a' w' h3 => ⟨h3.2.1, ih fuel (listed.setIfInBounds j true) a' w' hfree' (ready_mono hr (Ne.symm hji)) h3.1 (hT j oj hoj hnot w w' h3.2.1 hS) ?_⟩) h2
      rw [Array.setIfInBounds_comm _ _ hji]
      exact h3.2.2
end drawn

/-- what stands to be done of a region that draws: the head with S held, k of it left -/
def ET (P : Program) (n : Nat) (ops : Array Oper) (Q : EPost) (S : World → Prop) (brk : List Nat) (m k fuel : Nat) (listed : Array Bool) (ρ : Env) (w : World) : Prop :=
  ∀ a, AE n a ρ → wpAnyT P ops (lift n Q) S brk m k fuel listed a w
/-- the tail -/
def EY (P : Program) (n : Nat) (ops : Array Oper) (Q : EPost) (fuel : Nat) (listed : Array Bool) (ρ : Env) (w : World) : Prop :=
  ∀ a, AE n a ρ → wpAny P .any ops (lift n Q) fuel listed a w
/-- one operation, whichever way it is come to -/
def EOp (P : Program) (n : Nat) (ops : Array Oper) (i : Nat) (K : Env → World → Prop) (ρ : Env) (w : World) : Prop :=
  ∀ (Q : Exit → Act → World → Prop) a, AE n a ρ → wpOp P ops Q i (fun a' w' => ∃ ρ', AE n a' ρ' ∧ K ρ' w') a w
section drawn2
variable {P : Program} {n : Nat} {ops : Array Oper} {Q : EPost} {S : World → Prop} {brk : List Nat} {m : Nat} {ρ : Env} {w : World} {listed : Array Bool}
theorem ewp_draw {id : Nat} (S : World → Prop) (brk : List Nat) (m : Nat) (hm : P.follows .mixedOrders = true) (h : ET P n ops Q S brk m m ops.size (Array.replicate ops.size false) ρ { w with drawn := w.drawn + 1 }) :
    EWp P n (.region id ops true) Q ρ w := fun a ha => wp_region_any hm (wpAny_of_T _ _ _ _ _ (h a ha))
def Region.brkWait (ops : Array Oper) (brk : List Nat) (i : Nat) : Bool :=
  brk.all fun b => match ops[b]? with
    | some ob => ob.after.any fun e => Region.binds .any e && e.on == i
    | none => true
theorem et_first {k fuel i : Nat} {o : Oper} (hi : ops[i]? = some o) (hcheck : (Nat.blt i m && Region.tailWaits ops m && Region.noSelect ops && Region.free .any ops listed i && (Region.ready .any ops listed).contains i && Region.brkWait ops brk i) = true)
    (hQp : ∀ c ρ w, ¬ Q (.panic c) ρ w) {d : Nat} {v : Value} (hd : o.dst = some d) (hlt : Nat.blt d n = true)
    (hy : (Region.wanted o (yieldedE ops ρ) = true ∧ ∀ w, S w → (execOp (ev ρ) o).run P w = .ok (.value v) w) ∨ (Region.wanted o (yieldedE ops ρ) = false ∧ v = undef)) (hS : S w)
    (h : ET P n ops Q S brk m k fuel (listed.setIfInBounds i true) (upd ρ d v) w) : ET P n ops Q S brk m (k + 1) (fuel + 1) listed ρ w := by
  intro a ha
  simp only [Bool.and_eq_true, Nat.blt_eq] at hcheck
  obtain ⟨⟨⟨⟨⟨h1, h2⟩, h3⟩, h4⟩, h5⟩, h6⟩ := hcheck
  have hyy : Go.yielded ops a.tmps = yieldedE ops ρ := funext fun j => ha.yielded ops j
  refine wpAnyT_first (T := S) h2 h1 hi (Region.noSelect_spec h3) (fun c a w hq => ?_) (fun j oj hoj hnot w w' hj hS => ?_) k fuel listed a w (Region.free_spec hi h4) (by simpa using h5) (v := v) ?_ hS ?_
  · obtain ⟨ρ', _, hq⟩ := hq; exact absurd hq (hQp c ρ' w)
  · refine hj ?_ hS
    cases hc : brk.contains j
    · rfl
    · have hb := List.all_eq_true.1 h6 j (by simpa using hc)
      simp only [hoj] at hb
      obtain ⟨e, he, hb⟩ := Array.any_eq_true'.1 hb
      simp only [Bool.and_eq_true, beq_iff_eq] at hb
      exact absurd hb.2 (hnot e he hb.1)
  · unfold YieldsIf
    rw [hyy, ha.eval]
    exact hy
  · rw [hd]; exact h _ (ha.put (by simpa [Nat.blt_eq] using hlt) v)
/-- .. where the value is the same in every world -/
theorem et_pure {k fuel i : Nat} {o : Oper} (hi : ops[i]? = some o) (hcheck : (Nat.blt i m && Region.tailWaits ops m && Region.noSelect ops && Region.free .any ops listed i && (Region.ready .any ops listed).contains i) = true)
    (hQp : ∀ c ρ w, ¬ Q (.panic c) ρ w) {d : Nat} {v : Value} (hd : o.dst = some d) (hlt : Nat.blt d n = true)
    (hy : (Region.wanted o (yieldedE ops ρ) = true ∧ ∀ w : World, (execOp (ev ρ) o).run P w = .ok (.value v) w) ∨ (Region.wanted o (yieldedE ops ρ) = false ∧ v = undef))
    (h : ET P n ops Q S brk m k fuel (listed.setIfInBounds i true) (upd ρ d v) w) : ET P n ops Q S brk m (k + 1) (fuel + 1) listed ρ w := by
  intro a ha
  simp only [Bool.and_eq_true, Nat.blt_eq] at hcheck
  obtain ⟨⟨⟨⟨h1, h2⟩, h3⟩, h4⟩, h5⟩ := hcheck
  have hyy : Go.yielded ops a.tmps = yieldedE ops ρ := funext fun j => ha.yielded ops j
  refine wpAnyT_first (T := fun _ => True) h2 h1 hi (Region.noSelect_spec h3) (fun c a w hq => ?_) (fun _ _ _ _ _ _ _ _ => trivial) k fuel listed a w (Region.free_spec hi h4) (by simpa using h5) (v := v) ?_ trivial ?_
  · obtain ⟨ρ', _, hq⟩ := hq; exact absurd hq (hQp c ρ' w)
  · unfold YieldsIf
    rw [hyy, ha.eval]
    exact hy.imp (fun ⟨h1, h2⟩ => ⟨h1, fun w _ => h2 w⟩) id
  · rw [hd]; exact h _ (ha.put (by simpa [Nat.blt_eq] using hlt) v)
theorem et_all {k fuel : Nat} (rs : List Nat) (hr : (Region.ready .any ops listed == rs && !rs.isEmpty) = true)
    (h : ∀ i ∈ rs, EOp P n ops i (fun ρ' w' => (brk.contains i = false → S w → S w') ∧ ET P n ops Q S brk m k fuel (listed.setIfInBounds i true) ρ' w') ρ w) :
    ET P n ops Q S brk m (k + 1) (fuel + 1) listed ρ w := by
  intro a ha
  simp only [Bool.and_eq_true, beq_iff_eq] at hr
  obtain ⟨hr1, hr2⟩ := hr
  refine ⟨by rw [hr1]; simpa using hr2, fun i hi => ?_⟩
  rw [hr1] at hi
  refine wpOp_mono (fun a' w' hk => ?_) (h i hi _ a ha)
  obtain ⟨ρ', ha', hS, hT⟩ := hk
  exact ⟨hS, hT a' ha'⟩
def headDoneB (m : Nat) (listed : Array Bool) : Bool := (List.range m).all fun j => listed.getD j true
theorem et_tail {fuel : Nat} (hd : headDoneB m listed = true) (h : EY P n ops Q fuel listed ρ w) : ET P n ops Q S brk m 0 fuel listed ρ w := by
  intro a ha
  refine ⟨fun j hj => ?_, h a ha⟩
  exact List.all_eq_true.1 hd j (List.mem_range.2 hj)
theorem ey_one {fuel i : Nat} (hr : (Region.ready .any ops listed == [i]) = true)
    (h : EOp P n ops i (fun ρ' w' => EY P n ops Q fuel (listed.setIfInBounds i true) ρ' w') ρ w) : EY P n ops Q (fuel + 1) listed ρ w := by
  intro a ha
  have hr1 : Region.ready .any ops listed = [i] := by simpa using hr
  refine ⟨fun h0 => (by rw [hr1] at h0; cases h0), fun j hj => ?_⟩
  rw [hr1] at hj
  have : j = i := by simpa using hj
  subst this
  refine wpOp_mono (fun a' w' hk => ?_) (h _ a ha)
  obtain ⟨ρ', ha', hT⟩ := hk
  exact hT a' ha'
theorem ey_done {fuel : Nat} (hr : (Region.ready .any ops listed).isEmpty = true) (h : Q .normal ρ w) : EY P n ops Q fuel listed ρ w := by
  intro a ha
  have hr1 : Region.ready .any ops listed = [] := by simpa using hr
  exact wpAny_done hr1 ⟨ρ, ha, h⟩ fuel
section op
variable {i : Nat} {o : Oper} {K : Env → World → Prop}
theorem eo_val {d : Nat} {v : Value} {w' : World} (hi : ops[i]? = some o) (hg : Region.wanted o (yieldedE ops ρ) = true) (hd : o.dst = some d) (hlt : Nat.blt d n = true)
    (hr : (execOp (ev ρ) o).run P w = .ok (.value v) w') (h : K (upd ρ d v) w') : EOp P n ops i K ρ w := by
  intro Q a ha
  unfold wpOp
  have hyy : Go.yielded ops a.tmps = yieldedE ops ρ := funext fun j => ha.yielded ops j
  simp only [hi, hyy, hg, if_true, Oper.wp, ha.eval, hr, Oper.upon, hd]
  exact .inl ⟨_, ha.put (by simpa [Nat.blt_eq] using hlt) v, h⟩
theorem eo_unit {w' : World} (hi : ops[i]? = some o) (hg : Region.wanted o (yieldedE ops ρ) = true) (hd : o.dst = none)
    (hr : (execOp (ev ρ) o).run P w = .ok .skip w') (h : K ρ w') : EOp P n ops i K ρ w := by
  intro Q a ha
  unfold wpOp
  have hyy : Go.yielded ops a.tmps = yieldedE ops ρ := funext fun j => ha.yielded ops j
  simp only [hi, hyy, hg, if_true, Oper.wp, ha.eval, hr, Oper.upon, hd]
  exact .inl ⟨ρ, ha, h⟩
theorem eo_pass {d : Nat} (hi : ops[i]? = some o) (hg : Region.wanted o (yieldedE ops ρ) = false) (hd : o.dst = some d) (hlt : Nat.blt d n = true)
    (h : K (upd ρ d undef) w) : EOp P n ops i K ρ w := by
  intro Q a ha
  unfold wpOp
  have hyy : Go.yielded ops a.tmps = yieldedE ops ρ := funext fun j => ha.yielded ops j
  simp only [hi, hyy, hg, Bool.false_eq_true, if_false, hd]
  exact ⟨_, ha.put (by simpa [Nat.blt_eq] using hlt) undef, h⟩
theorem eo_call {d : Nat} {f : FuncId} {args : Array Value} {w' : World} {R : Value → World → Prop} (hi : ops[i]? = some o) (hg : Region.wanted o (yieldedE ops ρ) = true) (hd : o.dst = some d) (hlt : Nat.blt d n = true)
    (hr : (execOp (ev ρ) o).run P w = .ok (.enter f args) w') (hc : Calls P f args w' (Returns R))
    (h : ∀ v w'', R v w'' → K (upd ρ d v) w'') : EOp P n ops i K ρ w := by
  intro Q a ha
  unfold wpOp
  have hyy : Go.yielded ops a.tmps = yieldedE ops ρ := funext fun j => ha.yielded ops j
  simp only [hi, hyy, hg, if_true, Oper.wp, ha.eval, hr, Oper.upon, hd]
  refine .inl (hc.mono fun e w'' ⟨v, he, hR⟩ => ?_)
  subst he
  exact ⟨_, ha.put (by simpa [Nat.blt_eq] using hlt) v, h v w'' hR⟩
end op
end drawn2
end Hk
