/- The env-based form of the kit's weakest preconditions: the frame as a function from slots to values; regions in their order, and regions that draw their order. -/
import Derived.WalkKit
import Derived.KernelRfl
import Derived.OrdersHeld
set_option linter.unusedVariables false
set_option linter.unusedSimpArgs false
namespace Hk
open Go
abbrev Env := Nat → Value
def upd (ρ : Env) (t : Nat) (v : Value) : Env := fun s => cond (Nat.beq s t) v (ρ s)
def ev (ρ : Env) : Operand → Value
  | .tmp t => ρ t
  | .const v => v
  | .global g => .pointer (some ⟨g, 0, none⟩)
  | .func f => .func (.func f) #[] #[]
theorem upd_self {ρ : Env} {t : Nat} {v : Value} (h : ρ t = v) : upd ρ t v = ρ := by
  funext s
  unfold upd
  cases hb : Nat.beq s t
  · rfl
  · have : s = t := Nat.eq_of_beq_eq_true hb
    subst this; exact h.symm
structure AE (n : Nat) (a : Act) (ρ : Env) : Prop where
  size : a.tmps.size = n
  get : ∀ t, a.tmps.getD t undef = ρ t
  defers : a.defers = []
theorem AE.eval {n : Nat} {a : Act} {ρ : Env} (h : AE n a ρ) : a.eval = ev ρ := by
  funext x
  cases x with
  | tmp t => exact h.get t
  | const v => rfl
  | global g => rfl
  | func f => rfl
theorem AE.put {n : Nat} {a : Act} {ρ : Env} (h : AE n a ρ) {d : Nat} (hd : d < n) (v : Value) : AE n (a.put (some d) v) (upd ρ d v) := by
  refine ⟨by simp [Act.put, h.size], fun t => ?_, by simp [Act.put, h.defers]⟩
  have hs := h.size
  have hg := h.get t
  simp only [Act.put, upd, Array.getD_eq_getD_getElem?] at *
  cases hb : Nat.beq t d
  · have hne : d ≠ t := fun e => by subst e; simp at hb
    simp only [cond_false]
    rw [Array.getElem?_setIfInBounds_ne hne]
    exact hg
  · have he : t = d := Nat.eq_of_beq_eq_true hb
    subst he
    simp [hs, hd]
abbrev EPost := Exit → Env → World → Prop
def lift (n : Nat) (Q : EPost) : Exit → Act → World → Prop := fun e a w => ∃ ρ, AE n a ρ ∧ Q e ρ w
theorem lift_mono {n : Nat} {Q Q' : EPost} (h : ∀ e ρ w, Q e ρ w → Q' e ρ w) (e : Exit) (a : Act) (w : World) : lift n Q e a w → lift n Q' e a w :=
  fun ⟨ρ, ha, hq⟩ => ⟨ρ, ha, h e ρ w hq⟩
def EWp (P : Program) (n : Nat) (c : Code) (Q : EPost) (ρ : Env) (w : World) : Prop := ∀ a, AE n a ρ → c.wp P (lift n Q) a w
section rules
variable {P : Program} {n : Nat} {Q : EPost} {ρ : Env} {w : World}
theorem EWp.mono {c : Code} {Q' : EPost} (h : EWp P n c Q ρ w) (hq : ∀ e ρ w, Q e ρ w → Q' e ρ w) : EWp P n c Q' ρ w :=
  fun a ha => wp_mono (h a ha) fun e a w => lift_mono hq e a w
theorem ewp_skip (h : Q .normal ρ w) : EWp P n .skip Q ρ w := fun a ha => wp_skip ⟨ρ, ha, h⟩
theorem ewp_exit {id : Nat} (h : Q (.exit id) ρ w) : EWp P n (.exit id) Q ρ w := fun a ha => wp_exit ⟨ρ, ha, h⟩
theorem ewp_ret (h : Q .ret ρ w) : EWp P n .ret Q ρ w := fun a ha => wp_ret ⟨ρ, ha, h⟩
def thenE (K : Env → World → Prop) (Q : EPost) : EPost
  | .normal, ρ, w => K ρ w
  | e, ρ, w => Q e ρ w
theorem ewp_seq {x y : Code} (h : EWp P n x (thenE (EWp P n y Q) Q) ρ w) : EWp P n (.seq x y) Q ρ w := by
  intro a ha
  refine wp_seq (wp_mono (h a ha) fun e a w hq => ?_)
  obtain ⟨ρ', ha', hq'⟩ := hq
  cases e <;> first | exact hq' a ha' | exact ⟨ρ', ha', hq'⟩
theorem ewp_cond {c : Operand} {x y : Code} (b : Bool) (hc : ev ρ c = .bool b) (ht : b = true → EWp P n x Q ρ w) (hf : b = false → EWp P n y Q ρ w) :
    EWp P n (.cond c x y) Q ρ w := by
  intro a ha
  exact wp_cond_split (t := b) (by rw [ha.eval]; exact hc) (fun h => ht h a ha) (fun h => hf h a ha)
def blockE (id : Nat) (Q : EPost) : EPost
  | .exit id', ρ, w => (cond (Nat.beq id' id) (Q .normal ρ w) (Q (.exit id') ρ w) : Prop)
  | e, ρ, w => Q e ρ w
theorem ewp_block {id : Nat} {c : Code} (h : EWp P n c (blockE id Q) ρ w) : EWp P n (.block id c) Q ρ w := by
  intro a ha
  refine wp_block (wp_mono (h a ha) fun e a w hq => ?_)
  obtain ⟨ρ', ha', hq'⟩ := hq
  cases e with
  | exit id' =>
    simp only [Exit.inBlock, blockE] at *
    by_cases hid : id' = id
    · subst hid; simp at hq' ⊢; exact ⟨ρ', ha', hq'⟩
    · have : Nat.beq id' id = false := by cases hb : Nat.beq id' id; rfl; exact absurd (Nat.eq_of_beq_eq_true hb) hid
      rw [this] at hq'
      simp [hid]; exact ⟨ρ', ha', hq'⟩
  | normal => exact ⟨ρ', ha', hq'⟩
  | goto l => exact ⟨ρ', ha', hq'⟩
  | ret => exact ⟨ρ', ha', hq'⟩
  | panic c => exact ⟨ρ', ha', hq'⟩
  | outgrown => exact ⟨ρ', ha', hq'⟩
theorem ewp_loop {c : Code} (I : Nat → Env → World → Prop) (k : Nat) (h0 : I k ρ w)
    (round : ∀ k ρ w, I k ρ w → EWp P n c (thenE (fun ρ' w' => ∃ k', k' < k ∧ I k' ρ' w') Q) ρ w) : EWp P n (.loop c) Q ρ w := by
  intro a ha b kk cs
  have key : ∀ k a ρ w, AE n a ρ → I k ρ w →
      ∃ e a' w', lift n Q e a' w' ∧ Arrives P (lone (b.at a (.code c :: .inLoop c :: kk)) cs w) b kk cs e a' w' := by
    intro k
    induction k using Nat.strongRecOn with
    | _ k ih =>
      intro a ρ w ha hI
      obtain ⟨e, a₁, w₁, hq, harr⟩ := round k ρ w hI a ha b (.inLoop c :: kk) cs
      obtain ⟨ρ₁, ha₁, hq⟩ := hq
      cases e with
      | normal =>
        obtain ⟨k', hlt, hI₁⟩ := hq
        obtain ⟨e₂, a₂, w₂, hq₂, harr₂⟩ := ih k' hlt a₁ ρ₁ w₁ ha₁ hI₁
        exact ⟨e₂, a₂, w₂, hq₂, .of_steps (Steps.trans harr (.one step_inLoop)) harr₂⟩
      | exit id => exact ⟨_, a₁, w₁, ⟨ρ₁, ha₁, hq⟩, .pass (x := .inLoop c) rfl (fun _ _ => .inl (by simp)) harr⟩
      | goto l => exact ⟨_, a₁, w₁, ⟨ρ₁, ha₁, hq⟩, .pass (x := .inLoop c) rfl (fun _ _ => .inl (by simp)) harr⟩
      | ret => exact ⟨_, a₁, w₁, ⟨ρ₁, ha₁, hq⟩, .pass (x := .inLoop c) rfl (fun _ _ => .inl (by simp)) harr⟩
      | panic ch => exact ⟨_, a₁, w₁, ⟨ρ₁, ha₁, hq⟩, .pass (x := .inLoop c) rfl (fun _ _ => .inl (by simp)) harr⟩
      | outgrown => exact ⟨_, a₁, w₁, ⟨ρ₁, ha₁, hq⟩, .pass (x := .inLoop c) rfl (fun _ _ => .inl (by simp)) harr⟩
  obtain ⟨e, a', w', hq, harr⟩ := key k a ρ w ha h0
  exact ⟨e, a', w', hq, .of_steps (.one step_loop) harr⟩
end rules
def ResIs (P : Program) (fn : Func) (ρ : Env) (w : World) (v : Value) : Prop :=
  ∀ tmps : Array Value, (∀ t, tmps.getD t undef = ρ t) → (results fn tmps).run P w = .ok v w
def RetPost (P : Program) (fn : Func) (R : Value → World → Prop) : EPost
  | .normal, ρ, w => ∃ v, ResIs P fn ρ w v ∧ R v w
  | .ret, ρ, w => ∃ v, ResIs P fn ρ w v ∧ R v w
  | _, _, _ => False
def Returns (R : Value → World → Prop) : Ending → World → Prop := fun e w' => ∃ v, e = .returned v ∧ R v w'
theorem ecalls {P : Program} {f : FuncId} {fn : Func} {c : Code} {args : Array Value} {w : World} {R : Value → World → Prop} (n : Nat)
    (hf : P.funcs[f]? = some fn) (hb : fn.body = some c) (hn : args.size + (fn.ntmps - args.size) = n)
    (h : EWp P n c (RetPost P fn R) (fun t => args.getD t undef) w) : Calls P f args w (Returns R) := by
  refine calls_of_wp hf hb ?_
  refine wp_mono (h ⟨_, _⟩ ⟨by simpa using hn, fun t => ?_, rfl⟩) fun e a w hq => ?_
  · simp only [Array.getD_eq_getD_getElem?, Array.getElem?_append]
    split
    · rfl
    · rename_i hlt
      simp only [Array.getElem?_replicate]
      have : args[t]? = none := by simp; omega
      rw [this]
      split <;> rfl
  · obtain ⟨ρ, ha, hq⟩ := hq
    cases e with
    | normal => obtain ⟨v, hr, hR⟩ := hq; exact ⟨ha.defers, v, hr a.tmps ha.get, v, rfl, hR⟩
    | ret => obtain ⟨v, hr, hR⟩ := hq; exact ⟨ha.defers, v, hr a.tmps ha.get, v, rfl, hR⟩
    | exit id => exact hq.elim
    | goto l => exact hq.elim
    | panic c => exact hq.elim
    | outgrown => exact hq.elim
def EL (P : Program) (n : Nat) (ops : Array Oper) (Q : EPost) (l : List Oper) (ρ : Env) (w : World) : Prop := ∀ a, AE n a ρ → wpList P ops (lift n Q) l a w
def yieldedE (ops : Array Oper) (ρ : Env) (j : Nat) : Option Bool :=
  match (ops[j]?).bind (·.dst) with
  | some d => (match ρ d with | .bool b => some b | _ => none)
  | none => none
theorem AE.yielded {n : Nat} {a : Act} {ρ : Env} (h : AE n a ρ) (ops : Array Oper) (j : Nat) : Go.yielded ops a.tmps j = yieldedE ops ρ j := by
  unfold Go.yielded yieldedE
  cases hd : (ops[j]?).bind (·.dst) with
  | none => rfl
  | some d =>
    simp only [Option.bind_some]
    rw [← h.get d]
    simp only [Array.getD_eq_getD_getElem?]
    cases hx : a.tmps[d]? with
    | none => simp [undef]
    | some v => cases v <;> rfl
section region
variable {P : Program} {n : Nat} {ops : Array Oper} {Q : EPost} {ρ : Env} {w : World} {rest : List Oper} {o : Oper}
theorem ewp_region {id : Nat} {l : List Oper} (h : EL P n l.toArray Q l ρ w) : EWp P n (.region id l.toArray false) Q ρ w :=
  fun a ha => wp_region_lit (h a ha)
theorem el_nil (h : Q .normal ρ w) : EL P n ops Q [] ρ w := fun a ha => wpList_nil ⟨ρ, ha, h⟩
theorem el_val {d : Nat} {v : Value} {w' : World} (hg : Region.wanted o (yieldedE ops ρ) = true) (hd : o.dst = some d) (hlt : Nat.blt d n = true)
    (hr : (execOp (ev ρ) o).run P w = .ok (.value v) w') (h : EL P n ops Q rest (upd ρ d v) w') : EL P n ops Q (o :: rest) ρ w := by
  intro a ha
  unfold wpList
  have hy : Go.yielded ops a.tmps = yieldedE ops ρ := funext fun j => ha.yielded ops j
  rw [hy, if_pos hg]
  refine .inl ?_
  simp only [Oper.wp, ha.eval, hr, Oper.upon, hd]
  exact h _ (ha.put (by simpa [Nat.blt_eq] using hlt) v)
theorem el_unit {w' : World} (hg : Region.wanted o (yieldedE ops ρ) = true) (hd : o.dst = none)
    (hr : (execOp (ev ρ) o).run P w = .ok .skip w') (h : EL P n ops Q rest ρ w') : EL P n ops Q (o :: rest) ρ w := by
  intro a ha
  unfold wpList
  have hy : Go.yielded ops a.tmps = yieldedE ops ρ := funext fun j => ha.yielded ops j
  rw [hy, if_pos hg]
  refine .inl ?_
  simp only [Oper.wp, ha.eval, hr, Oper.upon, hd]
  exact h _ ha
theorem el_pass {d : Nat} (hg : Region.wanted o (yieldedE ops ρ) = false) (hd : o.dst = some d) (hlt : Nat.blt d n = true)
    (h : EL P n ops Q rest (upd ρ d undef) w) : EL P n ops Q (o :: rest) ρ w := by
  intro a ha
  unfold wpList
  have hy : Go.yielded ops a.tmps = yieldedE ops ρ := funext fun j => ha.yielded ops j
  rw [hy, if_neg (by simp [hg]), hd]
  exact h _ (ha.put (by simpa [Nat.blt_eq] using hlt) undef)
theorem el_call {d : Nat} {f : FuncId} {args : Array Value} {w' : World} {R : Value → World → Prop} (hg : Region.wanted o (yieldedE ops ρ) = true) (hd : o.dst = some d) (hlt : Nat.blt d n = true)
    (hr : (execOp (ev ρ) o).run P w = .ok (.enter f args) w') (hc : Calls P f args w' (Returns R))
    (h : ∀ v w'', R v w'' → EL P n ops Q rest (upd ρ d v) w'') : EL P n ops Q (o :: rest) ρ w := by
  intro a ha
  unfold wpList
  have hy : Go.yielded ops a.tmps = yieldedE ops ρ := funext fun j => ha.yielded ops j
  rw [hy, if_pos hg]
  refine .inl ?_
  simp only [Oper.wp, ha.eval, hr, Oper.upon, hd]
  refine hc.mono fun e w'' ⟨v, he, hR⟩ => ?_
  subst he
  exact h v w'' hR _ (ha.put (by simpa [Nat.blt_eq] using hlt) v)
end region
section drawn
variable {P : Program} {ops : Array Oper} {Q : Exit → Act → World → Prop} {S T : World → Prop} {brk : List Nat} {n m : Nat}
end drawn
def EY (P : Program) (n : Nat) (ops : Array Oper) (Q : EPost) (fuel : Nat) (listed : Array Bool) (ρ : Env) (w : World) : Prop :=
  ∀ a, AE n a ρ → wpAny P .any ops (lift n Q) fuel listed a w
def EOp (P : Program) (n : Nat) (ops : Array Oper) (i : Nat) (K : Env → World → Prop) (ρ : Env) (w : World) : Prop :=
  ∀ (Q : Exit → Act → World → Prop) a, AE n a ρ → wpOp P ops Q i (fun a' w' => ∃ ρ', AE n a' ρ' ∧ K ρ' w') a w
section drawn2
variable {P : Program} {n : Nat} {ops : Array Oper} {Q : EPost} {S : World → Prop} {brk : List Nat} {m : Nat} {ρ : Env} {w : World} {listed : Array Bool}
section op
variable {i : Nat} {o : Oper} {K : Env → World → Prop}
theorem eo_val {d : Nat} {v : Value} {w' : World} (hi : ops[i]? = some o) (hg : Region.wanted o (yieldedE ops ρ) = true) (hd : o.dst = some d) (hlt : Nat.blt d n = true)
    (hr : (execOp (ev ρ) o).run P w = .ok (.value v) w') (h : K (upd ρ d v) w') : EOp P n ops i K ρ w := by
  intro Q a ha
  unfold wpOp
  have hyy : Go.yielded ops a.tmps = yieldedE ops ρ := funext fun j => ha.yielded ops j
  simp only [hi, hyy, hg, if_true, Oper.wp, ha.eval, hr, Oper.upon, hd]
  exact .inl ⟨_, ha.put (by simpa [Nat.blt_eq] using hlt) v, h⟩
theorem eo_unit {w' : World} (hi : ops[i]? = some o) (hg : Region.wanted o (yieldedE ops ρ) = true) (hd : o.dst = none)
    (hr : (execOp (ev ρ) o).run P w = .ok .skip w') (h : K ρ w') : EOp P n ops i K ρ w := by
  intro Q a ha
  unfold wpOp
  have hyy : Go.yielded ops a.tmps = yieldedE ops ρ := funext fun j => ha.yielded ops j
  simp only [hi, hyy, hg, if_true, Oper.wp, ha.eval, hr, Oper.upon, hd]
  exact .inl ⟨ρ, ha, h⟩
theorem eo_pass {d : Nat} (hi : ops[i]? = some o) (hg : Region.wanted o (yieldedE ops ρ) = false) (hd : o.dst = some d) (hlt : Nat.blt d n = true)
    (h : K (upd ρ d undef) w) : EOp P n ops i K ρ w := by
  intro Q a ha
  unfold wpOp
  have hyy : Go.yielded ops a.tmps = yieldedE ops ρ := funext fun j => ha.yielded ops j
  simp only [hi, hyy, hg, Bool.false_eq_true, if_false, hd]
  exact ⟨_, ha.put (by simpa [Nat.blt_eq] using hlt) undef, h⟩
theorem eo_call {d : Nat} {f : FuncId} {args : Array Value} {w' : World} {R : Value → World → Prop} (hi : ops[i]? = some o) (hg : Region.wanted o (yieldedE ops ρ) = true) (hd : o.dst = some d) (hlt : Nat.blt d n = true)
    (hr : (execOp (ev ρ) o).run P w = .ok (.enter f args) w') (hc : Calls P f args w' (Returns R))
    (h : ∀ v w'', R v w'' → K (upd ρ d v) w'') : EOp P n ops i K ρ w := by
  intro Q a ha
  unfold wpOp
  have hyy : Go.yielded ops a.tmps = yieldedE ops ρ := funext fun j => ha.yielded ops j
  simp only [hi, hyy, hg, if_true, Oper.wp, ha.eval, hr, Oper.upon, hd]
  refine .inl (hc.mono fun e w'' ⟨v, he, hR⟩ => ?_)
  subst he
  exact ⟨_, ha.put (by simpa [Nat.blt_eq] using hlt) v, h v w'' hR⟩
end op
end drawn2
end Hk
set_option linter.unusedVariables false
set_option linter.unusedSimpArgs false
namespace Hk
open Go
abbrev w64 (x : Int) : Int := IntKind.i64.wrap x
def gmax (x y : Int) : Int := if y > x then y else x
def gmin (x y : Int) : Int := if y < x then y else x
def ibin (op : BinOp) (k : IntKind) (a b : Int) : Option Value :=
  match op with
  | .add => some (.int k (k.wrap (a + b)))
  | .sub => some (.int k (k.wrap (a - b)))
  | .mul => some (.int k (k.wrap (a * b)))
  | .eql => some (.bool (a == b))
  | .neq => some (.bool (a != b))
  | .lss => some (.bool (decide (a < b)))
  | .leq => some (.bool (decide (a ≤ b)))
  | .gtr => some (.bool (decide (a > b)))
  | .geq => some (.bool (decide (a ≥ b)))
  | .and => some (.int k (k.wrap ((BitVec.ofInt k.bits a &&& BitVec.ofInt k.bits b).toNat)))
  | .or => some (.int k (k.wrap ((BitVec.ofInt k.bits a ||| BitVec.ofInt k.bits b).toNat)))
  | .xor => some (.int k (k.wrap ((BitVec.ofInt k.bits a ^^^ BitVec.ofInt k.bits b).toNat)))
  | _ => none
def pev (ρ : Env) : Op → Option Value
  | .move x => some (ev ρ x)
  | .assign x => some (ev ρ x)
  | .pick c a b => match ev ρ c with | .bool t => some (cond t (ev ρ a) (ev ρ b)) | _ => none
  | .binOp op _ x y _ => match ev ρ x, ev ρ y with
    | .int k a, .int k' b => if k = k' then ibin op k a b else none
    | _, _ => none
  | .unOp op _ x => match op, ev ρ x with
    | .not, .bool b => some (.bool (!b))
    | .neg, .int k a => some (.int k (k.wrap (0 - a)))
    | _, _ => none
  | .makeFunc fn first cap => some (.func fn (first.toList.map (ev ρ)).toArray (cap.toList.map (ev ρ)).toArray)
  | .extract t i => match ev ρ t with | .tuple vs => vs[i]? | _ => none
  | .nilCheck x => match ev ρ x with | .pointer (some a) => some (.pointer (some a)) | _ => none
  | _ => none
section
variable {P : Program} {ρ : Env} {o : Oper} {w : World}
theorem run_pev {v : Value} (h : pev ρ o.op = some v) : (execOp (ev ρ) o).run P w = .ok (.value v) w := by
  obtain ⟨dst, op, ty, pos, after, guard⟩ := o
  simp only at h
  cases op with
  | move x => simp only [pev, Option.some.injEq] at h; subst h; rfl
  | assign x => simp only [pev, Option.some.injEq] at h; subst h; rfl
  | pick c a b =>
    simp only [pev] at h
    cases hc : ev ρ c <;> simp only [hc] at h <;> try contradiction
    rename_i t
    injection h with h; subst h
    cases t <;> simp [execOp, hc, go_sem]
  | binOp op t x y u =>
    simp only [pev] at h
    cases hx : ev ρ x <;> cases hy : ev ρ y <;> simp only [hx, hy] at h <;> try contradiction
    rename_i k a k' b
    split at h <;> try contradiction
    rename_i hk
    subst hk
    cases op <;> simp only [ibin] at h <;> try contradiction
    all_goals
      injection h with h; subst h
      simp [execOp, hx, hy, binOp, eqGuard, Op.intArith, Op.intCmp, Op.intBits, go_sem]
  | unOp op t x =>
    simp only [pev] at h
    cases op <;> cases hx : ev ρ x <;> simp only [hx] at h <;> try contradiction
    all_goals
      injection h with h; subst h
      simp [execOp, hx, Op.unary, Op.intArith, go_sem]
  | makeFunc fn first cap => simp only [pev, Option.some.injEq] at h; subst h; simp [execOp, Instr.makeFunc, go_sem, ← Array.toList_map]
  | extract t i =>
    simp only [pev] at h
    cases hx : ev ρ t <;> simp only [hx] at h <;> try contradiction
    simp [execOp, hx, Instr.extract, h, go_sem]
  | nilCheck x =>
    simp only [pev] at h
    cases hx : ev ρ x <;> simp only [hx] at h <;> try contradiction
    rename_i p
    cases p <;> simp only at h <;> try contradiction
    injection h with h; subst h
    simp [execOp, hx, go_sem]
  | _ => simp [pev] at h
end
def descAgg : TypeDesc → Bool
  | .struct _ => true
  | .array _ _ => true
  | _ => false
def tyAgg (P : Program) (t : TypeId) : Option Bool := (P.underlying t).map descAgg
def tySize (P : Program) (t : TypeId) : Option Nat := (P.info? t).map (·.size)
def tyBytes (P : Program) (t : TypeId) : Option Nat := (P.info? t).map (·.bytes)
def tyZero (P : Program) (t : TypeId) : Option Value := (P.info? t).bind (·.zero)
def tyElem (P : Program) (t : TypeId) : Option TypeId := (P.underlying t).bind fun | .slice e => some e | _ => none
def tyField (P : Program) (t : TypeId) (i : Nat) : Option (Nat × TypeId) :=
  match P.underlying t with
  | some (.struct fs) => match fs[i]? with
    | some f => match P.info? f.type with | some g => if g.size = 0 then none else some (f.offset, f.type) | none => none
    | none => none
  | _ => none
section
variable {P : Program} {ρ : Env} {w : World} {dst : Option Tmp} {ty : TypeId} {pos : String} {after : Array Edge} {guard : Option (Nat × Bool)}
theorem tyElem_spec {t e : TypeId} (h : tyElem P t = some e) : P.underlying t = some (.slice e) := by
  unfold tyElem at h
  cases hu : P.underlying t with
  | none => simp [hu] at h
  | some d => cases d <;> simp [hu] at h; subst h; rfl
theorem isAgg_spec {t : TypeId} {b : Bool} (h : tyAgg P t = some b) : (isAgg t).run P w = .ok b w := by
  unfold tyAgg at h
  cases hu : P.underlying t with
  | none => simp [hu] at h
  | some d => cases d <;> simp [hu, descAgg] at h <;> subst h <;> simp [isAgg, hu, go_sem, underlying]
theorem sizeOf_spec {t : TypeId} {n : Nat} (h : tySize P t = some n) : (Go.sizeOf t).run P w = .ok n w := by
  unfold tySize at h
  cases hu : P.info? t with
  | none => simp [hu] at h
  | some d => simp [hu] at h; subst h; simp [Go.sizeOf, typeInfo, hu, go_sem]
theorem run_load1 {t : TypeId} {x : Operand} {ad : Addr} {v : Value} (ht : tyAgg P t = some false) (hx : ev ρ x = .pointer (some ad)) (hc : w.cell? ad = some v) :
    (execOp (ev ρ) ⟨dst, .load t x, ty, pos, after, guard⟩).run P w = .ok (.value v) w := by
  have hu : ∃ d, P.underlying t = some d ∧ descAgg d = false := by
    unfold tyAgg at ht
    cases hu : P.underlying t with
    | none => simp [hu] at ht
    | some d => exact ⟨d, rfl, by simpa [hu] using ht⟩
  obtain ⟨d, hu, hd⟩ := hu
  cases d <;> simp [descAgg] at hd <;> simp [execOp, Instr.loadAt, Instr.sureAddr, hx, loadVar, isAgg, underlying, hu, hc, go_sem]
end
end Hk
set_option linter.unusedVariables false
set_option linter.unusedSimpArgs false
namespace Hk
open Go
abbrev HP := Nat → Option Obj
abbrev Foot := Nat → Prop
def HP.le (f g : HP) : Prop := ∀ b o, f b = some o → g b = some o
theorem HP.le_refl (f : HP) : HP.le f f := fun _ _ h => h
theorem HP.le_trans {f g h : HP} (a : HP.le f g) (b : HP.le g h) : HP.le f h := fun x o e => b x o (a x o e)
def wh (w : World) : HP := fun b => w.heap[b]?
def hcell (f : HP) (a : Addr) : Option Value :=
  match f a.block with
  | some (.cells c _ _) => if a.spot.isSome then none else c[a.off]?
  | _ => none
theorem hcell_wh (w : World) (a : Addr) : hcell (wh w) a = w.cell? a := rfl
theorem hcell_le {f g : HP} (h : HP.le f g) {a : Addr} {v : Value} (e : hcell f a = some v) : hcell g a = some v := by
  unfold hcell at *
  cases hf : f a.block with
  | none => simp [hf] at e
  | some o => rw [h _ _ hf]; rw [hf] at e; exact e
structure FRel (α : Type) where
  n : Nat
  p : HP → List Value → α → Prop
  len : ∀ {f cs x}, p f cs x → cs.length = n
  one : ∀ {f cs x}, p f cs x → ∀ v ∈ cs, v.oneCell' = true
  mono : ∀ {f g cs x}, HP.le f g → p f cs x → p g cs x
structure ORel (α : Type) where
  fz : FRel α
  p : HP → HP → List Value → α → Foot → Prop
  len : ∀ {f h cs x S}, p f h cs x S → cs.length = fz.n
  one : ∀ {f h cs x S}, p f h cs x S → ∀ v ∈ cs, v.oneCell' = true
  loc : ∀ {f h g cs x S}, p f h cs x S → (∀ b, S b → g b = h b) → p f g cs x S
  mono : ∀ {f g h cs x S}, HP.le f g → p f h cs x S → p g h cs x S
  loc' : ∀ {f h cs x S S'}, p f h cs x S → (∀ b, S b → S' b) → p f h cs x S'
  freeze : ∀ {f h g cs x S}, p f h cs x S → HP.le f g → (∀ b, S b → g b = h b) → fz.p g cs x
def fInt (k : IntKind) : FRel Int := ⟨1, fun _ cs x => cs = [.int k x], fun h => by subst h; rfl, fun h => by subst h; simp [Value.oneCell'], fun _ h => h⟩
def fBool : FRel Bool := ⟨1, fun _ cs x => cs = [.bool x], fun h => by subst h; rfl, fun h => by subst h; simp [Value.oneCell'], fun _ h => h⟩
def fStr : FRel ByteArray := ⟨1, fun _ cs x => cs = [.string x], fun h => by subst h; rfl, fun h => by subst h; simp [Value.oneCell'], fun _ h => h⟩
def fPair {α β : Type} (A : FRel α) (B : FRel β) : FRel (α × β) :=
  ⟨A.n + B.n, fun f cs x => ∃ c1 c2, cs = c1 ++ c2 ∧ A.p f c1 x.1 ∧ B.p f c2 x.2,
   fun ⟨c1, c2, e, h1, h2⟩ => by subst e; rw [List.length_append, A.len h1, B.len h2],
   fun ⟨c1, c2, e, h1, h2⟩ v hv => by subst e; exact (List.mem_append.1 hv).elim (A.one h1 v) (B.one h2 v),
   fun hl ⟨c1, c2, e, h1, h2⟩ => ⟨c1, c2, e, A.mono hl h1, B.mono hl h2⟩⟩
def fMap {α β : Type} (g : β → α) (A : FRel α) : FRel β := ⟨A.n, fun f cs x => A.p f cs (g x), A.len, A.one, A.mono⟩
structure SlF {α : Type} (f : HP) (E : FRel α) (A : Option Addr) (n c : Nat) (xs : List α) : Prop where
  len : n = xs.length
  le : xs.length ≤ c
  max : c ≤ maxLen
  get : ∀ i x, xs[i]? = some x → ∃ b o es, A = some ⟨b, o, none⟩ ∧ (∀ j v, es[j]? = some v → hcell f ⟨b, o + i * E.n + j, none⟩ = some v) ∧ E.p f es x
theorem SlF.mono {α : Type} {f g : HP} {E : FRel α} {A : Option Addr} {n c : Nat} {xs : List α} (h : SlF f E A n c xs) (hl : HP.le f g) : SlF g E A n c xs :=
  ⟨h.len, h.le, h.max, fun i x hx => by
    obtain ⟨b, o, es, e, hc, he⟩ := h.get i x hx
    exact ⟨b, o, es, e, fun j v hv => hcell_le hl (hc j v hv), E.mono hl he⟩⟩
theorem SlF.nil {α : Type} (f : HP) (E : FRel α) : SlF f E none 0 0 ([] : List α) := ⟨rfl, Nat.le_refl _, by simp [maxLen], fun i x h => by simp at h⟩
def fSl {α : Type} (E : FRel α) : FRel (List α) :=
  ⟨1, fun f cs xs => ∃ A n c, cs = [.slice A n c] ∧ SlF f E A n c xs, fun ⟨A, n, c, e, _⟩ => by subst e; rfl, fun ⟨A, n, c, e, _⟩ => by subst e; simp [Value.oneCell'], fun hl ⟨A, n, c, e, h⟩ => ⟨A, n, c, e, h.mono hl⟩⟩
def fPtr {α : Type} (E : FRel α) : FRel α :=
  ⟨1, fun f cs x => ∃ b ds ty fr, cs = [.pointer (some ⟨b, 0, none⟩)] ∧ f b = some (.cells (List.toArray ds) ty fr) ∧ E.p f ds x, fun ⟨b, _, _, _, e, _⟩ => by subst e; rfl, fun ⟨b, _, _, _, e, _⟩ => by subst e; simp [Value.oneCell'],
   fun hl ⟨b, arr, ty, fr, e, h1, h2⟩ => ⟨b, arr, ty, fr, e, hl _ _ h1, E.mono hl h2⟩⟩
def fOpt {α : Type} (E : FRel α) : FRel (Option α) :=
  ⟨1, fun f cs x => match x with | none => cs = [.pointer none] | some y => (fPtr E).p f cs y,
   fun {f cs x} h => by cases x with | none => subst h; rfl | some y => exact (fPtr E).len h,
   fun {f cs x} h => by cases x with | none => subst h; simp [Value.oneCell'] | some y => exact (fPtr E).one h,
   fun {f g cs x} hl h => by cases x with | none => exact h | some y => exact (fPtr E).mono hl h⟩
def oF {α : Type} (E : FRel α) : ORel α :=
  ⟨E, fun f _ cs x _ => E.p f cs x, E.len, E.one, fun h _ => h, fun hl h => E.mono hl h, fun h _ => h, fun h hl _ => E.mono hl h⟩
def SlO {α : Type} (f h : HP) (E : ORel α) (A : Option Addr) (c : Nat) (xs : List α) (S : Foot) : Prop :=
  xs.length ≤ c ∧ c ≤ maxLen ∧ (c = 0 ∨ ∃ b o cur ty, A = some ⟨b, o, none⟩ ∧ S b ∧ h b = some (.cells cur ty (0, 0)) ∧ o + c * E.fz.n ≤ cur.size ∧
    ∃ F : Nat → Foot, (∀ i b', F i b' → S b' ∧ b' ≠ b) ∧ (∀ i j b', i ≠ j → F i b' → ¬ F j b') ∧
      ∀ i x, xs[i]? = some x → ∃ es, (∀ j v, es[j]? = some v → cur[o + i * E.fz.n + j]? = some v) ∧ E.p f h es x (F i))
theorem SlO.freeze {α : Type} {f h g : HP} {E : ORel α} {A : Option Addr} {c : Nat} {xs : List α} {S : Foot} (hs : SlO f h E A c xs S) (hl : HP.le f g) (hg : ∀ b, S b → g b = h b) :
    SlF g E.fz A xs.length c xs := by
  obtain ⟨h1, h2, h3⟩ := hs
  refine ⟨rfl, h1, h2, fun i x hx => ?_⟩
  rcases h3 with rfl | ⟨b, o, cur, ty, rfl, hb, hc, _, F, k1, k2, k3⟩
  · have := (List.getElem?_eq_some_iff.1 hx).1; omega
  · obtain ⟨es, e1, e2⟩ := k3 i x hx
    refine ⟨b, o, es, rfl, fun j v hv => ?_, E.freeze e2 hl (fun b' hb' => hg b' (k1 i b' hb').1)⟩
    have := e1 j v hv
    simp only [hcell, hg b hb, hc]
    simpa using this
def oSl {α : Type} (E : ORel α) : ORel (List α) :=
  ⟨fSl E.fz, fun f h cs xs S => ∃ A c, cs = [.slice A xs.length c] ∧ SlO f h E A c xs S,
   fun ⟨A, c, e, _⟩ => by subst e; rfl,
   fun ⟨A, c, e, _⟩ => by subst e; simp [Value.oneCell'],
   fun ⟨A, c, e, h1, h2, h3⟩ hs => ⟨A, c, e, h1, h2, h3.imp id fun ⟨b, o, cur, ty, e, hb, hc, hz, F, k1, k2, k3⟩ =>
     ⟨b, o, cur, ty, e, hb, (hs b hb).trans hc, hz, F, k1, k2, fun i x hx => let ⟨es, e1, e2⟩ := k3 i x hx; ⟨es, e1, E.loc e2 (fun b' hb' => hs b' (k1 i b' hb').1)⟩⟩⟩,
   fun hl ⟨A, c, e, h1, h2, h3⟩ => ⟨A, c, e, h1, h2, h3.imp id fun ⟨b, o, cur, ty, e, hb, hc, hz, F, k1, k2, k3⟩ =>
     ⟨b, o, cur, ty, e, hb, hc, hz, F, k1, k2, fun i x hx => let ⟨es, e1, e2⟩ := k3 i x hx; ⟨es, e1, E.mono hl e2⟩⟩⟩,
   fun ⟨A, c, e, h1, h2, h3⟩ hs => ⟨A, c, e, h1, h2, h3.imp id fun ⟨b, o, cur, ty, e, hb, hc, hz, F, k1, k2, k3⟩ =>
     ⟨b, o, cur, ty, e, hs b hb, hc, hz, F, fun i b' hb' => ⟨hs b' (k1 i b' hb').1, (k1 i b' hb').2⟩, k2, k3⟩⟩,
   fun ⟨A, c, e, h⟩ hl hs => ⟨A, _, c, e, h.freeze hl hs⟩⟩
structure HProp where
  p : HP → HP → Foot → Prop
  loc : ∀ {f h g S}, p f h S → (∀ b, S b → g b = h b) → p f g S
  mono : ∀ {f g h S}, HP.le f g → p f h S → p g h S
def Blk (b : Nat) (o : Obj) : HProp := ⟨fun _ h S => S b ∧ h b = some o, fun ⟨h1, h2⟩ hs => ⟨h1, (hs _ h1).trans h2⟩, fun _ h => h⟩
def Hv {α : Type} (cs : List Value) (R : ORel α) (x : α) : HProp := ⟨fun f h S => R.p f h cs x S, fun h hs => R.loc h hs, fun hl h => R.mono hl h⟩
def Pt {α : Type} (b : Nat) (ty : TypeId) (R : ORel α) (x : α) : HProp :=
  ⟨fun f h S => S b ∧ ∃ arr S', h b = some (.cells arr ty (0, 0)) ∧ R.p f h arr.toList x S' ∧ ∀ b', S' b' → S b' ∧ b' ≠ b,
   fun ⟨hb, arr, S', h1, h2, h3⟩ hs => ⟨hb, arr, S', (hs b hb).trans h1, R.loc h2 (fun b' hb' => hs b' (h3 b' hb').1), h3⟩,
   fun hl ⟨hb, arr, S', h1, h2, h3⟩ => ⟨hb, arr, S', h1, R.mono hl h2, h3⟩⟩
def SepL (f h : HP) : List HProp → Foot → Prop
  | [], _ => True
  | A :: L, av => ∃ S : Foot, A.p f h S ∧ (∀ b, S b → av b ∧ h b ≠ none) ∧ SepL f h L (fun b => av b ∧ ¬ S b)
structure Wd (G w : World) (f : HP) (L : List HProp) : Prop where
  os : w.os = G.os
  tape : w.tape = G.tape
  output : w.output = G.output
  fro : HP.le f (wh w)
  sep : SepL f (wh w) L (fun b => f b = none)
theorem SepL.weaken {f h : HP} : ∀ {L : List HProp} {av av' : Foot}, (∀ b, av b → av' b) → SepL f h L av → SepL f h L av'
  | [], _, _, _, _ => trivial
  | A :: L, av, av', hav, ⟨S, h1, h2, h3⟩ => ⟨S, h1, fun b hb => ⟨hav b (h2 b hb).1, (h2 b hb).2⟩, SepL.weaken (fun b hb => ⟨hav b hb.1, hb.2⟩) h3⟩
theorem SepL.swap {f h : HP} {A B : HProp} {L : List HProp} {av : Foot} : SepL f h (A :: B :: L) av → SepL f h (B :: A :: L) av :=
  fun ⟨S, h1, h2, T, k1, k2, k3⟩ => ⟨T, k1, fun b hb => ⟨(k2 b hb).1.1, (k2 b hb).2⟩, S, h1, fun b hb => ⟨⟨(h2 b hb).1, fun ht => (k2 b ht).1.2 hb⟩, (h2 b hb).2⟩,
    SepL.weaken (fun b hb => ⟨⟨hb.1.1, hb.2⟩, hb.1.2⟩) k3⟩
theorem SepL.cons {f h : HP} {A : HProp} {L L' : List HProp} (hLL : ∀ av, SepL f h L av → SepL f h L' av) {av : Foot} : SepL f h (A :: L) av → SepL f h (A :: L') av :=
  fun ⟨S, h1, h2, h3⟩ => ⟨S, h1, h2, hLL _ h3⟩
theorem SepL.monoF {f g h : HP} (hl : HP.le f g) : ∀ {L : List HProp} {av : Foot}, SepL f h L av → SepL g h L av
  | [], _, _ => trivial
  | A :: L, av, ⟨S, h1, h2, h3⟩ => ⟨S, A.mono hl h1, h2, SepL.monoF hl h3⟩
theorem SepL.front {f h : HP} : ∀ (i : Nat) {L : List HProp} {A : HProp}, L[i]? = some A → ∀ {av : Foot}, SepL f h L av → SepL f h (A :: L.eraseIdx i) av
  | _, [], _, hi, _, _ => by simp at hi
  | 0, B :: L, A, hi, _, hs => by simp at hi; subst hi; exact hs
  | i + 1, B :: L, A, hi, _, hs => by
    have hi' : L[i]? = some A := by simpa using hi
    have := SepL.cons (A := B) (fun av' hs' => SepL.front i hi' (av := av') hs') hs
    simpa using SepL.swap this
theorem SepL.back {f h : HP} : ∀ (i : Nat) {L : List HProp} {A : HProp}, i ≤ L.length → ∀ {av : Foot}, SepL f h (A :: L) av → SepL f h (L.insertIdx i A) av
  | 0, L, A, _, _, hs => by simpa using hs
  | i + 1, [], A, hi, _, _ => by simp at hi
  | i + 1, B :: L, A, hi, _, hs => by
    have := SepL.cons (A := B) (fun av' hs' => SepL.back i (by simpa using hi) (av := av') hs') (SepL.swap hs)
    simpa using this
section
variable {G w w' : World} {f : HP} {L : List HProp}
theorem Wd.front (i : Nat) {A : HProp} (hi : L[i]? = some A) (h : Wd G w f L) : Wd G w f (A :: L.eraseIdx i) := ⟨h.os, h.tape, h.output, h.fro, h.sep.front i hi⟩
theorem Wd.swap {A B : HProp} (h : Wd G w f (A :: B :: L)) : Wd G w f (B :: A :: L) := ⟨h.os, h.tape, h.output, h.fro, h.sep.swap⟩
theorem Wd.drop1 {A : HProp} (h : Wd G w f (A :: L)) : Wd G w f L := ⟨h.os, h.tape, h.output, h.fro, let ⟨_, _, _, h3⟩ := h.sep; SepL.weaken (fun _ hb => hb.1) h3⟩
theorem Wd.drew (h : Wd G w f L) : Wd G { w with drawn := w.drawn + 1 } f L := ⟨h.os, h.tape, h.output, h.fro, h.sep⟩
theorem SepL.keep {f h h' : HP} : ∀ {L : List HProp} {av : Foot}, SepL f h L av → (∀ b, av b → h b ≠ none → h' b = h b) → SepL f h' L av
  | [], _, _, _ => trivial
  | A :: L, av, ⟨S, h1, h2, h3⟩, hk => by
    refine ⟨S, A.loc h1 (fun b hb => hk b (h2 b hb).1 (h2 b hb).2), fun b hb => ⟨(h2 b hb).1, ?_⟩, SepL.keep h3 (fun b hb hn => hk b hb.1 hn)⟩
    rw [hk b (h2 b hb).1 (h2 b hb).2]; exact (h2 b hb).2
theorem SepL.keep' {f h h' : HP} : ∀ {L : List HProp} {av av' : Foot}, SepL f h L av → (∀ b, av b → h b ≠ none → h' b = h b) → (∀ b, av b → h b ≠ none → av' b) → SepL f h' L av'
  | [], _, _, _, _, _ => trivial
  | A :: L, av, av', ⟨S, h1, h2, h3⟩, hk, ha => by
    refine ⟨S, A.loc h1 (fun b hb => hk b (h2 b hb).1 (h2 b hb).2), fun b hb => ⟨ha b (h2 b hb).1 (h2 b hb).2, ?_⟩,
      SepL.keep' h3 (fun b hb hn => hk b hb.1 hn) (fun b hb hn => ⟨ha b hb.1 hn, hb.2⟩)⟩
    rw [hk b (h2 b hb).1 (h2 b hb).2]; exact (h2 b hb).2
theorem Wd.step0 {A A' : HProp} (h : Wd G w f (A :: L)) (hos : w'.os = w.os) (htape : w'.tape = w.tape) (hout : w'.output = w.output)
    (hst : ∀ S, A.p f (wh w) S → (∀ b, S b → wh w b ≠ none) → ∃ S' : Foot, A'.p f (wh w') S' ∧ (∀ b, S' b → (S b ∨ wh w b = none) ∧ wh w' b ≠ none) ∧ ∀ b, ¬ S b → wh w b ≠ none → wh w' b = wh w b) :
    Wd G w' f (A' :: L) := by
  obtain ⟨S, h1, h2, h3⟩ := h.sep
  obtain ⟨S', k1, k2, k3⟩ := hst S h1 (fun b hb => (h2 b hb).2)
  have hff : ∀ b o, f b = some o → ¬ S b := fun b o hf hS => by have := (h2 b hS).1; simp only at this; rw [hf] at this; cases this
  refine ⟨hos.trans h.os, htape.trans h.tape, hout.trans h.output, fun b o hf => ?_, S', k1, fun b hb => ⟨?_, (k2 b hb).2⟩, ?_⟩
  · have := h.fro b o hf
    rw [k3 b (hff b o hf) (by rw [this]; simp)]; exact this
  · rcases (k2 b hb).1 with hS | hn
    · exact (h2 b hS).1
    · cases hf : f b with
      | none => rfl
      | some o => have := h.fro b o hf; rw [hn] at this; cases this
  · refine SepL.keep' h3 (fun b hb hn => k3 b hb.2 hn) (fun b hb hn => ⟨hb.1, fun hS' => ?_⟩)
    rcases (k2 b hS').1 with hS | hn'
    · exact hb.2 hS
    · exact hn hn'
end
end Hk
set_option linter.unusedVariables false
set_option linter.unusedSimpArgs false
namespace Hk
open Go
def callOk (P : Program) (f : FuncId) : Bool :=
  match P.funcs[f]? with
  | some fn => fn.name != "runtime.NumGoroutine" && fn.body.isSome
  | none => false
section
variable {P : Program} {ρ : Env} {w : World} {dst : Option Tmp} {ty : TypeId} {pos : String} {after : Array Edge} {guard : Option (Nat × Bool)}
theorem run_call {x : Operand} {args : Array Operand} {ats : Array TypeId} {f : FuncId} {first cap : Array Value} {vals : Array Value} (hx : ev ρ x = .func (.func f) first cap) (hok : callOk P f = true)
    (hv : (first.toList ++ args.toList.map (ev ρ) ++ cap.toList).toArray = vals) :
    (execOp (ev ρ) ⟨dst, .call { callee := .value x, args := args, argTypes := ats }, ty, pos, after, guard⟩).run P w = .ok (.enter f vals) w := by
  have hv : first ++ args.map (ev ρ) ++ cap = vals := by rw [← hv]; simp
  subst hv
  unfold callOk at hok
  cases hf : P.funcs[f]? with
  | none => simp [hf] at hok
  | some fn =>
    simp [hf] at hok
    obtain ⟨hn, hb⟩ := hok
    obtain ⟨bd, hbd⟩ := Option.isSome_iff_exists.1 hb
    simp [execOp, resolve, hx, Deferred.ofValue, invoke, callFunc, hf, hn, hbd, go_sem]
theorem add_none (b o k : Nat) : (⟨b, o, none⟩ : Addr).add k = ⟨b, o + k, none⟩ := Addr.add_lit b o k
theorem run_box {t : TypeId} {x : Operand} {v : Value} (hx : ev ρ x = v) :
    (execOp (ev ρ) ⟨dst, .box t x, ty, pos, after, guard⟩).run P w = .ok (.value (.pointer (some ⟨w.heap.size, 0, none⟩))) (w.alloc (.cells v.cells t)) := by
  subst hx
  simp [execOp, Instr.box, newVar, newRow, go_sem]
theorem run_alloc {t : TypeId} {z : Value} (hz : tyZero P t = some z) :
    (execOp (ev ρ) ⟨dst, .alloc t, ty, pos, after, guard⟩).run P w = .ok (.value (.pointer (some ⟨w.heap.size, 0, none⟩))) (w.alloc (.cells z.cells t)) := by
  unfold tyZero at hz
  cases hi : P.info? t with
  | none => simp [hi] at hz
  | some i => simp [hi] at hz; simp [execOp, Instr.alloc, zeroValue, typeInfo, hi, hz, newVar, newRow, go_sem]
theorem tySize_spec {t : TypeId} {n : Nat} (h : tySize P t = some n) : ∃ i, P.info? t = some i ∧ i.size = n := by
  unfold tySize at h
  cases hu : P.info? t with
  | none => simp [hu] at h
  | some d => simp [hu] at h; exact ⟨d, rfl, h⟩
theorem tyAgg_spec {t : TypeId} {b : Bool} (h : tyAgg P t = some b) : ∃ d, P.underlying t = some d ∧ descAgg d = b := by
  unfold tyAgg at h
  cases hu : P.underlying t with
  | none => simp [hu] at h
  | some d => exact ⟨d, rfl, by simpa [hu] using h⟩
theorem run_loadN {t : TypeId} {x : Operand} {ad : Addr} {n : Nat} {cs : List Value} (ht : tyAgg P t = some true) (hs : tySize P t = some n) (hl : cs.length = n) (hx : ev ρ x = .pointer (some ad))
    (hc : ∀ j v, cs[j]? = some v → w.cell? (ad.add j) = some v) :
    (execOp (ev ρ) ⟨dst, .load t x, ty, pos, after, guard⟩).run P w = .ok (.value (.agg cs.toArray)) w := by
  obtain ⟨d, hu, hd⟩ := tyAgg_spec ht
  obtain ⟨i, hi, rfl⟩ := tySize_spec hs
  have hr := run_loadCells_list (P := P) (w := w) ad cs hc
  rw [hl] at hr
  have hr' : (loadCellsFrom ad 0 i.size #[]).run P w = .ok cs.toArray w := hr
  cases d <;> simp [descAgg] at hd <;> simp [execOp, Instr.loadAt, Instr.sureAddr, hx, loadVar, isAgg, underlying, hu, Go.sizeOf, typeInfo, hi, hr, hr', go_sem]
theorem run_fieldAddr {t : TypeId} {x : Operand} {i off : Nat} {ft : TypeId} {b o : Nat} (ht : tyField P t i = some (off, ft)) (hx : ev ρ x = .pointer (some ⟨b, o, none⟩)) :
    (execOp (ev ρ) ⟨dst, .fieldAddr t x i, ty, pos, after, guard⟩).run P w = .ok (.value (.pointer (some ⟨b, o + off, none⟩))) w := by
  unfold tyField at ht
  cases hu : P.underlying t with
  | none => simp [hu] at ht
  | some d =>
    cases d <;> simp only [hu] at ht <;> try contradiction
    rename_i fs
    cases hf : fs[i]? with
    | none => simp [hf] at ht
    | some fd =>
      simp only [hf] at ht
      cases hi : P.info? fd.type with
      | none => simp [hi] at ht
      | some g =>
        simp only [hi] at ht
        split at ht <;> try contradiction
        rename_i hg
        simp only [Option.some.injEq, Prod.mk.injEq] at ht
        obtain ⟨rfl, rfl⟩ := ht
        simp [execOp, Instr.fieldAt, underlying, hu, hf, Instr.sureAddr, hx, fieldPlace, Go.sizeOf, typeInfo, hi, hg, add_none, go_sem]
def eAdr (A : Option Addr) (k : Nat) : Addr := ⟨(A.getD default).block, (A.getD default).off + k, none⟩
theorem run_indexAddr {t e : TypeId} {x ix : Operand} {A : Option Addr} {n c k : Nat} {i : Int} {b o : Nat} (ht : tyElem P t = some e) (hs : tySize P e = some k) (hx : ev ρ x = .slice A n c) (hi : ev ρ ix = .int .i64 i)
    (h0 : 0 ≤ i) (h1 : i.toNat < n) (hA : A = some ⟨b, o, none⟩) :
    (execOp (ev ρ) ⟨dst, .indexAddr t x ix, ty, pos, after, guard⟩).run P w = .ok (.value (.pointer (some (eAdr A (i.toNat * k))))) w := by
  subst hA
  have hu := tyElem_spec ht
  obtain ⟨g, hg, rfl⟩ := tySize_spec hs
  have hlt : i < (n : Int) := by omega
  simp [execOp, Instr.indexAt, hi, hx, asIntOf, underlying, hu, h0, hlt, Go.sizeOf, typeInfo, hg, add_none, eAdr, go_sem]
theorem run_len {t e : TypeId} {x : Operand} {A : Option Addr} {n c : Nat} (ht : tyElem P t = some e) (hx : ev ρ x = .slice A n c) :
    (execOp (ev ρ) ⟨dst, .call { callee := .builtin .len, args := #[x], argTypes := #[t] }, ty, pos, after, guard⟩).run P w = .ok (.value (.int .i64 n)) w := by
  have hu := tyElem_spec ht
  simp [execOp, resolve, invoke, builtin, Builtin.len_, underlying, hu, hx, goInt, go_sem]
theorem run_max {t u : TypeId} {x y : Operand} {k : IntKind} {a b : Int} (hx : ev ρ x = .int k a) (hy : ev ρ y = .int k b) :
    (execOp (ev ρ) ⟨dst, .call { callee := .builtin .max, args := #[x, y], argTypes := #[t, u] }, ty, pos, after, guard⟩).run P w = .ok (.value (.int k (gmax a b))) w := by
  simp [execOp, resolve, invoke, builtin, Builtin.max_, Builtin.max2, hx, hy, gmax, go_sem]
theorem run_min {t u : TypeId} {x y : Operand} {k : IntKind} {a b : Int} (hx : ev ρ x = .int k a) (hy : ev ρ y = .int k b) :
    (execOp (ev ρ) ⟨dst, .call { callee := .builtin .min, args := #[x, y], argTypes := #[t, u] }, ty, pos, after, guard⟩).run P w = .ok (.value (.int k (gmin a b))) w := by
  simp [execOp, resolve, invoke, builtin, Builtin.min_, Builtin.min2, hx, hy, gmin, go_sem]
theorem run_quo {t u : TypeId} {x y : Operand} {k : IntKind} {a b : Int} (hx : ev ρ x = .int k a) (hy : ev ρ y = .int k b) (hb : b ≠ 0) :
    (execOp (ev ρ) ⟨dst, .binOp .quo t x y u, ty, pos, after, guard⟩).run P w = .ok (.value (.int k (k.wrap (a.tdiv b)))) w := by
  simp [execOp, hx, hy, binOp, eqGuard, Op.intDiv, hb, go_sem]
theorem run_rem {t u : TypeId} {x y : Operand} {k : IntKind} {a b : Int} (hx : ev ρ x = .int k a) (hy : ev ρ y = .int k b) (hb : b ≠ 0) :
    (execOp (ev ρ) ⟨dst, .binOp .rem t x y u, ty, pos, after, guard⟩).run P w = .ok (.value (.int k (a.tmod b))) w := by
  simp [execOp, hx, hy, binOp, eqGuard, Op.intDiv, hb, go_sem]
theorem run_boolEq {t u : TypeId} {x y : Operand} {a b : Bool} (ht : P.underlying t = some .bool) (hx : ev ρ x = .bool a) (hy : ev ρ y = .bool b) :
    (execOp (ev ρ) ⟨dst, .binOp .eql t x y u, ty, pos, after, guard⟩).run P w = .ok (.value (.bool (a == b))) w := by
  have he : (Op.equal t (.bool a) (.bool b)).run P w = .ok (a == b) w := by
    have h1 : Op.equal t (.bool a) (.bool b) = Op.equalIn (9999 + 1) t (.bool a) (.bool b) := rfl
    rw [h1]
    generalize 9999 = d
    simp [Op.equalIn, underlying, ht, go_sem]
  simp [execOp, hx, hy, binOp, eqGuard, he, go_sem]
theorem run_pick_t {c a b : Operand} {x : Bool} {v : Value} (hc : ev ρ c = .bool x) (hb : x = true) (hv : ev ρ a = v) :
    (execOp (ev ρ) ⟨dst, .pick c a b, ty, pos, after, guard⟩).run P w = .ok (.value v) w := by
  subst hb hv
  simp [execOp, hc, go_sem]
theorem run_pick_f {c a b : Operand} {x : Bool} {v : Value} (hc : ev ρ c = .bool x) (hb : x = false) (hv : ev ρ b = v) :
    (execOp (ev ρ) ⟨dst, .pick c a b, ty, pos, after, guard⟩).run P w = .ok (.value v) w := by
  subst hb hv
  simp [execOp, hc, go_sem]
end
end Hk
set_option linter.unusedVariables false
set_option linter.unusedSimpArgs false
namespace Hk
open Go
def idx {α : Type} (xs : List α) (i : Int) : Option α := if 0 ≤ i then xs[i.toNat]? else none
theorem idx_spec {α : Type} {xs : List α} {i : Int} {x : α} (h : idx xs i = some x) : 0 ≤ i ∧ i.toNat < xs.length ∧ xs[i.toNat]? = some x := by
  unfold idx at h
  split at h
  · rename_i h0; exact ⟨h0, (List.getElem?_eq_some_iff.1 h).1, h⟩
  · cases h
def setI {α : Type} (xs : List α) (i : Int) (v : α) : List α := xs.set i.toNat v
def splice (cur : Array Value) (a : Nat) (news : List Value) : Array Value := (cur.toList.take a ++ news ++ cur.toList.drop (a + news.length)).toArray
theorem splice_size {cur : Array Value} {a : Nat} {news : List Value} (h : a + news.length ≤ cur.size) : (splice cur a news).size = cur.size := by
  simp [splice]; omega
theorem splice_in {cur : Array Value} {a : Nat} {news : List Value} (h : a + news.length ≤ cur.size) {j : Nat} {v : Value} (hj : news[j]? = some v) : (splice cur a news)[a + j]? = some v := by
  have hlt := (List.getElem?_eq_some_iff.1 hj).1
  have h1 : (cur.toList.take a).length = a := by simp; omega
  simp only [splice, List.getElem?_toArray]
  rw [List.append_assoc, List.getElem?_append_right (by omega), h1, List.getElem?_append_left (by omega)]
  rw [show a + j - a = j by omega]; exact hj
theorem splice_out {cur : Array Value} {a : Nat} {news : List Value} (h : a + news.length ≤ cur.size) {j : Nat} (hj : j < a ∨ a + news.length ≤ j) : (splice cur a news)[j]? = cur[j]? := by
  have h1 : (cur.toList.take a).length = a := by simp; omega
  simp only [splice, List.getElem?_toArray]
  rcases hj with hj | hj
  · rw [List.append_assoc, List.getElem?_append_left (by omega), List.getElem?_take_of_lt hj]; simp
  · rw [List.getElem?_append_right (by simp; omega), List.getElem?_drop]
    rw [show a + news.length + (j - (List.take a cur.toList ++ news).length) = j by simp; omega]
    simp
theorem cell_of {w : World} {b j : Nat} {cur : Array Value} {ty : TypeId} {fr : Nat × Nat} (h : w.heap[b]? = some (.cells cur ty fr)) : w.cell? ⟨b, j, none⟩ = cur[j]? := by
  simp [World.cell?, h]
section
variable {P : Program} {ρ : Env} {w : World} {dst : Option Tmp} {ty : TypeId} {pos : String} {after : Array Edge} {guard : Option (Nat × Bool)}
theorem run_store {t : TypeId} {a x : Operand} {b j : Nat} {v : Value} {cur : Array Value} {bt : TypeId} (ha : ev ρ a = .pointer (some ⟨b, j, none⟩)) (hx : ev ρ x = v) (hs : tySize P t = some v.cells.size)
    (hb : w.heap[b]? = some (.cells cur bt (0, 0))) (hj : j + v.cells.size ≤ cur.size) (h1 : ∀ u ∈ v.cells.toList, u.oneCell' = true) :
    (execOp (ev ρ) ⟨dst, .store t a x, ty, pos, after, guard⟩).run P w = .ok .skip (w.setRow b (splice cur j v.cells.toList)) := by
  subst hx
  obtain ⟨i, hi, hsz⟩ := tySize_spec hs
  have hsv : (storeVar t ⟨b, j, none⟩ (ev ρ x)).run P w = .ok () (w.setRow b (splice cur j (ev ρ x).cells.toList)) := by
    unfold storeVar
    generalize (ev ρ x).cells = cs at *
    have hst := run_storeCells_at P b j bt cs.toList 0 cur w hb (by simpa using hj) h1
    simp only [Nat.add_zero] at hst
    simp [Go.sizeOf, typeInfo, hi, hsz, go_sem, hst, splice]
  have e1 : execOp (ev ρ) ⟨dst, .store t a x, ty, pos, after, guard⟩ = (Instr.storeAt t (ev ρ a) (ev ρ x)).bind (fun _ => .pure .skip) := rfl
  rw [e1, ha]
  show ((storeVar t ⟨b, j, none⟩ (ev ρ x)).bind (fun _ => Sem.pure Next.skip)).run P w = _
  rw [Sem.run_bind', hsv]
  rfl
end
section
variable {G w w' : World} {f : HP} {L : List HProp}
theorem wd_new {cs : Array Value} {t : TypeId} (h : Wd G w f L) : Wd G (w.alloc (.cells cs t)) f (Blk w.heap.size (.cells cs t (0, 0)) :: L) := by
  have hnew : wh (w.alloc (.cells cs t)) w.heap.size = some (.cells cs t (0, 0)) := heap_alloc_new w _
  have hold : ∀ b, wh w b ≠ none → wh (w.alloc (.cells cs t)) b = wh w b := fun b hb => by
    have : b < w.heap.size := by
      cases hx : wh w b with
      | none => exact absurd hx hb
      | some o => exact (Array.getElem?_eq_some_iff.1 hx).1
    exact heap_alloc_old w _ this
  have hn : wh w w.heap.size = none := by simp [wh]
  refine ⟨h.os, h.tape, h.output, fun b o hf => ?_, fun b => b = w.heap.size, ⟨rfl, hnew⟩, fun b hb => ⟨?_, ?_⟩, ?_⟩
  · have := h.fro b o hf; rw [hold b (by rw [this]; simp)]; exact this
  · subst hb
    cases hf : f w.heap.size with
    | none => rfl
    | some o => have := h.fro _ o hf; rw [hn] at this; cases this
  · subst hb; rw [hnew]; simp
  · exact SepL.keep' h.sep (fun b _ hb => hold b hb) (fun b hb hb' => ⟨hb, fun e => by subst e; exact hb' hn⟩)
theorem wd_blk {b : Nat} {o : Obj} (i : Nat) (h : Wd G w f L) (hi : L[i]? = some (Blk b o)) : w.heap[b]? = some o := by
  obtain ⟨S, ⟨_, h1⟩, _⟩ := (h.front i hi).sep
  exact h1
theorem wh_setRow (w : World) (b : Nat) (cur new : Array Value) (t : TypeId) (fr : Nat × Nat) (hb : w.heap[b]? = some (.cells cur t fr)) :
    wh (w.setRow b new) b = some (.cells new t fr) ∧ ∀ c, c ≠ b → wh (w.setRow b new) c = wh w c :=
  ⟨setRow_heap w b cur new t fr hb, fun c hc => setRow_other w b c new hc⟩
theorem wd_setBlk0 {b : Nat} {cs new : Array Value} {t : TypeId} (h : Wd G w f (Blk b (.cells cs t (0, 0)) :: L)) : Wd G (w.setRow b new) f (Blk b (.cells new t (0, 0)) :: L) := by
  have hb := wd_blk 0 h rfl
  obtain ⟨k1, k2⟩ := wh_setRow w b cs new t (0, 0) hb
  refine h.step0 rfl rfl rfl fun S hS hne => ⟨S, ⟨hS.1, k1⟩, fun c hc => ⟨.inl hc, ?_⟩, fun c hc _ => k2 c (fun e => by subst e; exact hc hS.1)⟩
  by_cases e : c = b
  · subst e; rw [k1]; simp
  · rw [k2 c e]; exact hne c hc
theorem SepL.unfront {f h : HP} : ∀ (i : Nat) {L : List HProp} {A' : HProp}, i < L.length → ∀ {av : Foot}, SepL f h (A' :: L.eraseIdx i) av → SepL f h (L.set i A') av
  | _, [], _, hi, _, _ => by simp at hi
  | 0, B :: L, A', hi, av, hs => hs
  | i + 1, B :: L, A', hi, av, hs => by
    have h1 : SepL f h (B :: A' :: L.eraseIdx i) av := SepL.swap hs
    exact SepL.cons (fun av' hs' => SepL.unfront i (by simpa using hi) hs') h1
theorem wd_at (i : Nat) {A A' : HProp} (hi : L[i]? = some A) (hs : ∀ L', Wd G w f (A :: L') → Wd G w' f (A' :: L')) (h : Wd G w f L) : Wd G w' f (L.set i A') := by
  have h1 := h.front i hi
  have h2 := hs _ h1
  have hlt := (List.getElem?_eq_some_iff.1 hi).1
  have h3 := SepL.unfront i hlt h2.sep
  exact ⟨h2.os, h2.tape, h2.output, h2.fro, h3⟩
theorem wd_setBlk {b : Nat} {cs new : Array Value} {t : TypeId} (i : Nat) (h : Wd G w f L) (hi : L[i]? = some (Blk b (.cells cs t (0, 0)))) :
    Wd G (w.setRow b new) f (L.set i (Blk b (.cells new t (0, 0)))) := wd_at i hi (fun L' h' => wd_setBlk0 h') h
def Hole {α : Type} (A : Option Addr) (c : Nat) (E : ORel α) (xs : List α) (k : Nat) (es : List Value) : HProp :=
  ⟨fun f h S => xs.length ≤ c ∧ c ≤ maxLen ∧ k < xs.length ∧ es.length = E.fz.n ∧ ∃ b o cur ty, A = some ⟨b, o, none⟩ ∧ S b ∧ h b = some (.cells cur ty (0, 0)) ∧ o + c * E.fz.n ≤ cur.size ∧
    (∀ j v, es[j]? = some v → cur[o + k * E.fz.n + j]? = some v) ∧
    ∃ F : Nat → Foot, (∀ i b', F i b' → S b' ∧ b' ≠ b) ∧ (∀ i j b', i ≠ j → F i b' → ¬ F j b') ∧
      ∀ i x, i ≠ k → xs[i]? = some x → ∃ es, (∀ j v, es[j]? = some v → cur[o + i * E.fz.n + j]? = some v) ∧ E.p f h es x (F i),
   fun ⟨h1, h2, h3, h4, b, o, cur, ty, e, hb, hc, hz, hes, F, k1, k2, k3⟩ hs => ⟨h1, h2, h3, h4, b, o, cur, ty, e, hb, (hs b hb).trans hc, hz, hes, F, k1, k2,
     fun i x hi hx => let ⟨es, e1, e2⟩ := k3 i x hi hx; ⟨es, e1, E.loc e2 (fun b' hb' => hs b' (k1 i b' hb').1)⟩⟩,
   fun hl ⟨h1, h2, h3, h4, b, o, cur, ty, e, hb, hc, hz, hes, F, k1, k2, k3⟩ => ⟨h1, h2, h3, h4, b, o, cur, ty, e, hb, hc, hz, hes, F, k1, k2,
     fun i x hi hx => let ⟨es, e1, e2⟩ := k3 i x hi hx; ⟨es, e1, E.mono hl e2⟩⟩⟩
theorem oSl_inv {α : Type} {E : ORel α} {A : Option Addr} {n c : Nat} {xs : List α} {f h : HP} {S : Foot} (hs : (oSl E).p f h [.slice A n c] xs S) : n = xs.length ∧ SlO f h E A c xs S := by
  obtain ⟨A', c', e, hs⟩ := hs
  simp at e
  obtain ⟨rfl, rfl, rfl⟩ := e
  exact ⟨rfl, hs⟩
theorem wd_take {α : Type} {E : ORel α} {A : Option Addr} {n c : Nat} {xs : List α} {k : Nat} {x : α} (h : Wd G w f (Hv [.slice A n c] (oSl E) xs :: L)) (hx : xs[k]? = some x) :
    ∃ es, Wd G w f (Hole A c E xs k es :: Hv es E x :: L) ∧ ∃ b o, A = some ⟨b, o, none⟩ ∧ ∀ j v, es[j]? = some v → w.cell? ⟨b, o + k * E.fz.n + j, none⟩ = some v := by
  obtain ⟨S, h1, h2, h3⟩ := h.sep
  obtain ⟨_, k1, k2, k3⟩ := oSl_inv h1
  have hlt := (List.getElem?_eq_some_iff.1 hx).1
  rcases k3 with rfl | ⟨b, o, cur, ty, rfl, hb, hc, hz, F, e1, e2, e3⟩
  · omega
  obtain ⟨es, he, hr⟩ := e3 k x hx
  refine ⟨es, ⟨h.os, h.tape, h.output, h.fro, fun b' => S b' ∧ ¬ F k b', ⟨k1, k2, hlt, E.len hr, b, o, cur, ty, rfl, ⟨hb, fun hf => (e1 k b hf).2 rfl⟩, hc, hz, he,
      fun i b' => i ≠ k ∧ F i b', fun i b' hf => ⟨⟨(e1 i b' hf.2).1, fun hk => e2 i k b' hf.1 hf.2 hk⟩, (e1 i b' hf.2).2⟩, fun i j b' hij hf hf' => e2 i j b' hij hf.2 hf'.2, fun i x hi hx => ?_⟩,
      fun b' hb' => ⟨(h2 b' hb'.1).1, (h2 b' hb'.1).2⟩, F k, hr, fun b' hb' => ⟨⟨(h2 b' (e1 k b' hb').1).1, fun hn => hn.2 hb'⟩, (h2 b' (e1 k b' hb').1).2⟩, ?_⟩, b, o, rfl, fun j v hv => ?_⟩
  · obtain ⟨es', f1, f2⟩ := e3 i x hx
    exact ⟨es', f1, E.loc' f2 (fun b' hb' => ⟨hi, hb'⟩)⟩
  · exact SepL.weaken (fun b' hb' => ⟨⟨hb'.1, fun hn => hb'.2 hn.1⟩, fun hn => hb'.2 (e1 k b' hn).1⟩) h3
  · rw [cell_of hc]; exact he j v hv
theorem wd_put {α : Type} {E : ORel α} {A : Option Addr} {n c : Nat} {xs : List α} {k : Nat} {es : List Value} {x : α} (hn : n = xs.length) (h : Wd G w f (Hole A c E xs k es :: Hv es E x :: L)) :
    Wd G w f (Hv [.slice A n c] (oSl E) (xs.set k x) :: L) := by
  subst hn
  obtain ⟨S, ⟨k1, k2, hlt, hes, b, o, cur, ty, rfl, hb, hc, hz, he, F, e1, e2, e3⟩, h2, T, hT, t2, h3⟩ := h.sep
  refine ⟨h.os, h.tape, h.output, h.fro, fun b' => S b' ∨ T b', ⟨some ⟨b, o, none⟩, c, by simp, by simpa using k1, k2, .inr ⟨b, o, cur, ty, rfl, .inl hb, hc, hz,
      fun i b' => (i = k ∧ T b') ∨ (i ≠ k ∧ F i b'), fun i b' hf => ?_, fun i j b' hij hf hf' => ?_, fun i y hy => ?_⟩⟩, fun b' hb' => ?_, ?_⟩
  · rcases hf with ⟨_, hf⟩ | ⟨_, hf⟩
    · exact ⟨.inr hf, fun e => by subst e; exact (t2 _ hf).1.2 hb⟩
    · exact ⟨.inl (e1 i b' hf).1, (e1 i b' hf).2⟩
  · rcases hf with ⟨e, hf⟩ | ⟨e, hf⟩ <;> rcases hf' with ⟨e', hf'⟩ | ⟨e', hf'⟩
    · omega
    · exact (t2 _ hf).1.2 (e1 j b' hf').1
    · exact (t2 _ hf').1.2 (e1 i b' hf).1
    · exact e2 i j b' hij hf hf'
  · by_cases hik : i = k
    · subst hik
      rw [List.getElem?_set_self hlt] at hy
      cases hy
      exact ⟨es, he, E.loc' hT (fun b' hb' => .inl ⟨rfl, hb'⟩)⟩
    · rw [List.getElem?_set_ne (Ne.symm hik)] at hy
      obtain ⟨es', f1, f2⟩ := e3 i y hik hy
      exact ⟨es', f1, E.loc' f2 (fun b' hb' => .inr ⟨hik, hb'⟩)⟩
  · rcases hb' with hb' | hb'
    · exact ⟨(h2 b' hb').1, (h2 b' hb').2⟩
    · exact ⟨(t2 b' hb').1.1, (t2 b' hb').2⟩
  · refine SepL.weaken (fun b' hb' => ⟨hb'.1.1, fun hn => ?_⟩) h3
    rcases hn with hn | hn
    · exact hb'.1.2 hn
    · exact hb'.2 hn
theorem wd_hole_set {α : Type} {E : ORel α} {A : Option Addr} {c : Nat} {xs : List α} {k : Nat} {es news : List Value} (h : Wd G w f (Hole A c E xs k es :: L)) (hn : news.length = E.fz.n) :
    ∃ b o cur ty, A = some ⟨b, o, none⟩ ∧ w.heap[b]? = some (.cells cur ty (0, 0)) ∧ o + k * E.fz.n + news.length ≤ cur.size ∧
      Wd G (w.setRow b (splice cur (o + k * E.fz.n) news)) f (Hole A c E xs k news :: L) := by
  obtain ⟨S, ⟨k1, k2, hlt, hes, b, o, cur, ty, rfl, hb, hc, hz, he, F, e1, e2, e3⟩, h2, h3⟩ := h.sep
  have hfit : o + k * E.fz.n + news.length ≤ cur.size := by
    have : (k + 1) * E.fz.n ≤ c * E.fz.n := Nat.mul_le_mul_right _ (by omega)
    rw [Nat.add_mul] at this
    omega
  obtain ⟨s1, s2⟩ := wh_setRow w b cur (splice cur (o + k * E.fz.n) news) ty (0, 0) hc
  refine ⟨b, o, cur, ty, rfl, hc, hfit, h.step0 rfl rfl rfl fun S' hS' hne => ?_⟩
  clear e1 e2 e3 he hes F
  obtain ⟨k1, k2, hlt, hes, b', o', cur', ty', e, hb, hc', hz, he, F, e1, e2, e3⟩ := hS'
  simp at e
  obtain ⟨rfl, rfl⟩ := e
  have hcc : cur' = cur := by
    have : wh w b = some (.cells cur ty (0, 0)) := hc
    rw [this] at hc'; simp at hc'; exact hc'.1.symm
  subst hcc
  refine ⟨S', ⟨k1, k2, hlt, hn, b, o, _, ty, rfl, hb, s1, by rw [splice_size hfit]; exact hz, fun j v hv => splice_in hfit hv, F, e1, e2, fun i x hi hx => ?_⟩, fun b' hb' => ⟨.inl hb', ?_⟩,
    fun b' hb' _ => s2 b' (fun e => by subst e; exact hb' hb)⟩
  · obtain ⟨es', f1, f2⟩ := e3 i x hi hx
    refine ⟨es', fun j v hv => ?_, E.loc f2 (fun b' hb' => s2 b' (e1 i b' hb').2)⟩
    have hj : j < E.fz.n := by rw [← E.len f2]; exact (List.getElem?_eq_some_iff.1 hv).1
    rw [splice_out hfit]
    · exact f1 j v hv
    · rcases Nat.lt_or_ge i k with hik | hik
      · left
        have : (i + 1) * E.fz.n ≤ k * E.fz.n := Nat.mul_le_mul_right _ hik
        rw [Nat.add_mul] at this; omega
      · right
        have : (k + 1) * E.fz.n ≤ i * E.fz.n := Nat.mul_le_mul_right _ (by omega)
        rw [Nat.add_mul] at this; omega
  · by_cases e : b' = b
    · subst e; rw [s1]; simp
    · rw [s2 b' e]; exact hne b' hb'
end
end Hk
