/- What each operation gives: pure ones by one function; the others by a law each. -/
import Derived.Test.YtcidamhhffgipaaHkA
set_option linter.unusedVariables false
set_option linter.unusedSimpArgs false
namespace Hk
open Go

abbrev w64 (x : Int) : Int := IntKind.i64.wrap x
def gmax (x y : Int) : Int := if y > x then y else x
def gmin (x y : Int) : Int := if y < x then y else x
theorem gmax_eq (x y : Int) : gmax x y = max x y := by unfold gmax; omega
/-- two whole numbers of a kind -/
def ibin (op : BinOp) (k : IntKind) (a b : Int) : Option Value :=
  match op with
  | .add => some (.int k (k.wrap (a + b)))
  | .sub => some (.int k (k.wrap (a - b)))
  | .mul => some (.int k (k.wrap (a * b)))
  | .eql => some (.bool (a == b))
  | .neq => some (.bool (a != b))
  | .lss => some (.bool (decide (a < b)))
  | .leq => some (.bool (decide (a ≤ b)))
  | .gtr => some (.bool (decide (a > b)))
  | .geq => some (.bool (decide (a ≥ b)))
  | .and => some (.int k (k.wrap ((BitVec.ofInt k.bits a &&& BitVec.ofInt k.bits b).toNat)))
  | .or => some (.int k (k.wrap ((BitVec.ofInt k.bits a ||| BitVec.ofInt k.bits b).toNat)))
  | .xor => some (.int k (k.wrap ((BitVec.ofInt k.bits a ^^^ BitVec.ofInt k.bits b).toNat)))
  | _ => none
def pev (ρ : Env) : Op → Option Value
  | .move x => some (ev ρ x)
  | .assign x => some (ev ρ x)
  | .pick c a b => match ev ρ c with | .bool t => some (cond t (ev ρ a) (ev ρ b)) | _ => none
  | .binOp op _ x y _ => match ev ρ x, ev ρ y with
    | .int k a, .int k' b => if k = k' then ibin op k a b else none
    | _, _ => none
  | .unOp op _ x => match op, ev ρ x with
    | .not, .bool b => some (.bool (!b))
    | .neg, .int k a => some (.int k (k.wrap (0 - a)))
    | _, _ => none
  | .makeFunc fn first cap => some (.func fn (first.toList.map (ev ρ)).toArray (cap.toList.map (ev ρ)).toArray)
  | .extract t i => match ev ρ t with | .tuple vs => vs[i]? | _ => none
  | .nilCheck x => match ev ρ x with | .pointer (some a) => some (.pointer (some a)) | _ => none
  | _ => none

section
variable {P : Program} {ρ : Env} {o : Oper} {w : World}
theorem run_pev {v : Value} (h : pev ρ o.op = some v) : (execOp (ev ρ) o).run P w = .ok (.value v) w := by
  obtain ⟨dst, op, ty, pos, after, guard⟩ := o
  simp only at h
  cases op with
  | move x => simp only [pev, Option.some.injEq] at h; subst h; rfl
  | assign x => simp only [pev, Option.some.injEq] at h; subst h; rfl
  | pick c a b =>
    simp only [pev] at h
    cases hc : ev ρ c <;> simp only [hc] at h <;> try contradiction
    rename_i t
    injection h with h; subst h
    cases t <;> simp [execOp, hc, go_sem]
  | binOp op t x y u =>
    simp only [pev] at h
    cases hx : ev ρ x <;> cases hy : ev ρ y <;> simp only [hx, hy] at h <;> try contradiction
    rename_i k a k' b
    split at h <;> try contradiction
    rename_i hk
    subst hk
    cases op <;> simp only [ibin] at h <;> try contradiction
    all_goals
      injection h with h; subst h
      simp [execOp, hx, hy, binOp, eqGuard, Op.intArith, Op.intCmp, Op.intBits, go_sem]
  | unOp op t x =>
    simp only [pev] at h
    cases op <;> cases hx : ev ρ x <;> simp only [hx] at h <;> try contradiction
    all_goals
      injection h with h; subst h
      simp [execOp, hx, Op.unary, Op.intArith, go_sem]
  | makeFunc fn first cap => simp only [pev, Option.some.injEq] at h; subst h; simp [execOp, Instr.makeFunc, go_sem, ← Array.toList_map]
  | extract t i =>
    simp only [pev] at h
    cases hx : ev ρ t <;> simp only [hx] at h <;> try contradiction
    simp [execOp, hx, Instr.extract, h, go_sem]
  | nilCheck x =>
    simp only [pev] at h
    cases hx : ev ρ x <;> simp only [hx] at h <;> try contradiction
    rename_i p
    cases p <;> simp only at h <;> try contradiction
    injection h with h; subst h
    simp [execOp, hx, go_sem]
  | _ => simp [pev] at h
end

/-! ### facts of the table of types, as Bools and numbers that the kernel reckons -/
def descAgg : TypeDesc → Bool
  | .struct _ => true
  | .array _ _ => true
  | _ => false
def tyAgg (P : Program) (t : TypeId) : Option Bool := (P.underlying t).map descAgg
def tySize (P : Program) (t : TypeId) : Option Nat := (P.info? t).map (·.size)
def tyBytes (P : Program) (t : TypeId) : Option Nat := (P.info? t).map (·.bytes)
def tyZero (P : Program) (t : TypeId) : Option Value := (P.info? t).bind (·.zero)
def tyElem (P : Program) (t : TypeId) : Option TypeId := (P.underlying t).bind fun | .slice e => some e | _ => none
/-- the offset of a struct's field, where the field has cells -/
def tyField (P : Program) (t : TypeId) (i : Nat) : Option (Nat × TypeId) :=
  match P.underlying t with
  | some (.struct fs) => match fs[i]? with
    | some f => match P.info? f.type with | some g => if g.size = 0 then none else some (f.offset, f.type) | none => none
    | none => none
  | _ => none

section
variable {P : Program} {ρ : Env} {w : World} {dst : Option Tmp} {ty : TypeId} {pos : String} {after : Array Edge} {guard : Option (Nat × Bool)}

theorem tyElem_spec {t e : TypeId} (h : tyElem P t = some e) : P.underlying t = some (.slice e) := by
  unfold tyElem at h
  cases hu : P.underlying t with
  | none => simp [hu] at h
  | some d => cases d <;> simp [hu] at h; subst h; rfl
theorem isAgg_spec {t : TypeId} {b : Bool} (h : tyAgg P t = some b) : (isAgg t).run P w = .ok b w := by
  unfold tyAgg at h
  cases hu : P.underlying t with
  | none => simp [hu] at h
  | some d => cases d <;> simp [hu, descAgg] at h <;> subst h <;> simp [isAgg, hu, go_sem, underlying]
theorem sizeOf_spec {t : TypeId} {n : Nat} (h : tySize P t = some n) : (Go.sizeOf t).run P w = .ok n w := by
  unfold tySize at h
  cases hu : P.info? t with
  | none => simp [hu] at h
  | some d => simp [hu] at h; subst h; simp [Go.sizeOf, typeInfo, hu, go_sem]

theorem run_load1 {t : TypeId} {x : Operand} {ad : Addr} {v : Value} (ht : tyAgg P t = some false) (hx : ev ρ x = .pointer (some ad)) (hc : w.cell? ad = some v) :
    (execOp (ev ρ) ⟨dst, .load t x, ty, pos, after, guard⟩).run P w = .ok (.value v) w := by
  have hu : ∃ d, P.underlying t = some d ∧ descAgg d = false := by
    unfold tyAgg at ht
    cases hu : P.underlying t with
    | none => simp [hu] at ht
    | some d => exact ⟨d, rfl, by simpa [hu] using ht⟩
  obtain ⟨d, hu, hd⟩ := hu
  cases d <;> simp [descAgg] at hd <;> simp [execOp, Instr.loadAt, Instr.sureAddr, hx, loadVar, isAgg, underlying, hu, hc, go_sem]
end
end Hk
