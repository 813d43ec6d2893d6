/- The operations that read and write memory, call, build and slice: what each gives. -/
import Derived.Test.YtcidamhhffgipaaHkC
set_option linter.unusedVariables false
set_option linter.unusedSimpArgs false
namespace Hk
open Go

def callOk (P : Program) (f : FuncId) : Bool :=
  match P.funcs[f]? with
  | some fn => fn.name != "runtime.NumGoroutine" && fn.body.isSome
  | none => false

section
variable {P : Program} {ρ : Env} {w : World} {dst : Option Tmp} {ty : TypeId} {pos : String} {after : Array Edge} {guard : Option (Nat × Bool)}

theorem run_call {x : Operand} {args : Array Operand} {ats : Array TypeId} {f : FuncId} {first cap : Array Value} {vals : Array Value} (hx : ev ρ x = .func (.func f) first cap) (hok : callOk P f = true)
    (hv : (first.toList ++ args.toList.map (ev ρ) ++ cap.toList).toArray = vals) :
    (execOp (ev ρ) ⟨dst, .call { callee := .value x, args := args, argTypes := ats }, ty, pos, after, guard⟩).run P w = .ok (.enter f vals) w := by
  have hv : first ++ args.map (ev ρ) ++ cap = vals := by rw [← hv]; simp
  subst hv
  unfold callOk at hok
  cases hf : P.funcs[f]? with
  | none => simp [hf] at hok
  | some fn =>
    simp [hf] at hok
    obtain ⟨hn, hb⟩ := hok
    obtain ⟨bd, hbd⟩ := Option.isSome_iff_exists.1 hb
    simp [execOp, resolve, hx, Deferred.ofValue, invoke, callFunc, hf, hn, hbd, go_sem]

theorem add_none (b o k : Nat) : (⟨b, o, none⟩ : Addr).add k = ⟨b, o + k, none⟩ := Addr.add_lit b o k
theorem run_box {t : TypeId} {x : Operand} {v : Value} (hx : ev ρ x = v) :
    (execOp (ev ρ) ⟨dst, .box t x, ty, pos, after, guard⟩).run P w = .ok (.value (.pointer (some ⟨w.heap.size, 0, none⟩))) (w.alloc (.cells v.cells t)) := by
  subst hx
  simp [execOp, Instr.box, newVar, newRow, go_sem]
theorem run_alloc {t : TypeId} {z : Value} (hz : tyZero P t = some z) :
    (execOp (ev ρ) ⟨dst, .alloc t, ty, pos, after, guard⟩).run P w = .ok (.value (.pointer (some ⟨w.heap.size, 0, none⟩))) (w.alloc (.cells z.cells t)) := by
  unfold tyZero at hz
  cases hi : P.info? t with
  | none => simp [hi] at hz
  | some i => simp [hi] at hz; simp [execOp, Instr.alloc, zeroValue, typeInfo, hi, hz, newVar, newRow, go_sem]
theorem tySize_spec {t : TypeId} {n : Nat} (h : tySize P t = some n) : ∃ i, P.info? t = some i ∧ i.size = n := by
  unfold tySize at h
  cases hu : P.info? t with
  | none => simp [hu] at h
  | some d => simp [hu] at h; exact ⟨d, rfl, h⟩
theorem tyAgg_spec {t : TypeId} {b : Bool} (h : tyAgg P t = some b) : ∃ d, P.underlying t = some d ∧ descAgg d = b := by
  unfold tyAgg at h
  cases hu : P.underlying t with
  | none => simp [hu] at h
  | some d => exact ⟨d, rfl, by simpa [hu] using h⟩
theorem run_loadN {t : TypeId} {x : Operand} {ad : Addr} {n : Nat} {cs : List Value} (ht : tyAgg P t = some true) (hs : tySize P t = some n) (hl : cs.length = n) (hx : ev ρ x = .pointer (some ad))
    (hc : ∀ j v, cs[j]? = some v → w.cell? (ad.add j) = some v) :
    (execOp (ev ρ) ⟨dst, .load t x, ty, pos, after, guard⟩).run P w = .ok (.value (.agg cs.toArray)) w := by
  obtain ⟨d, hu, hd⟩ := tyAgg_spec ht
  obtain ⟨i, hi, rfl⟩ := tySize_spec hs
  have hr := run_loadCells_list (P := P) (w := w) ad cs hc
  rw [hl] at hr
  have hr' : (loadCellsFrom ad 0 i.size #[]).run P w = .ok cs.toArray w := hr
  cases d <;> simp [descAgg] at hd <;> simp [execOp, Instr.loadAt, Instr.sureAddr, hx, loadVar, isAgg, underlying, hu, Go.sizeOf, typeInfo, hi, hr, hr', go_sem]
theorem run_fieldAddr {t : TypeId} {x : Operand} {i off : Nat} {ft : TypeId} {b o : Nat} (ht : tyField P t i = some (off, ft)) (hx : ev ρ x = .pointer (some ⟨b, o, none⟩)) :
    (execOp (ev ρ) ⟨dst, .fieldAddr t x i, ty, pos, after, guard⟩).run P w = .ok (.value (.pointer (some ⟨b, o + off, none⟩))) w := by
  unfold tyField at ht
  cases hu : P.underlying t with
  | none => simp [hu] at ht
  | some d =>
    cases d <;> simp only [hu] at ht <;> try contradiction
    rename_i fs
    cases hf : fs[i]? with
    | none => simp [hf] at ht
    | some fd =>
      simp only [hf] at ht
      cases hi : P.info? fd.type with
      | none => simp [hi] at ht
      | some g =>
        simp only [hi] at ht
        split at ht <;> try contradiction
        rename_i hg
        simp only [Option.some.injEq, Prod.mk.injEq] at ht
        obtain ⟨rfl, rfl⟩ := ht
        simp [execOp, Instr.fieldAt, underlying, hu, hf, Instr.sureAddr, hx, fieldPlace, Go.sizeOf, typeInfo, hi, hg, add_none, go_sem]
def eAdr (A : Option Addr) (k : Nat) : Addr := ⟨(A.getD default).block, (A.getD default).off + k, none⟩
theorem run_indexAddr {t e : TypeId} {x ix : Operand} {A : Option Addr} {n c k : Nat} {i : Int} {b o : Nat} (ht : tyElem P t = some e) (hs : tySize P e = some k) (hx : ev ρ x = .slice A n c) (hi : ev ρ ix = .int .i64 i)
    (h0 : 0 ≤ i) (h1 : i.toNat < n) (hA : A = some ⟨b, o, none⟩) :
    (execOp (ev ρ) ⟨dst, .indexAddr t x ix, ty, pos, after, guard⟩).run P w = .ok (.value (.pointer (some (eAdr A (i.toNat * k))))) w := by
  subst hA
  have hu := tyElem_spec ht
  obtain ⟨g, hg, rfl⟩ := tySize_spec hs
  have hlt : i < (n : Int) := by omega
  simp [execOp, Instr.indexAt, hi, hx, asIntOf, underlying, hu, h0, hlt, Go.sizeOf, typeInfo, hg, add_none, eAdr, go_sem]
theorem run_len {t e : TypeId} {x : Operand} {A : Option Addr} {n c : Nat} (ht : tyElem P t = some e) (hx : ev ρ x = .slice A n c) :
    (execOp (ev ρ) ⟨dst, .call { callee := .builtin .len, args := #[x], argTypes := #[t] }, ty, pos, after, guard⟩).run P w = .ok (.value (.int .i64 n)) w := by
  have hu := tyElem_spec ht
  simp [execOp, resolve, invoke, builtin, Builtin.len_, underlying, hu, hx, goInt, go_sem]
theorem run_max {t u : TypeId} {x y : Operand} {k : IntKind} {a b : Int} (hx : ev ρ x = .int k a) (hy : ev ρ y = .int k b) :
    (execOp (ev ρ) ⟨dst, .call { callee := .builtin .max, args := #[x, y], argTypes := #[t, u] }, ty, pos, after, guard⟩).run P w = .ok (.value (.int k (gmax a b))) w := by
  simp [execOp, resolve, invoke, builtin, Builtin.max_, Builtin.max2, hx, hy, gmax, go_sem]
theorem run_min {t u : TypeId} {x y : Operand} {k : IntKind} {a b : Int} (hx : ev ρ x = .int k a) (hy : ev ρ y = .int k b) :
    (execOp (ev ρ) ⟨dst, .call { callee := .builtin .min, args := #[x, y], argTypes := #[t, u] }, ty, pos, after, guard⟩).run P w = .ok (.value (.int k (gmin a b))) w := by
  simp [execOp, resolve, invoke, builtin, Builtin.min_, Builtin.min2, hx, hy, gmin, go_sem]
theorem run_quo {t u : TypeId} {x y : Operand} {k : IntKind} {a b : Int} (hx : ev ρ x = .int k a) (hy : ev ρ y = .int k b) (hb : b ≠ 0) :
    (execOp (ev ρ) ⟨dst, .binOp .quo t x y u, ty, pos, after, guard⟩).run P w = .ok (.value (.int k (k.wrap (a.tdiv b)))) w := by
  simp [execOp, hx, hy, binOp, eqGuard, Op.intDiv, hb, go_sem]
theorem run_rem {t u : TypeId} {x y : Operand} {k : IntKind} {a b : Int} (hx : ev ρ x = .int k a) (hy : ev ρ y = .int k b) (hb : b ≠ 0) :
    (execOp (ev ρ) ⟨dst, .binOp .rem t x y u, ty, pos, after, guard⟩).run P w = .ok (.value (.int k (a.tmod b))) w := by
  simp [execOp, hx, hy, binOp, eqGuard, Op.intDiv, hb, go_sem]
theorem run_boolEq {t u : TypeId} {x y : Operand} {a b : Bool} (ht : P.underlying t = some .bool) (hx : ev ρ x = .bool a) (hy : ev ρ y = .bool b) :
    (execOp (ev ρ) ⟨dst, .binOp .eql t x y u, ty, pos, after, guard⟩).run P w = .ok (.value (.bool (a == b))) w := by
  have he : (Op.equal t (.bool a) (.bool b)).run P w = .ok (a == b) w := by
    have h1 : Op.equal t (.bool a) (.bool b) = Op.equalIn (9999 + 1) t (.bool a) (.bool b) := rfl
    rw [h1]
    generalize 9999 = d
    simp [Op.equalIn, underlying, ht, go_sem]
  simp [execOp, hx, hy, binOp, eqGuard, he, go_sem]
theorem run_pick_t {c a b : Operand} {x : Bool} {v : Value} (hc : ev ρ c = .bool x) (hb : x = true) (hv : ev ρ a = v) :
    (execOp (ev ρ) ⟨dst, .pick c a b, ty, pos, after, guard⟩).run P w = .ok (.value v) w := by
  subst hb hv
  simp [execOp, hc, go_sem]
theorem run_pick_f {c a b : Operand} {x : Bool} {v : Value} (hc : ev ρ c = .bool x) (hb : x = false) (hv : ev ρ b = v) :
    (execOp (ev ρ) ⟨dst, .pick c a b, ty, pos, after, guard⟩).run P w = .ok (.value v) w := by
  subst hb hv
  simp [execOp, hc, go_sem]
theorem wanted_n {o : Oper} {ops : Array Oper} (hg : o.guard = none) : Region.wanted o (yieldedE ops ρ) = true := by simp [Region.wanted, hg]
theorem wanted_y {o : Oper} {ops : Array Oper} {j d : Nat} {want b : Bool} (hg : o.guard = some (j, want)) (hj : (ops[j]?).bind (·.dst) = some d) (hv : ρ d = .bool b) (hb : b = want) : Region.wanted o (yieldedE ops ρ) = true := by
  subst hb; simp [Region.wanted, hg, yieldedE, hj, hv]
theorem wanted_f {o : Oper} {ops : Array Oper} {j d : Nat} {want b : Bool} (hg : o.guard = some (j, want)) (hj : (ops[j]?).bind (·.dst) = some d) (hv : ρ d = .bool b) (hb : b = !want) : Region.wanted o (yieldedE ops ρ) = false := by
  subst hb; cases want <;> simp [Region.wanted, hg, yieldedE, hj, hv]
/-- .. or its own guard does not yield -/
theorem wanted_u {o : Oper} {ops : Array Oper} {j d : Nat} {want : Bool} (hg : o.guard = some (j, want)) (hj : (ops[j]?).bind (·.dst) = some d) (hv : ρ d = undef) : Region.wanted o (yieldedE ops ρ) = false := by
  simp [Region.wanted, hg, yieldedE, hj, hv, undef]
end
end Hk
