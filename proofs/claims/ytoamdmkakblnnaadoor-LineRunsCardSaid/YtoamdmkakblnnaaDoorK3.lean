/- The steps of the printed proofs. -/
import Derived.Test.YtoamdmkakblnnaaDoorK2
import Derived.Lib.AppendZeros
import Derived.Laws.CopyRow
import Derived.Laws.IdiomCopy
set_option linter.unusedVariables false
set_option linter.unusedSimpArgs false
namespace Hk
open Go
section
variable {P : Program} {n : Nat} {ops : Array Oper} {Q : EPost} {ρ : Env} {w : World} {rest : List Oper} {o : Oper}
section op
variable {i : Nat} {o : Oper} {KK : Env → World → Prop}
end op
end
section
variable {P : Program} {G w w' : World} {f : HP} {L : List HProp} {ρ : Env} {dst : Option Tmp} {ty : TypeId} {pos : String} {after : Array Edge} {guard : Option (Nat × Bool)}
theorem run_boxE {t : TypeId} {x : Operand} {v : Value} {cs : List Value} (hx : ev ρ x = v) (hv : v.cells = cs.toArray) (h : Wd G w f L) :
    ∃ w' v, (execOp (ev ρ) ⟨dst, .box t x, ty, pos, after, guard⟩).run P w = .ok (.value v) w' ∧ ∃ b, v = .pointer (some ⟨b, 0, none⟩) ∧ Wd G w' f (Blk b (.cells cs.toArray t (0, 0)) :: L) :=
  ⟨_, _, run_box hx, w.heap.size, rfl, by rw [hv]; exact wd_new h⟩
theorem run_allocE {t : TypeId} {z : Value} {cs : List Value} (hz : tyZero P t = some z) (hv : z.cells = cs.toArray) (h : Wd G w f L) :
    ∃ w' v, (execOp (ev ρ) ⟨dst, .alloc t, ty, pos, after, guard⟩).run P w = .ok (.value v) w' ∧ ∃ b, v = .pointer (some ⟨b, 0, none⟩) ∧ Wd G w' f (Blk b (.cells cs.toArray t (0, 0)) :: L) :=
  ⟨_, _, run_alloc hz, w.heap.size, rfl, by rw [hv]; exact wd_new h⟩
theorem run_buildSliceE {t e : TypeId} {len k : Nat} {parts : List (Nat × Operand)} {zv : Value} {base cs : List Value} (ht : tyElem P t = some e) (hk : tySize P e = some k) (hz : tyZero P e = some zv) (hlen : Nat.ble (len * k) 1000000 = true)
    (hbase : (madeCells zv.cells (len * k)).toList = base) (hf : fillL (fun i => some (i * k, k)) base (partsOf ρ parts) = some cs) (h : Wd G w f L) :
    ∃ w' v, (execOp (ev ρ) ⟨dst, .buildSlice t len parts.toArray, ty, pos, after, guard⟩).run P w = .ok (.value v) w' ∧ ∃ b, v = .slice (some ⟨b, 0, none⟩) len len ∧ Wd G w' f (Blk b (.cells cs.toArray e (0, 0)) :: L) :=
  ⟨_, _, run_buildSlice ht hk hz hlen hbase hf, w.heap.size, rfl, wd_new h⟩
theorem fblk {b off : Nat} {ds : List Value} {t : TypeId} {fr : Nat × Nat} {v : Value} (hb : f b = some (.cells ds.toArray t fr)) (hv : ds[off]? = some v) : hcell f ⟨b, off, none⟩ = some v := by
  simp [hcell, hb, hv]
theorem Wd.drop (i : Nat) {A : HProp} (hi : L[i]? = some A) (h : Wd G w f L) : Wd G w f (L.eraseIdx i) := (h.front i hi).drop1
theorem idx_nat {α : Type} {xs : List α} {i : Nat} {x : α} (h : xs[i]? = some x) : idx xs (i : Int) = some x := by unfold idx; rw [if_pos (by omega)]; simpa using h
end
end Hk
set_option linter.unusedVariables false
set_option linter.unusedSimpArgs false
namespace Hk
open Go
theorem fOpt_one {α : Type} {E : FRel α} {f : HP} {cs : List Value} {x : Option α} (h : (fOpt E).p f cs x) : ∃ v, cs = [v] ∧ (fOpt E).p f [v] x := by
  cases x with
  | none => exact ⟨_, h, rfl⟩
  | some y => obtain ⟨b, ds, ty, fr, rfl, h1, h2⟩ := h; exact ⟨_, rfl, b, ds, ty, fr, rfl, h1, h2⟩
theorem fOpt_some {α : Type} {E : FRel α} {f : HP} {v : Value} {x : Option α} {y : α} (h : (fOpt E).p f [v] x) (hx : x = some y) :
    ∃ b ds ty fr, v = .pointer (some ⟨b, 0, none⟩) ∧ f b = some (.cells (List.toArray ds) ty fr) ∧ E.p f ds y := by
  subst hx
  obtain ⟨b, ds, ty, fr, e, h1, h2⟩ := h
  exact ⟨b, ds, ty, fr, by simpa using e, h1, h2⟩
def SW (G : World) (f : HP) (L : List HProp) : World → Prop := fun w' => ∃ f', HP.le f f' ∧ Wd G w' f' L
theorem SW.of {G w : World} {f : HP} {L : List HProp} (h : Wd G w f L) : SW G f L w := ⟨f, HP.le_refl _, h⟩
theorem SW.mk {G w : World} {f f' : HP} {L : List HProp} (hl : HP.le f f') (h : Wd G w f' L) : SW G f L w := ⟨f', hl, h⟩
def RelAll {α : Type} (E : FRel α) (f : HP) : List (List Value) → List α → Prop
  | [], [] => True
  | es :: l, x :: xs => E.p f es x ∧ RelAll E f l xs
  | _, _ => False
theorem RelAll.get {α : Type} {E : FRel α} {f : HP} : ∀ {ess : List (List Value)} {xs : List α}, RelAll E f ess xs →
    ess.length = xs.length ∧ ess.flatten.length = xs.length * E.n ∧ ∀ i x, xs[i]? = some x → ∃ es, (∀ j v, es[j]? = some v → ess.flatten[i * E.n + j]? = some v) ∧ E.p f es x
  | [], [], _ => ⟨rfl, by simp, fun i x h => by simp at h⟩
  | [], x :: xs, h => h.elim
  | es :: l, [], h => h.elim
  | es :: l, x :: xs, ⟨h1, h2⟩ => by
    obtain ⟨k1, k2, k3⟩ := RelAll.get h2
    have hlen := E.len h1
    refine ⟨by simp [k1], by simp [hlen, k2, Nat.add_mul]; omega, fun i y hy => ?_⟩
    cases i with
    | zero =>
      simp at hy; subst hy
      refine ⟨es, fun j v hv => ?_, h1⟩
      have hj := (List.getElem?_eq_some_iff.1 hv).1
      rw [List.flatten_cons, List.getElem?_append_left (by omega)]
      simpa using hv
    | succ i =>
      obtain ⟨es', e1, e2⟩ := k3 i y (by simpa using hy)
      refine ⟨es', fun j v hv => ?_, e2⟩
      have := e1 j v hv
      rw [List.flatten_cons, List.getElem?_append_right (by rw [hlen, Nat.add_mul]; omega), hlen]
      rw [show (i + 1) * E.n + j - E.n = i * E.n + j by rw [Nat.add_mul]; omega]
      exact this
section
variable {P : Program} {G w w' : World} {f : HP} {L : List HProp} {ρ : Env} {dst : Option Tmp} {ty : TypeId} {pos : String} {after : Array Edge} {guard : Option (Nat × Bool)}
theorem wd_arrL {α : Type} {E : FRel α} {b : Nat} {cs : List Value} {t : TypeId} {ess : List (List Value)} {xs : List α} (hE : RelAll E f ess xs) (hcs : cs = ess.flatten) (hm : Nat.ble xs.length maxLen = true) (h : Wd G w f (Blk b (.cells cs.toArray t (0, 0)) :: L)) :
    ∃ cur, ArrOk f E (some ⟨b, 0, none⟩) xs.length xs.length cur xs ∧ Wd G w f (Arr (some ⟨b, 0, none⟩) xs.length cur :: L) := by
  obtain ⟨k1, k2, k3⟩ := RelAll.get hE
  subst hcs
  exact ⟨_, wd_arrB (by omega) (Nat.le_of_ble_eq_true hm) k3 h⟩
theorem wd_arrZero {α : Type} {E : FRel α} (A : Option Addr) (h : Wd G w f L) : ArrOk f E A 0 0 #[] ([] : List α) ∧ Wd G w f (Arr A 0 #[] :: L) :=
  ⟨⟨rfl, Nat.le_refl _, by simp [maxLen], .inl rfl, fun i x hx => by simp at hx⟩, h.os, h.tape, h.output, h.fro, fun _ => False, .inl ⟨rfl, rfl⟩, fun _ hf => hf.elim, SepL.weaken (fun _ hb => ⟨hb, fun hf => hf⟩) h.sep⟩
theorem run_cut0 {t e : TypeId} {x lo hi mx : Operand} {A : Option Addr} {n c sz : Nat} (ht : tyElem P t = some e) (hk : tySize P e = some sz) (hx : ev ρ x = .slice A n c) (hl : ev ρ lo = .int .i64 0) (hh : ev ρ hi = .int .i64 0) (hm : ev ρ mx = .int .i64 0) :
    (execOp (ev ρ) ⟨dst, .slice t x (some lo) (some hi) (some mx), ty, pos, after, guard⟩).run P w = .ok (.value (.slice A 0 0)) w := by
  have hu := tyElem_spec ht
  obtain ⟨ie, hie, rfl⟩ := tySize_spec hk
  simp [execOp, Instr.slice, underlying, hu, hx, hl, hh, hm, Go.sizeOf, typeInfo, hie, go_sem]
theorem slf_cut {α : Type} {E : FRel α} {A : Option Addr} {n c : Nat} {xs r : List α} {l k : Int} (hs : SlF f E A n c xs) (hr : gcut xs l k = some r) : SlF f E (cutA A E.n l.toNat c) (k.toNat - l.toNat) (c - l.toNat) r := by
  obtain ⟨rfl, h0, h1, h2, h3⟩ := gcut_spec hr
  exact hs.cut h1 h2
theorem run_cut {α : Type} {t e : TypeId} {x : Operand} {lo hi : Option Operand} {A : Option Addr} {n c sz : Nat} {l k : Int} {xs r : List α} (ht : tyElem P t = some e) (hk : tySize P e = some sz) (hx : ev ρ x = .slice A n c)
    (hlen : n = xs.length) (hle : xs.length ≤ c) (hr : gcut xs l k = some r)
    (hlo : (lo = none ∧ l = 0) ∨ ∃ o, lo = some o ∧ ev ρ o = .int .i64 l) (hhi : (hi = none ∧ k = (xs.length : Int)) ∨ ∃ o, hi = some o ∧ ev ρ o = .int .i64 k) :
    (execOp (ev ρ) ⟨dst, .slice t x lo hi none, ty, pos, after, guard⟩).run P w = .ok (.value (.slice (cutA A sz l.toNat c) (k.toNat - l.toNat) (c - l.toNat))) w := by
  obtain ⟨_, h0, h1, h2, h3⟩ := gcut_spec hr
  have hk0 : 0 ≤ k := by
    unfold gcut at hr; split at hr
    · rename_i hc; omega
    · cases hr
  refine run_sliceS ht hk hx ?_ ?_ h1 (by omega)
  · rcases hlo with ⟨rfl, rfl⟩ | ⟨o, rfl, ho⟩
    · exact .inl ⟨rfl, rfl⟩
    · exact .inr ⟨o, rfl, by rw [ho, Int.toNat_of_nonneg h0]⟩
  · rcases hhi with ⟨rfl, rfl⟩ | ⟨o, rfl, ho⟩
    · exact .inl ⟨rfl, by simp [hlen]⟩
    · exact .inr ⟨o, rfl, by rw [ho, Int.toNat_of_nonneg hk0]⟩
theorem run_boolNe {t u : TypeId} {x y : Operand} {a b : Bool} (ht : P.underlying t = some .bool) (hx : ev ρ x = .bool a) (hy : ev ρ y = .bool b) :
    (execOp (ev ρ) ⟨dst, .binOp .neq t x y u, ty, pos, after, guard⟩).run P w = .ok (.value (.bool (a != b))) w := by
  have he : (Op.equal t (.bool a) (.bool b)).run P w = .ok (a == b) w := by
    have h1 : Op.equal t (.bool a) (.bool b) = Op.equalIn (9999 + 1) t (.bool a) (.bool b) := rfl
    rw [h1]
    generalize 9999 = d
    simp [Op.equalIn, underlying, ht, go_sem]
  simp [execOp, hx, hy, binOp, eqGuard, he, go_sem, bne]
theorem run_lenStr {t : TypeId} {x : Operand} {s : ByteArray} (ht : P.underlying t = some .string) (hx : ev ρ x = .string s) :
    (execOp (ev ρ) ⟨dst, .call { callee := .builtin .len, args := #[x], argTypes := #[t] }, ty, pos, after, guard⟩).run P w = .ok (.value (.int .i64 (s.size : Int))) w := by
  simp [execOp, resolve, invoke, builtin, Builtin.len_, underlying, ht, hx, goInt, go_sem]
theorem run_max4 {t u t' u' : TypeId} {x y z s : Operand} {k : IntKind} {a b c d : Int} (hx : ev ρ x = .int k a) (hy : ev ρ y = .int k b) (hz : ev ρ z = .int k c) (hs : ev ρ s = .int k d) :
    (execOp (ev ρ) ⟨dst, .call { callee := .builtin .max, args := #[x, y, z, s], argTypes := #[t, u, t', u'] }, ty, pos, after, guard⟩).run P w = .ok (.value (.int k (gmax (gmax (gmax a b) c) d))) w := by
  simp [execOp, resolve, invoke, builtin, Builtin.max_, Builtin.max2, hx, hy, hz, hs, gmax, go_sem] <;> rfl
theorem run_min4 {t u t' u' : TypeId} {x y z s : Operand} {k : IntKind} {a b c d : Int} (hx : ev ρ x = .int k a) (hy : ev ρ y = .int k b) (hz : ev ρ z = .int k c) (hs : ev ρ s = .int k d) :
    (execOp (ev ρ) ⟨dst, .call { callee := .builtin .min, args := #[x, y, z, s], argTypes := #[t, u, t', u'] }, ty, pos, after, guard⟩).run P w = .ok (.value (.int k (gmin (gmin (gmin a b) c) d))) w := by
  simp [execOp, resolve, invoke, builtin, Builtin.min_, Builtin.min2, hx, hy, hz, hs, gmin, go_sem] <;> rfl
theorem run_max3 {t u t' : TypeId} {x y z : Operand} {k : IntKind} {a b c : Int} (hx : ev ρ x = .int k a) (hy : ev ρ y = .int k b) (hz : ev ρ z = .int k c) :
    (execOp (ev ρ) ⟨dst, .call { callee := .builtin .max, args := #[x, y, z], argTypes := #[t, u, t'] }, ty, pos, after, guard⟩).run P w = .ok (.value (.int k (gmax (gmax a b) c))) w := by
  simp [execOp, resolve, invoke, builtin, Builtin.max_, Builtin.max2, hx, hy, hz, gmax, go_sem] <;> rfl
theorem run_min3 {t u t' : TypeId} {x y z : Operand} {k : IntKind} {a b c : Int} (hx : ev ρ x = .int k a) (hy : ev ρ y = .int k b) (hz : ev ρ z = .int k c) :
    (execOp (ev ρ) ⟨dst, .call { callee := .builtin .min, args := #[x, y, z], argTypes := #[t, u, t'] }, ty, pos, after, guard⟩).run P w = .ok (.value (.int k (gmin (gmin a b) c))) w := by
  simp [execOp, resolve, invoke, builtin, Builtin.min_, Builtin.min2, hx, hy, hz, gmin, go_sem] <;> rfl
theorem run_slCmp {t e u : TypeId} {x y : Operand} {A B : Option Addr} {n c n' c' : Nat} {op : BinOp} {b : Bool} (neg : Bool) (hop : cond neg .neq .eql = op) (ht : tyElem P t = some e) (hx : ev ρ x = .slice A n c) (hy : ev ρ y = .slice B n' c') (hnil : A = none ∨ B = none) (hb : ((A.isNone && B.isNone) ^^ neg) = b) :
    (execOp (ev ρ) ⟨dst, .binOp op t x y u, ty, pos, after, guard⟩).run P w = .ok (.value (.bool b)) w := by
  subst hb
  subst hop
  have hu := tyElem_spec ht
  have he : (Op.equal t (.slice A n c) (.slice B n' c')).run P w = .ok (A.isNone && B.isNone) w := by
    have h1 : Op.equal t (.slice A n c) (.slice B n' c') = Op.equalIn (9999 + 1) t (.slice A n c) (.slice B n' c') := rfl
    rw [h1]
    generalize 9999 = d
    rcases hnil with rfl | rfl
    · cases B <;> simp [Op.equalIn, underlying, hu, go_sem]
    · cases A <;> simp [Op.equalIn, underlying, hu, go_sem]
  cases neg <;> simp [execOp, hx, hy, binOp, eqGuard, he, go_sem]
theorem run_convII {t u : TypeId} {x : Operand} {k k' : IntKind} {a : Int} (ht : P.underlying t = some (.int k)) (hu : P.underlying u = some (.int k')) (hx : ev ρ x = .int k a) :
    (execOp (ev ρ) ⟨dst, .convert t u x, ty, pos, after, guard⟩).run P w = .ok (.value (.int k' (k'.wrap a))) w := by
  simp [execOp, hx, underlying, ht, hu, go_sem, Op.convert]
theorem run_blkSetE {b j : Nat} {cs new : Array Value} {bt t : TypeId} {a o : Operand} {v : Value} (h : Wd G w f (Blk b (.cells cs bt (0, 0)) :: L)) (ha : ev ρ a = .pointer (some ⟨b, j, none⟩)) (ho : ev ρ o = v) (hs : tySize P t = some v.cells.size)
    (hj : Nat.ble (j + v.cells.size) cs.size = true) (h1 : v.cells.toList.all Value.oneCell' = true) (hn : splice cs j v.cells.toList = new) :
    ∃ w', (execOp (ev ρ) ⟨dst, .store t a o, ty, pos, after, guard⟩).run P w = .ok .skip w' ∧ Wd G w' f (Blk b (.cells new bt (0, 0)) :: L) :=
  run_blkSet h ha ho hs hj (List.all_eq_true.1 h1) hn
theorem run_shl {t u : TypeId} {x y : Operand} {k k' : IntKind} {a b p : Int} (m m' : Nat) (hx : ev ρ x = .int k a) (hy : ev ρ y = .int k' b) (hb : b = (m' : Int)) (hm : min m' k.bits = m) (hp : ((2 ^ m : Nat) : Int) = p) :
    (execOp (ev ρ) ⟨dst, .binOp .shl t x y u, ty, pos, after, guard⟩).run P w = .ok (.value (.int k (k.wrap (a * p)))) w := by
  subst hb
  subst hp
  have hneg : ¬ ((m' : Int) < 0) := by omega
  have key : (Go.binOp .shl t (.int k a) (.int k' m')).run P w = .ok (.int k (k.wrap (a * 2 ^ m))) w := by
    show (Op.shift .shl k a k' m').run P w = _
    unfold Op.shift
    rw [if_neg hneg]
    simp only [Int.toNat_natCast, hm]
    rfl
  have e1 : execOp (ev ρ) ⟨dst, .binOp .shl t x y u, ty, pos, after, guard⟩ = (eqGuard .shl t x y (ev ρ x) (ev ρ y)).bind fun _ => (Go.binOp .shl t (ev ρ x) (ev ρ y)).bind fun v => .pure (Next.value v) := rfl
  have hpow : ((2 ^ m : Nat) : Int) = 2 ^ m := by simp
  have e2 : (eqGuard .shl t x y (ev ρ x) (ev ρ y)).run P w = .ok () w := by simp [eqGuard, go_sem]
  rw [e1, Sem.run_bind', e2, hx, hy]
  show ((Go.binOp .shl t (.int k a) (.int k' m')).bind fun v => .pure (Next.value v)).run P w = _
  rw [Sem.run_bind', key, hpow]
  rfl
theorem run_shr {t u : TypeId} {x y : Operand} {k k' : IntKind} {a b p : Int} (m m' : Nat) (hx : ev ρ x = .int k a) (hy : ev ρ y = .int k' b) (hb : b = (m' : Int)) (hm : min m' k.bits = m) (hp : ((2 ^ m : Nat) : Int) = p) :
    (execOp (ev ρ) ⟨dst, .binOp .shr t x y u, ty, pos, after, guard⟩).run P w = .ok (.value (.int k (a.fdiv p))) w := by
  subst hb
  subst hp
  have hneg : ¬ ((m' : Int) < 0) := by omega
  have key : (Go.binOp .shr t (.int k a) (.int k' m')).run P w = .ok (.int k (a.fdiv (2 ^ m))) w := by
    show (Op.shift .shr k a k' m').run P w = _
    unfold Op.shift
    rw [if_neg hneg]
    simp only [Int.toNat_natCast, hm]
    rfl
  have e1 : execOp (ev ρ) ⟨dst, .binOp .shr t x y u, ty, pos, after, guard⟩ = (eqGuard .shr t x y (ev ρ x) (ev ρ y)).bind fun _ => (Go.binOp .shr t (ev ρ x) (ev ρ y)).bind fun v => .pure (Next.value v) := rfl
  have hpow : ((2 ^ m : Nat) : Int) = 2 ^ m := by simp
  have e2 : (eqGuard .shr t x y (ev ρ x) (ev ρ y)).run P w = .ok () w := by simp [eqGuard, go_sem]
  rw [e1, Sem.run_bind', e2, hx, hy]
  show ((Go.binOp .shr t (.int k a) (.int k' m')).bind fun v => .pure (Next.value v)).run P w = _
  rw [Sem.run_bind', key, hpow]
  rfl
end
def iand (k : IntKind) (a b : Int) : Int := k.wrap ((BitVec.ofInt k.bits a &&& BitVec.ofInt k.bits b).toNat)
def ior (k : IntKind) (a b : Int) : Int := k.wrap ((BitVec.ofInt k.bits a ||| BitVec.ofInt k.bits b).toNat)
def ixor (k : IntKind) (a b : Int) : Int := k.wrap ((BitVec.ofInt k.bits a ^^^ BitVec.ofInt k.bits b).toNat)
section
variable {P : Program} {w : World} {ρ : Env} {dst : Option Tmp} {ty : TypeId} {pos : String} {after : Array Edge} {guard : Option (Nat × Bool)}
end
end Hk
set_option linter.unusedVariables false
set_option linter.unusedSimpArgs false
namespace Hk
open Go
section
variable {P : Program} {G w w' : World} {f : HP} {L : List HProp} {ρ : Env} {dst : Option Tmp} {ty : TypeId} {pos : String} {after : Array Edge} {guard : Option (Nat × Bool)}
theorem run_arrAppA {α : Type} {E : FRel α} {t e : TypeId} {bytes : Nat} (hT : ApTy P t e E.n bytes) {A : Option Addr} {n c : Nat} {cur : Array Value} {xs ys r : List α} {s x : Operand} {B : Option Addr} {nb cb : Nat} {curB : Array Value}
    (h : Wd G w f (Arr A c cur :: Arr B cb curB :: L)) (hok : ArrOk f E A n c cur xs) (hs : ev ρ s = .slice A n c) (hx : ev ρ x = .slice B nb cb) (hokB : ArrOk f E B nb cb curB ys) (hr : gapp bytes xs ys = some r) :
    ∃ w' v, (execOp (ev ρ) ⟨dst, .call { callee := .builtin .append, args := #[s, x], argTypes := #[t, t] }, ty, pos, after, guard⟩).run P w = .ok (.value v) w' ∧ ∃ A' n' c' cur', v = .slice A' n' c' ∧
      ArrOk f E A' n' c' cur' r ∧ Wd G w' f (Arr A' c' cur' :: Arr B cb curB :: L) := by
  by_cases hys : ys = []
  · subst hys
    exact run_arrApp hT h hok hs hx hokB.len (news := []) (.inl rfl) (by simp) (fun i y hy => by simp at hy) (fun u hu => by simp at hu) hr
  · have hl0 : 0 < ys.length := Nat.pos_of_ne_zero fun h0 => hys (List.eq_nil_of_length_eq_zero h0)
    have hle := hokB.le
    rcases hokB.or with h0 | ⟨b, o, rfl, hz⟩
    · omega
    have hsz : ys.length * E.n ≤ cb * E.n := Nat.mul_le_mul_right _ hle
    have hlen : ((curB.toList.drop o).take (ys.length * E.n)).length = ys.length * E.n := by simp; omega
    have hget : ∀ j, j < ys.length * E.n → ((curB.toList.drop o).take (ys.length * E.n))[j]? = curB[o + j]? := by
      intro j hj
      rw [List.getElem?_take_of_lt hj, List.getElem?_drop]; simp
    refine run_arrApp hT h hok hs hx hokB.len (news := (curB.toList.drop o).take (ys.length * E.n)) (.inr ⟨⟨b, o, none⟩, rfl, fun j u hu => ?_⟩) hlen (fun i y hy => ?_) (fun u hu => ?_) hr
    · have hj := (List.getElem?_eq_some_iff.1 hu).1
      rw [hlen] at hj
      rw [hget j hj] at hu
      have := wd_arr 1 h rfl rfl (k := 0) (j := j) (v := u) (by simpa [aoff] using hu)
      simpa [eAdr] using this
    · obtain ⟨es, e1, e2⟩ := hokB.get i y hy
      refine ⟨es, fun j v hv => ?_, e2⟩
      have hj : j < E.n := by rw [← E.len e2]; exact (List.getElem?_eq_some_iff.1 hv).1
      have hi := (List.getElem?_eq_some_iff.1 hy).1
      have hlt : i * E.n + j < ys.length * E.n := by
        have : (i + 1) * E.n ≤ ys.length * E.n := Nat.mul_le_mul_right _ hi
        rw [Nat.add_mul] at this; omega
      rw [hget _ hlt, ← Nat.add_assoc]
      simpa [aoff] using e1 j v hv
    · obtain ⟨k, hk⟩ := List.getElem?_of_mem hu
      have hkl := (List.getElem?_eq_some_iff.1 hk).1
      rw [hlen] at hkl
      have hn : 0 < E.n := Nat.pos_of_ne_zero fun h0 => by rw [h0] at hkl; simp at hkl
      have hi : k / E.n < ys.length := (Nat.div_lt_iff_lt_mul hn).2 hkl
      obtain ⟨es, e1, e2⟩ := hokB.get (k / E.n) _ (List.getElem?_eq_getElem hi)
      have hm : k % E.n < es.length := by rw [E.len e2]; exact Nat.mod_lt _ hn
      have h3 := e1 (k % E.n) _ (List.getElem?_eq_getElem hm)
      rw [hget k hkl] at hk
      have h4 : o + k / E.n * E.n + k % E.n = o + k := by have := Nat.div_add_mod k E.n; rw [Nat.mul_comm] at this; omega
      simp only [aoff, Option.getD_some] at h3
      rw [h4, hk] at h3
      injection h3 with h3
      rw [h3]
      exact E.one e2 _ (List.getElem_mem hm)
def gmakec {α : Type} (bytes : Nat) (n c : Int) (z : α) : Option (List α) :=
  if 0 ≤ n ∧ n ≤ c ∧ bytes * c.toNat ≤ mkRoom ∧ c.toNat ≤ maxLen then some (List.replicate n.toNat z) else none
theorem run_arrMakeC {α : Type} {E : FRel α} {t e : TypeId} {bytes : Nat} {l co : Operand} {n c : Int} {z : α} {xs : List α} {zv : Value} (hT : tyElem P t = some e) (hsz : tySize P e = some E.n) (hby : tyBytes P e = some bytes) (hzv : tyZero P e = some zv)
    (hz : E.p f zv.cells.toList z) (hl : ev ρ l = .int .i64 n) (hc : ev ρ co = .int .i64 c) (hm : gmakec bytes n c z = some xs) (h : Wd G w f L) :
    ∃ w' v, (execOp (ev ρ) ⟨dst, .makeSlice t l co, ty, pos, after, guard⟩).run P w = .ok (.value v) w' ∧ ∃ A' n' c' cur, v = .slice A' n' c' ∧
      ArrOk f E A' n' c' cur xs ∧ Wd G w' f (Arr A' c' cur :: L) ∧ A'.isSome = true := by
  obtain ⟨i, hi, hisz⟩ := tySize_spec hsz
  have ht := tyElem_spec hT
  have hzi : i.zero = some zv := by unfold tyZero at hzv; simpa [hi] using hzv
  have hbi : i.bytes = bytes := by unfold tyBytes at hby; simpa [hi] using hby
  unfold gmakec at hm
  split at hm
  case isFalse => cases hm
  rename_i hcond
  obtain ⟨h0, hnc, hb, h63⟩ := hcond
  injection hm with hm
  subst hm
  have h63' : c ≤ 9223372036854775807 := by simp only [maxLen] at h63; omega
  have hb' : (i.bytes : Int) * c ≤ 281474976710656 := by
    have h1 : ((i.bytes * c.toNat : Nat) : Int) ≤ 281474976710656 := by rw [hbi]; simp only [mkRoom] at hb; omega
    rw [Int.natCast_mul] at h1
    rwa [show ((c.toNat : Nat) : Int) = c by omega] at h1
  have hr := run_make (P := P) w t e i zv ht hi hzi .i64 .i64 n c h0 hnc hb' h63'
  have hzl : zv.cells.toList.length = E.n := E.len hz
  refine ⟨w.alloc (.cells (madeCells zv.cells (c.toNat * i.size)) e), _, ?_, some ⟨w.heap.size, 0, none⟩, n.toNat, c.toNat, madeCells zv.cells (c.toNat * i.size), rfl, ⟨by simp, by simp; omega, h63, .inr ⟨_, 0, rfl, ?_⟩, fun k y hk => ?_⟩, ?_, rfl⟩
  · have e1 : execOp (ev ρ) ⟨dst, .makeSlice t l co, ty, pos, after, guard⟩ = (Instr.makeSlice t (ev ρ l) (ev ρ co)).bind (fun v => .pure (.value v)) := rfl
    rw [e1, hl, hc, Sem.run_bind', hr]
    simp
  · simp [size_madeCells, hisz]
  · have hlt := (List.getElem?_eq_some_iff.1 hk).1
    have hy : z = y := by
      have := (List.getElem?_eq_some_iff.1 hk).2
      simpa using this
    subst hy
    refine ⟨zv.cells.toList, fun j v hv => ?_, hz⟩
    have hs : i.size = zv.cells.size := by rw [hisz, ← hzl]; simp
    rw [hs, ← hzl, Array.length_toList]
    simp only [aoff, Option.getD_some, Nat.zero_add]
    simp at hlt
    exact madeCells_get (by simpa using hv) (by omega)
  · have hnew := wd_new (cs := madeCells zv.cells (c.toNat * i.size)) (t := e) h
    obtain ⟨S, ⟨k0, k1⟩, k2, k3⟩ := hnew.sep
    exact ⟨hnew.os, hnew.tape, hnew.output, hnew.fro, S, .inr ⟨_, rfl, k0, e, k1⟩, k2, k3⟩
theorem run_arrAppZ {α : Type} {E : FRel α} {t tn e : TypeId} {kn : IntKind} {bytes : Nat} {x y : Operand} {n : Int} {z : α} {xs : List α} {zv : Value} (hT : tyElem P t = some e) (htn : P.underlying tn = some (.int kn)) (hsz : tySize P e = some E.n) (hpos : 0 < E.n) (hby : tyBytes P e = some bytes) (hzv : tyZero P e = some zv)
    (hz : E.p f zv.cells.toList z) (hx : ev ρ x = .slice none 0 0) (hy : ev ρ y = .int .i64 n) (hm : gmake bytes n z = some xs) (h : Wd G w f L) :
    ∃ w' v, (execOp (ev ρ) ⟨dst, .call { callee := .builtin .append, args := #[x, y], argTypes := #[t, tn] }, ty, pos, after, guard⟩).run P w = .ok (.value v) w' ∧ ∃ A' n' c' cur, v = .slice A' n' c' ∧
      ArrOk f E A' n' c' cur xs ∧ Wd G w' f (Arr A' c' cur :: L) := by
  obtain ⟨i, hi, hisz⟩ := tySize_spec hsz
  have ht := tyElem_spec hT
  have hzi : i.zero = some zv := by unfold tyZero at hzv; simpa [hi] using hzv
  have hbi : i.bytes = bytes := by unfold tyBytes at hby; simpa [hi] using hby
  have op : ∀ {v : Value} {w' : World}, (Builtin.append_ #[t, tn] ty #[.slice none 0 0, .int .i64 n]).run P w = .ok v w' →
      (execOp (ev ρ) ⟨dst, .call { callee := .builtin .append, args := #[x, y], argTypes := #[t, tn] }, ty, pos, after, guard⟩).run P w = .ok (.value v) w' := fun hr => by
    simp only [execOp, resolve, invoke, builtin, Sem.run_bind, Sem.run_pure, Result.andThen_ok, List.map_toArray, List.map_cons, List.map_nil, hx, hy, hr]
  unfold gmake at hm
  split at hm
  case isFalse => cases hm
  rename_i hcond
  obtain ⟨h0, hb, h63⟩ := hcond
  injection hm with hm
  subst hm
  rcases Nat.eq_zero_or_pos n.toNat with hn | hn
  · have : n = 0 := by omega
    subst this
    refine ⟨w, _, op (v := .slice none 0 0) (w' := w) ?_, none, 0, 0, #[], rfl, wd_arrNil h⟩
    have hw : IntKind.i64.wrap 0 = 0 := by rw [IntKind.wrap_i64]; omega
    simp [Builtin.append_, run_underlying ht, run_underlying htn, Go.sizeOf, typeInfo, hi, asInt, asIntOf, hw]
  · have h63' : (n.toNat : Int) ≤ 9223372036854775807 := by simp only [maxLen] at h63; omega
    have hr := Lib.run_append_nil_zeros (P := P) w t tn ty e i zv .i64 kn ht htn hi hzi n.toNat hn (by omega) h63' (by rw [hbi, Nat.mul_comm]; exact hb)
    rw [show ((n.toNat : Nat) : Int) = n by omega] at hr
    have hge := grownCap_ge w n.toNat 0 e
    have hcm := grownCap_le_maxLen w n.toNat 0 e h63
    have hzl : zv.cells.toList.length = E.n := E.len hz
    have hs : i.size = zv.cells.size := by rw [hisz, ← hzl]; simp
    generalize grownCap w n.toNat 0 e = cap at *
    refine ⟨_, _, op hr, some ⟨w.heap.size, 0, none⟩, n.toNat, cap, Builtin.zeroCells zv.cells n.toNat ++ Builtin.zeroCells zv.cells (cap - n.toNat), rfl, ⟨by simp, by simp; omega, hcm, .inr ⟨_, 0, rfl, ?_⟩, fun k y hk => ?_⟩, ?_⟩
    · simp only [Array.size_append, size_zeroCells]
      rw [← Nat.add_mul, ← hs, hisz, Nat.zero_add]
      exact Nat.mul_le_mul_right _ (by omega)
    · have hlt := (List.getElem?_eq_some_iff.1 hk).1
      have hlt : k < n.toNat := by simpa using hlt
      have hy : z = y := by
        have := (List.getElem?_eq_some_iff.1 hk).2
        simpa using this
      subst hy
      refine ⟨zv.cells.toList, fun j v hv => ?_, hz⟩
      have hv : zv.cells[j]? = some v := by simpa using hv
      have hj := (Array.getElem?_eq_some_iff.1 hv).1
      have hkj : k * zv.cells.size + j < n.toNat * zv.cells.size := by
        have : (k + 1) * zv.cells.size ≤ n.toNat * zv.cells.size := Nat.mul_le_mul_right _ hlt
        rw [Nat.add_mul] at this; omega
      have hmod : (k * zv.cells.size + j) % zv.cells.size = j := by rw [Nat.add_comm, Nat.add_mul_mod_self_right]; exact Nat.mod_eq_of_lt hj
      simp only [aoff, Option.getD_some, Nat.zero_add]
      rw [← hisz, hs, Array.getElem?_append_left (by rw [size_zeroCells]; exact hkj)]
      simp only [Builtin.zeroCells, Array.getElem?_map]
      rw [Array.getElem?_range, if_pos hkj]
      simp only [Option.map_some, hmod, Option.some.injEq]
      rw [getElem!_pos zv.cells j hj]
      exact (Array.getElem?_eq_some_iff.1 hv).2
    · have hnew := wd_new (cs := Builtin.zeroCells zv.cells n.toNat ++ Builtin.zeroCells zv.cells (cap - n.toNat)) (t := e) h.drew
      obtain ⟨S, ⟨k0, k1⟩, k2, k3⟩ := hnew.sep
      exact ⟨hnew.os, hnew.tape, hnew.output, hnew.fro, S, .inr ⟨_, rfl, k0, e, k1⟩, k2, k3⟩
end
end Hk
set_option linter.unusedVariables false
set_option linter.unusedSimpArgs false
namespace Hk
open Go
def Src {α : Type} (w : World) (f : HP) (E : FRel α) (B : Option Addr) (ys : List α) : Prop :=
  ys = [] ∨ ∃ a, B = some a ∧ ∀ (i : Nat) y, ys[i]? = some y → ∃ v, w.cell? (a.add i) = some v ∧ v.oneCell' = true ∧ E.p f [v] y
def gcopy {α : Type} (xs : List α) (l : Nat) (n : Nat) (ys : List α) : List α := xs.take l ++ (ys.take n ++ xs.drop (l + min n ys.length))
theorem one_list {α : Type} {E : FRel α} {f : HP} {es : List Value} {y : α} (h1 : E.n = 1) (h : E.p f es y) : ∃ v, es = [v] := by
  have := E.len h
  rw [h1] at this
  exact List.length_eq_one_iff.1 this
section
variable {P : Program} {G w w' : World} {f : HP} {L : List HProp} {ρ : Env} {dst : Option Tmp} {ty : TypeId} {pos : String} {after : Array Edge} {guard : Option (Nat × Bool)}
theorem src_fz {α : Type} {E : FRel α} {B : Option Addr} {nb cb : Nat} {ys : List α} (h1 : E.n = 1) (hw : Wd G w f L) (hs : SlF f E B nb cb ys) : Src w f E B ys := by
  cases ys with
  | nil => exact .inl rfl
  | cons y0 l =>
    obtain ⟨b, o, _, hB, _⟩ := hs.get 0 y0 rfl
    subst hB
    refine .inr ⟨⟨b, o, none⟩, rfl, fun i y hy => ?_⟩
    obtain ⟨b', o', es, hB, hc, he⟩ := hs.get i y hy
    simp only [Option.some.injEq, Addr.mk.injEq, and_true] at hB
    obtain ⟨rfl, rfl⟩ := hB
    obtain ⟨v, rfl⟩ := one_list h1 he
    refine ⟨v, ?_, E.one he v (by simp), he⟩
    rw [add_none]
    have := hc 0 v rfl
    rw [h1, Nat.mul_one, Nat.add_zero] at this
    exact hw.fz this
theorem src_arr {α : Type} {E : FRel α} {B : Option Addr} {nb cb : Nat} {cur : Array Value} {ys : List α} (k : Nat) (h1 : E.n = 1) (hw : Wd G w f L) (hk : L[k]? = some (Arr B cb cur)) (hs : ArrOk f E B nb cb cur ys) : Src w f E B ys := by
  rcases hs.or with h0 | ⟨b, o, rfl, hz⟩
  · exact .inl (List.eq_nil_of_length_eq_zero (by have := hs.le; omega))
  refine .inr ⟨⟨b, o, none⟩, rfl, fun i y hy => ?_⟩
  obtain ⟨es, hc, he⟩ := hs.get i y hy
  obtain ⟨v, rfl⟩ := one_list h1 he
  refine ⟨v, ?_, E.one he v (by simp), he⟩
  have := hc 0 v rfl
  rw [h1, Nat.mul_one, Nat.add_zero] at this
  have h2 := wd_arr k hw hk rfl (k := i) (j := 0) (v := v) (by simpa using this)
  rw [add_none]
  simpa [eAdr, add_none] using h2
theorem src_cut {α : Type} {E : FRel α} {B : Option Addr} {c l h : Nat} {ys : List α} (h1 : E.n = 1) (hl : l ≤ h) (hh : h ≤ ys.length) (hc : ys.length ≤ c) (hs : Src w f E B ys) (hspot : ∀ a, B = some a → a.spot = none) : Src w f E (cutA B E.n l c) ((ys.take h).drop l) := by
  by_cases he : (ys.take h).drop l = []
  · exact .inl he
  right
  have hlt : l < h := Nat.lt_of_not_le fun hle => he (by rw [List.drop_eq_nil_of_le]; simp; omega)
  rcases hs with rfl | ⟨a, rfl, hr⟩
  · simp at hh; omega
  obtain ⟨b, o, s⟩ := a
  obtain rfl : s = none := hspot _ rfl
  refine ⟨⟨b, o + l, none⟩, ?_, fun i y hy => ?_⟩
  · unfold cutA; rw [if_neg (by omega), h1]; simp [add_none]
  · rw [List.getElem?_drop, List.getElem?_take] at hy
    split at hy
    case isFalse => cases hy
    obtain ⟨v, g1, g2⟩ := hr _ _ hy
    refine ⟨v, ?_, g2⟩
    rw [add_none] at g1 ⊢
    rw [show o + l + i = o + (l + i) by omega]; exact g1
theorem src_view {α : Type} {E : FRel α} {B : Option Addr} {nb cb : Nat} {cur : Array Value} {ys r : List α} {l h : Int} (k : Nat) (h1 : E.n = 1) (hw : Wd G w f L) (hk : L[k]? = some (Arr B cb cur)) (hs : ArrOk f E B nb cb cur ys) (hr : gcut ys l h = some r) :
    Src w f E (cutA B E.n l.toNat cb) r := by
  obtain ⟨rfl, _, e1, e2, _⟩ := gcut_spec hr
  rcases hs.or with h0 | ⟨b, o, rfl, hz⟩
  · have hy : ys = [] := List.eq_nil_of_length_eq_zero (by have := hs.le; omega)
    subst hy
    exact .inl (by simp)
  · exact src_cut h1 e1 e2 hs.le (src_arr k h1 hw hk hs) (fun a ha => by injection ha with ha; subst ha; rfl)
theorem cutA_zero {A : Option Addr} {k c : Nat} : cutA A k 0 c = A := by
  unfold cutA
  split
  · rfl
  · cases A with
    | none => rfl
    | some a => simp [Addr.add]
theorem run_copy_op {t u : TypeId} {s x : Operand} {vs vx v : Value} {w' : World} (hs : ev ρ s = vs) (hx : ev ρ x = vx) (hr : (Builtin.copy_ #[t, u] ty #[vs, vx]).run P w = .ok v w') :
    (execOp (ev ρ) ⟨dst, .call { callee := .builtin .copy, args := #[s, x], argTypes := #[t, u] }, ty, pos, after, guard⟩).run P w = .ok (.value v) w' := by
  simp only [execOp, resolve, invoke, builtin, Sem.run_bind, Sem.run_pure, Result.andThen_ok, List.map_toArray, List.map_cons, List.map_nil, hs, hx, hr]
theorem run_arrCopy {α : Type} {E : FRel α} {t e : TypeId} {A : Option Addr} {n c : Nat} {cur : Array Value} {xs dx ys : List α} {l k : Int} {B : Option Addr} {nb cb : Nat} {d s : Operand} (h1 : E.n = 1) (ht : tyElem P t = some e) (hsz : tySize P e = some E.n)
    (h : Wd G w f (Arr A c cur :: L)) (hok : ArrOk f E A n c cur xs) (hcut : gcut xs l k = some dx) (hd : ev ρ d = .slice (cutA A E.n l.toNat c) (k.toNat - l.toNat) (c - l.toNat)) (hs : ev ρ s = .slice B nb cb) (hnb : nb = ys.length) (hsrc : Src w f E B ys) :
    ∃ w' v, (execOp (ev ρ) ⟨dst, .call { callee := .builtin .copy, args := #[d, s], argTypes := #[t, t] }, ty, pos, after, guard⟩).run P w = .ok (.value v) w' ∧ ∃ cur', v = .int .i64 (min (dx.length : Int) ys.length) ∧
      ArrOk f E A n c cur' (gcopy xs l.toNat dx.length ys) ∧ Wd G w' f (Arr A c cur' :: L) := by
  obtain ⟨rfl, h0, hlk, hkx, hdl⟩ := gcut_spec hcut
  obtain rfl := hok.len
  subst hnb
  obtain ⟨ie, hie, hisz⟩ := tySize_spec hsz
  rw [h1] at hisz
  have hu := tyElem_spec ht
  have hs1 : (P.info? e).map (·.size) = some 1 := by rw [hie]; simp [hisz]
  have hle := hok.le
  generalize hL0 : l.toNat = l0 at *
  generalize hK0 : k.toNat = k0 at *
  generalize hm : min (k0 - l0) ys.length = m
  rw [hdl]
  have hmin : min (((k0 - l0 : Nat) : Int)) (ys.length : Int) = (m : Int) := by omega
  rw [hmin]
  by_cases hm0 : m = 0
  · refine ⟨w, _, run_copy_op hd hs (run_copy_none w t t ty e _ _ _ _ _ _ hu hs1 (by show min ys.length (k0 - l0) = 0; omega)), cur, by simp [goInt, hm0], ?_, h⟩
    have : gcopy xs l0 (k0 - l0) ys = xs := by
      unfold gcopy
      rw [hm, hm0, Nat.add_zero]
      have : ys.take (k0 - l0) = [] := by
        rcases Nat.eq_zero_or_pos ys.length with hy | hy
        · rw [List.eq_nil_of_length_eq_zero hy]; simp
        · have : k0 - l0 = 0 := by omega
          rw [this]; simp
      rw [this, List.nil_append, List.take_append_drop]
    rw [this]; exact hok
  · rcases hsrc with rfl | ⟨a, rfl, hr⟩
    · simp at hm; omega
    rcases hok.or with hc0 | ⟨b, o, rfl, hz⟩
    · omega
    rw [h1, Nat.mul_one] at hz
    obtain ⟨S, hS, hS2, hS3⟩ := h.sep
    rcases hS with ⟨hc0, _⟩ | ⟨a', ha', hSb, cty, hcell⟩
    · omega
    injection ha' with ha'
    subst ha'
    have hheap : w.heap[b]? = some (.cells cur cty (0, 0)) := hcell
    let cs : List Value := (List.range m).map fun i => (w.cell? (a.add i)).getD undef
    have hcs : ∀ i, i < m → ∃ v y, cs[i]? = some v ∧ ys[i]? = some y ∧ w.cell? (a.add i) = some v ∧ v.oneCell' = true ∧ E.p f [v] y := by
      intro i hi
      have hy : ys[i]? = some (ys[i]'(by omega)) := List.getElem?_eq_getElem (by omega)
      obtain ⟨v, g1, g2, g3⟩ := hr i _ hy
      exact ⟨v, _, by simp [cs, hi, g1], hy, g1, g2, g3⟩
    have hlen : cs.length = m := by simp [cs]
    have hadr : cutA (some ⟨b, o, none⟩) E.n l0 c = some ⟨b, o + l0, none⟩ := by
      unfold cutA; rw [if_neg (by omega), h1]; simp [add_none]
    rw [hadr] at hd
    have hrun := run_copy_row (P := P) w t t ty e b (o + l0) (k0 - l0) (c - l0) a ys.length cb cur cty cs hu hs1 hheap (by rw [hlen]; show m = min ys.length (k0 - l0); omega)
      (fun j v hv => by
        have hj := (List.getElem?_eq_some_iff.1 hv).1
        obtain ⟨v', y, g1, _, g2, _⟩ := hcs j (by omega)
        rw [g1] at hv; injection hv with hv; subst hv; exact g2) (by omega)
      (fun v hv => by
        obtain ⟨j, hj⟩ := List.getElem?_of_mem hv
        have hjl := (List.getElem?_eq_some_iff.1 hj).1
        obtain ⟨v', y, g1, _, _, g2, _⟩ := hcs j (by omega)
        rw [g1] at hj; injection hj with hj; subst hj; exact g2)
    have hfit : o + l0 + cs.length ≤ cur.size := by omega
    refine ⟨_, _, run_copy_op hd hs hrun, splice cur (o + l0) cs, by simp [goInt, hlen], ?_, ?_⟩
    · have htl : (xs.take l0).length = l0 := by simp; omega
      have htk : (ys.take (k0 - l0)).length = m := by rw [List.length_take]; exact hm
      have hgl : (gcopy xs l0 (k0 - l0) ys).length = xs.length := by simp [gcopy]; omega
      refine ⟨hgl.symm, by omega, hok.max, .inr ⟨b, o, rfl, by rw [splice_size hfit, h1]; omega⟩, fun i x hx => ?_⟩
      have hi := (List.getElem?_eq_some_iff.1 hx).1
      by_cases hin : l0 ≤ i ∧ i < l0 + m
      · obtain ⟨v, y, g1, g2, g3, g4, g5⟩ := hcs (i - l0) (by omega)
        have hxy : x = y := by
          unfold gcopy at hx
          rw [List.getElem?_append_right (by rw [htl]; omega), htl, List.getElem?_append_left (by rw [htk]; omega), List.getElem?_take_of_lt (by omega), g2] at hx
          injection hx with hx; exact hx.symm
        subst hxy
        refine ⟨[v], fun j u hu => ?_, g5⟩
        obtain rfl : j = 0 := by have := (List.getElem?_eq_some_iff.1 hu).1; simpa using this
        simp at hu; subst hu
        have := splice_in hfit g1
        simp only [aoff, Option.getD_some, h1, Nat.mul_one, Nat.add_zero]
        rw [show o + i = o + l0 + (i - l0) by omega]; exact this
      · have hxx : xs[i]? = some x := by
          rw [← hx]
          unfold gcopy
          by_cases hlt : i < l0
          · rw [List.getElem?_append_left (by rw [htl]; omega), List.getElem?_take_of_lt hlt]
          · rw [List.getElem?_append_right (by rw [htl]; omega), htl, List.getElem?_append_right (by rw [htk]; omega), List.getElem?_drop, htk, hm]
            congr 1; omega
        obtain ⟨es, g1, g2⟩ := hok.get i x hxx
        refine ⟨es, fun j u hu => ?_, g2⟩
        have hj := (List.getElem?_eq_some_iff.1 hu).1
        rw [E.len g2, h1] at hj
        have := g1 j u hu
        simp only [aoff, Option.getD_some, h1, Nat.mul_one] at this ⊢
        rw [splice_out hfit (by omega)]; exact this
    · have hw := wd_setBlk (new := splice cur (o + l0) cs) 0 (show Wd G w f (Blk b (.cells cur cty (0, 0)) :: L) from ⟨h.os, h.tape, h.output, h.fro, S, ⟨hSb, hcell⟩, hS2, hS3⟩) rfl
      obtain ⟨S', ⟨k0', k1'⟩, k2, k3⟩ := hw.sep
      exact ⟨hw.os, hw.tape, hw.output, hw.fro, S', .inr ⟨_, rfl, k0', cty, k1'⟩, k2, k3⟩
theorem run_arrCopy0 {α : Type} {E : FRel α} {t e : TypeId} {A : Option Addr} {n c : Nat} {cur : Array Value} {xs ys : List α} {B : Option Addr} {nb cb : Nat} {d s : Operand} (h1 : E.n = 1) (ht : tyElem P t = some e) (hsz : tySize P e = some E.n)
    (h : Wd G w f (Arr A c cur :: L)) (hok : ArrOk f E A n c cur xs) (hd : ev ρ d = .slice A n c) (hs : ev ρ s = .slice B nb cb) (hnb : nb = ys.length) (hsrc : Src w f E B ys) :
    ∃ w' v, (execOp (ev ρ) ⟨dst, .call { callee := .builtin .copy, args := #[d, s], argTypes := #[t, t] }, ty, pos, after, guard⟩).run P w = .ok (.value v) w' ∧ ∃ cur', v = .int .i64 (min (xs.length : Int) ys.length) ∧
      ArrOk f E A n c cur' (gcopy xs 0 xs.length ys) ∧ Wd G w' f (Arr A c cur' :: L) := by
  have hcut : gcut xs 0 (xs.length : Int) = some xs := by
    unfold gcut
    rw [if_pos ⟨by omega, by omega, by omega⟩]; simp
  exact run_arrCopy h1 ht hsz h hok hcut (by rw [show (0 : Int).toNat = 0 from rfl, cutA_zero, hd, hok.len]; simp) hs hnb hsrc
end
end Hk
set_option linter.unusedVariables false
set_option maxRecDepth 4000
namespace Hk
open Go
def glim (n : Int) : Option Unit := if n ≤ 9223372036854775807 then some () else none
theorem glim_spec {n : Int} {u : Unit} (h : glim n = some u) : n ≤ 9223372036854775807 := by
  unfold glim at h; split at h
  · assumption
  · cases h
section
variable {G w : World} {f : HP} {L : List HProp}
theorem Wd.front2 {A0 A1 A2 : HProp} (h : Wd G w f (A0 :: A1 :: A2 :: L)) : Wd G w f (A2 :: A0 :: A1 :: L) := h.front 2 rfl
end
end Hk
