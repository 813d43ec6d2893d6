/- More steps of the printed proofs. -/
import Derived.Test.YtcidamhhffgipaaHkK
set_option linter.unusedVariables false
set_option linter.unusedSimpArgs false
namespace Hk
open Go
theorem and_keep {b p p' q : Prop} (hp : p) (h : p → q) : (b → p' → p) ∧ q := ⟨fun _ _ => hp, h hp⟩
theorem and_brk {b : Bool} {p q : Prop} (hb : b = true) (h : q) : (b = false → p) ∧ q := ⟨fun h0 => (by rw [hb] at h0; cases h0), h⟩
theorem fOpt_one {α : Type} {E : FRel α} {f : HP} {cs : List Value} {x : Option α} (h : (fOpt E).p f cs x) : ∃ v, cs = [v] ∧ (fOpt E).p f [v] x := by
  cases x with
  | none => exact ⟨_, h, rfl⟩
  | some y => obtain ⟨b, ds, ty, fr, rfl, h1, h2⟩ := h; exact ⟨_, rfl, b, ds, ty, fr, rfl, h1, h2⟩
theorem fOpt_some {α : Type} {E : FRel α} {f : HP} {v : Value} {x : Option α} {y : α} (h : (fOpt E).p f [v] x) (hx : x = some y) :
    ∃ b ds ty fr, v = .pointer (some ⟨b, 0, none⟩) ∧ f b = some (.cells (List.toArray ds) ty fr) ∧ E.p f ds y := by
  subst hx
  obtain ⟨b, ds, ty, fr, e, h1, h2⟩ := h
  exact ⟨b, ds, ty, fr, by simpa using e, h1, h2⟩
/-- what a draw's reads may lean on -/
def SW (G : World) (f : HP) (L : List HProp) : World → Prop := fun w' => ∃ f', HP.le f f' ∧ Wd G w' f' L
theorem SW.of {G w : World} {f : HP} {L : List HProp} (h : Wd G w f L) : SW G f L w := ⟨f, HP.le_refl _, h⟩
theorem SW.mk {G w : World} {f f' : HP} {L : List HProp} (hl : HP.le f f') (h : Wd G w f' L) : SW G f L w := ⟨f', hl, h⟩
/-- lists of elements, of which each reads so -/
def RelAll {α : Type} (E : FRel α) (f : HP) : List (List Value) → List α → Prop
  | [], [] => True
  | es :: l, x :: xs => E.p f es x ∧ RelAll E f l xs
  | _, _ => False
theorem RelAll.get {α : Type} {E : FRel α} {f : HP} : ∀ {ess : List (List Value)} {xs : List α}, RelAll E f ess xs →
    ess.length = xs.length ∧ ess.flatten.length = xs.length * E.n ∧ ∀ i x, xs[i]? = some x → ∃ es, (∀ j v, es[j]? = some v → ess.flatten[i * E.n + j]? = some v) ∧ E.p f es x
  | [], [], _ => ⟨rfl, by simp, fun i x h => by simp at h⟩
  | [], x :: xs, h => h.elim
  | es :: l, [], h => h.elim
  | es :: l, x :: xs, ⟨h1, h2⟩ => by
    obtain ⟨k1, k2, k3⟩ := RelAll.get h2
    have hlen := E.len h1
    refine ⟨by simp [k1], by simp [hlen, k2, Nat.add_mul]; omega, fun i y hy => ?_⟩
    cases i with
    | zero =>
      simp at hy; subst hy
      refine ⟨es, fun j v hv => ?_, h1⟩
      have hj := (List.getElem?_eq_some_iff.1 hv).1
      rw [List.flatten_cons, List.getElem?_append_left (by omega)]
      simpa using hv
    | succ i =>
      obtain ⟨es', e1, e2⟩ := k3 i y (by simpa using hy)
      refine ⟨es', fun j v hv => ?_, e2⟩
      have := e1 j v hv
      rw [List.flatten_cons, List.getElem?_append_right (by rw [hlen, Nat.add_mul]; omega), hlen]
      rw [show (i + 1) * E.n + j - E.n = i * E.n + j by rw [Nat.add_mul]; omega]
      exact this
section
variable {P : Program} {G w w' : World} {f : HP} {L : List HProp} {ρ : Env} {dst : Option Tmp} {ty : TypeId} {pos : String} {after : Array Edge} {guard : Option (Nat × Bool)}
/-- a literal's block becomes an owned array -/
theorem wd_arrL {α : Type} {E : FRel α} {b : Nat} {cs : List Value} {t : TypeId} {ess : List (List Value)} {xs : List α} (hE : RelAll E f ess xs) (hcs : cs = ess.flatten) (hm : Nat.ble xs.length maxLen = true) (h : Wd G w f (Blk b (.cells cs.toArray t (0, 0)) :: L)) :
    ∃ cur, ArrOk f E (some ⟨b, 0, none⟩) xs.length xs.length cur xs ∧ Wd G w f (Arr (some ⟨b, 0, none⟩) xs.length cur :: L) := by
  obtain ⟨k1, k2, k3⟩ := RelAll.get hE
  subst hcs
  exact ⟨_, wd_arrB (by omega) (Nat.le_of_ble_eq_true hm) k3 h⟩
/-- of no elements, wherever it points -/
theorem wd_arrZero {α : Type} {E : FRel α} (A : Option Addr) (h : Wd G w f L) : ArrOk f E A 0 0 #[] ([] : List α) ∧ Wd G w f (Arr A 0 #[] :: L) :=
  ⟨⟨rfl, Nat.le_refl _, by simp [maxLen], .inl rfl, fun i x hx => by simp at hx⟩, h.os, h.tape, h.output, h.fro, fun _ => False, .inl ⟨rfl, rfl⟩, fun _ hf => hf.elim, SepL.weaken (fun _ hb => ⟨hb, fun hf => hf⟩) h.sep⟩
/-- s[0:0:0] -/
theorem run_cut0 {t e : TypeId} {x lo hi mx : Operand} {A : Option Addr} {n c sz : Nat} (ht : tyElem P t = some e) (hk : tySize P e = some sz) (hx : ev ρ x = .slice A n c) (hl : ev ρ lo = .int .i64 0) (hh : ev ρ hi = .int .i64 0) (hm : ev ρ mx = .int .i64 0) :
    (execOp (ev ρ) ⟨dst, .slice t x (some lo) (some hi) (some mx), ty, pos, after, guard⟩).run P w = .ok (.value (.slice A 0 0)) w := by
  have hu := tyElem_spec ht
  obtain ⟨ie, hie, rfl⟩ := tySize_spec hk
  simp [execOp, Instr.slice, underlying, hu, hx, hl, hh, hm, Go.sizeOf, typeInfo, hie, go_sem]
theorem slf_cut {α : Type} {E : FRel α} {A : Option Addr} {n c : Nat} {xs r : List α} {l k : Int} (hs : SlF f E A n c xs) (hr : gcut xs l k = some r) : SlF f E (cutA A E.n l.toNat c) (k.toNat - l.toNat) (c - l.toNat) r := by
  obtain ⟨rfl, h0, h1, h2, h3⟩ := gcut_spec hr
  exact hs.cut h1 h2
theorem run_cut {α : Type} {t e : TypeId} {x : Operand} {lo hi : Option Operand} {A : Option Addr} {n c sz : Nat} {l k : Int} {xs r : List α} (ht : tyElem P t = some e) (hk : tySize P e = some sz) (hx : ev ρ x = .slice A n c)
    (hlen : n = xs.length) (hle : xs.length ≤ c) (hr : gcut xs l k = some r)
    (hlo : (lo = none ∧ l = 0) ∨ ∃ o, lo = some o ∧ ev ρ o = .int .i64 l) (hhi : (hi = none ∧ k = (xs.length : Int)) ∨ ∃ o, hi = some o ∧ ev ρ o = .int .i64 k) :
    (execOp (ev ρ) ⟨dst, .slice t x lo hi none, ty, pos, after, guard⟩).run P w = .ok (.value (.slice (cutA A sz l.toNat c) (k.toNat - l.toNat) (c - l.toNat))) w := by
  obtain ⟨_, h0, h1, h2, h3⟩ := gcut_spec hr
  have hk0 : 0 ≤ k := by
    unfold gcut at hr; split at hr
    · rename_i hc; omega
    · cases hr
  refine run_sliceS ht hk hx ?_ ?_ h1 (by omega)
  · rcases hlo with ⟨rfl, rfl⟩ | ⟨o, rfl, ho⟩
    · exact .inl ⟨rfl, rfl⟩
    · exact .inr ⟨o, rfl, by rw [ho, Int.toNat_of_nonneg h0]⟩
  · rcases hhi with ⟨rfl, rfl⟩ | ⟨o, rfl, ho⟩
    · exact .inl ⟨rfl, by simp [hlen]⟩
    · exact .inr ⟨o, rfl, by rw [ho, Int.toNat_of_nonneg hk0]⟩
theorem run_boolNe {t u : TypeId} {x y : Operand} {a b : Bool} (ht : P.underlying t = some .bool) (hx : ev ρ x = .bool a) (hy : ev ρ y = .bool b) :
    (execOp (ev ρ) ⟨dst, .binOp .neq t x y u, ty, pos, after, guard⟩).run P w = .ok (.value (.bool (a != b))) w := by
  have he : (Op.equal t (.bool a) (.bool b)).run P w = .ok (a == b) w := by
    have h1 : Op.equal t (.bool a) (.bool b) = Op.equalIn (9999 + 1) t (.bool a) (.bool b) := rfl
    rw [h1]
    generalize 9999 = d
    simp [Op.equalIn, underlying, ht, go_sem]
  simp [execOp, hx, hy, binOp, eqGuard, he, go_sem, bne]
theorem run_lenStr {t : TypeId} {x : Operand} {s : ByteArray} (ht : P.underlying t = some .string) (hx : ev ρ x = .string s) :
    (execOp (ev ρ) ⟨dst, .call { callee := .builtin .len, args := #[x], argTypes := #[t] }, ty, pos, after, guard⟩).run P w = .ok (.value (.int .i64 (s.size : Int))) w := by
  simp [execOp, resolve, invoke, builtin, Builtin.len_, underlying, ht, hx, goInt, go_sem]
theorem run_max4 {t u t' u' : TypeId} {x y z s : Operand} {k : IntKind} {a b c d : Int} (hx : ev ρ x = .int k a) (hy : ev ρ y = .int k b) (hz : ev ρ z = .int k c) (hs : ev ρ s = .int k d) :
    (execOp (ev ρ) ⟨dst, .call { callee := .builtin .max, args := #[x, y, z, s], argTypes := #[t, u, t', u'] }, ty, pos, after, guard⟩).run P w = .ok (.value (.int k (gmax (gmax (gmax a b) c) d))) w := by
  simp [execOp, resolve, invoke, builtin, Builtin.max_, Builtin.max2, hx, hy, hz, hs, gmax, go_sem] <;> rfl
theorem run_min4 {t u t' u' : TypeId} {x y z s : Operand} {k : IntKind} {a b c d : Int} (hx : ev ρ x = .int k a) (hy : ev ρ y = .int k b) (hz : ev ρ z = .int k c) (hs : ev ρ s = .int k d) :
    (execOp (ev ρ) ⟨dst, .call { callee := .builtin .min, args := #[x, y, z, s], argTypes := #[t, u, t', u'] }, ty, pos, after, guard⟩).run P w = .ok (.value (.int k (gmin (gmin (gmin a b) c) d))) w := by
  simp [execOp, resolve, invoke, builtin, Builtin.min_, Builtin.min2, hx, hy, hz, hs, gmin, go_sem] <;> rfl
theorem run_max3 {t u t' : TypeId} {x y z : Operand} {k : IntKind} {a b c : Int} (hx : ev ρ x = .int k a) (hy : ev ρ y = .int k b) (hz : ev ρ z = .int k c) :
    (execOp (ev ρ) ⟨dst, .call { callee := .builtin .max, args := #[x, y, z], argTypes := #[t, u, t'] }, ty, pos, after, guard⟩).run P w = .ok (.value (.int k (gmax (gmax a b) c))) w := by
  simp [execOp, resolve, invoke, builtin, Builtin.max_, Builtin.max2, hx, hy, hz, gmax, go_sem] <;> rfl
theorem run_min3 {t u t' : TypeId} {x y z : Operand} {k : IntKind} {a b c : Int} (hx : ev ρ x = .int k a) (hy : ev ρ y = .int k b) (hz : ev ρ z = .int k c) :
    (execOp (ev ρ) ⟨dst, .call { callee := .builtin .min, args := #[x, y, z], argTypes := #[t, u, t'] }, ty, pos, after, guard⟩).run P w = .ok (.value (.int k (gmin (gmin a b) c))) w := by
  simp [execOp, resolve, invoke, builtin, Builtin.min_, Builtin.min2, hx, hy, hz, gmin, go_sem] <;> rfl
/-- a slice against nil -/
theorem run_slCmp {t e u : TypeId} {x y : Operand} {A B : Option Addr} {n c n' c' : Nat} {op : BinOp} {b : Bool} (neg : Bool) (hop : cond neg .neq .eql = op) (ht : tyElem P t = some e) (hx : ev ρ x = .slice A n c) (hy : ev ρ y = .slice B n' c') (hnil : A = none ∨ B = none) (hb : ((A.isNone && B.isNone) ^^ neg) = b) :
    (execOp (ev ρ) ⟨dst, .binOp op t x y u, ty, pos, after, guard⟩).run P w = .ok (.value (.bool b)) w := by
  subst hb
  subst hop
  have hu := tyElem_spec ht
  have he : (Op.equal t (.slice A n c) (.slice B n' c')).run P w = .ok (A.isNone && B.isNone) w := by
    have h1 : Op.equal t (.slice A n c) (.slice B n' c') = Op.equalIn (9999 + 1) t (.slice A n c) (.slice B n' c') := rfl
    rw [h1]
    generalize 9999 = d
    rcases hnil with rfl | rfl
    · cases B <;> simp [Op.equalIn, underlying, hu, go_sem]
    · cases A <;> simp [Op.equalIn, underlying, hu, go_sem]
  cases neg <;> simp [execOp, hx, hy, binOp, eqGuard, he, go_sem]
theorem run_convII {t u : TypeId} {x : Operand} {k k' : IntKind} {a : Int} (ht : P.underlying t = some (.int k)) (hu : P.underlying u = some (.int k')) (hx : ev ρ x = .int k a) :
    (execOp (ev ρ) ⟨dst, .convert t u x, ty, pos, after, guard⟩).run P w = .ok (.value (.int k' (k'.wrap a))) w := by
  simp [execOp, hx, underlying, ht, hu, go_sem, Op.convert]
theorem run_blkSetE {b j : Nat} {cs new : Array Value} {bt t : TypeId} {a o : Operand} {v : Value} (h : Wd G w f (Blk b (.cells cs bt (0, 0)) :: L)) (ha : ev ρ a = .pointer (some ⟨b, j, none⟩)) (ho : ev ρ o = v) (hs : tySize P t = some v.cells.size)
    (hj : Nat.ble (j + v.cells.size) cs.size = true) (h1 : v.cells.toList.all Value.oneCell' = true) (hn : splice cs j v.cells.toList = new) :
    ∃ w', (execOp (ev ρ) ⟨dst, .store t a o, ty, pos, after, guard⟩).run P w = .ok .skip w' ∧ Wd G w' f (Blk b (.cells new bt (0, 0)) :: L) :=
  run_blkSet h ha ho hs hj (List.all_eq_true.1 h1) hn
theorem run_fieldEl {t : TypeId} {x : Operand} {i off : Nat} {ft : TypeId} {a ad : Addr} (ht : tyField P t i = some (off, ft)) (hx : ev ρ x = .pointer (some a)) (hn : a = ⟨a.block, a.off, none⟩) (hr : a.add off = ad) :
    (execOp (ev ρ) ⟨dst, .fieldAddr t x i, ty, pos, after, guard⟩).run P w = .ok (.value (.pointer (some ad))) w := by
  subst hr
  rw [hn] at hx ⊢
  rw [add_none]
  exact run_fieldAddr ht hx
theorem run_shl {t u : TypeId} {x y : Operand} {k k' : IntKind} {a b p : Int} (m m' : Nat) (hx : ev ρ x = .int k a) (hy : ev ρ y = .int k' b) (hb : b = (m' : Int)) (hm : min m' k.bits = m) (hp : ((2 ^ m : Nat) : Int) = p) :
    (execOp (ev ρ) ⟨dst, .binOp .shl t x y u, ty, pos, after, guard⟩).run P w = .ok (.value (.int k (k.wrap (a * p)))) w := by
  subst hb
  subst hp
  have hneg : ¬ ((m' : Int) < 0) := by omega
  have key : (Go.binOp .shl t (.int k a) (.int k' m')).run P w = .ok (.int k (k.wrap (a * 2 ^ m))) w := by
    show (Op.shift .shl k a k' m').run P w = _
    unfold Op.shift
    rw [if_neg hneg]
    simp only [Int.toNat_natCast, hm]
    rfl
  have e1 : execOp (ev ρ) ⟨dst, .binOp .shl t x y u, ty, pos, after, guard⟩ = (eqGuard .shl t x y (ev ρ x) (ev ρ y)).bind fun _ => (Go.binOp .shl t (ev ρ x) (ev ρ y)).bind fun v => .pure (Next.value v) := rfl
  have hpow : ((2 ^ m : Nat) : Int) = 2 ^ m := by simp
  have e2 : (eqGuard .shl t x y (ev ρ x) (ev ρ y)).run P w = .ok () w := by simp [eqGuard, go_sem]
  rw [e1, Sem.run_bind', e2, hx, hy]
  show ((Go.binOp .shl t (.int k a) (.int k' m')).bind fun v => .pure (Next.value v)).run P w = _
  rw [Sem.run_bind', key, hpow]
  rfl
theorem run_shr {t u : TypeId} {x y : Operand} {k k' : IntKind} {a b p : Int} (m m' : Nat) (hx : ev ρ x = .int k a) (hy : ev ρ y = .int k' b) (hb : b = (m' : Int)) (hm : min m' k.bits = m) (hp : ((2 ^ m : Nat) : Int) = p) :
    (execOp (ev ρ) ⟨dst, .binOp .shr t x y u, ty, pos, after, guard⟩).run P w = .ok (.value (.int k (a.fdiv p))) w := by
  subst hb
  subst hp
  have hneg : ¬ ((m' : Int) < 0) := by omega
  have key : (Go.binOp .shr t (.int k a) (.int k' m')).run P w = .ok (.int k (a.fdiv (2 ^ m))) w := by
    show (Op.shift .shr k a k' m').run P w = _
    unfold Op.shift
    rw [if_neg hneg]
    simp only [Int.toNat_natCast, hm]
    rfl
  have e1 : execOp (ev ρ) ⟨dst, .binOp .shr t x y u, ty, pos, after, guard⟩ = (eqGuard .shr t x y (ev ρ x) (ev ρ y)).bind fun _ => (Go.binOp .shr t (ev ρ x) (ev ρ y)).bind fun v => .pure (Next.value v) := rfl
  have hpow : ((2 ^ m : Nat) : Int) = 2 ^ m := by simp
  have e2 : (eqGuard .shr t x y (ev ρ x) (ev ρ y)).run P w = .ok () w := by simp [eqGuard, go_sem]
  rw [e1, Sem.run_bind', e2, hx, hy]
  show ((Go.binOp .shr t (.int k a) (.int k' m')).bind fun v => .pure (Next.value v)).run P w = _
  rw [Sem.run_bind', key, hpow]
  rfl
end
def iand (k : IntKind) (a b : Int) : Int := k.wrap ((BitVec.ofInt k.bits a &&& BitVec.ofInt k.bits b).toNat)
def ior (k : IntKind) (a b : Int) : Int := k.wrap ((BitVec.ofInt k.bits a ||| BitVec.ofInt k.bits b).toNat)
def ixor (k : IntKind) (a b : Int) : Int := k.wrap ((BitVec.ofInt k.bits a ^^^ BitVec.ofInt k.bits b).toNat)
theorem slf_none {α : Type} {f : HP} {E : FRel α} {n c : Nat} {xs : List α} (hs : SlF f E none n c xs) : xs = [] := by
  cases xs with
  | nil => rfl
  | cons x l => obtain ⟨b, o, es, e, _⟩ := hs.get 0 x rfl; cases e
theorem arr_none {α : Type} {f : HP} {E : FRel α} {n c : Nat} {cur : Array Value} {xs : List α} (hs : ArrOk f E none n c cur xs) : xs = [] := by
  rcases hs.or with h | ⟨b, o, h, _⟩
  · exact List.eq_nil_of_length_eq_zero (by have := hs.le; omega)
  · cases h
theorem gapp_nil {α : Type} {bytes : Nat} {xs : List α} {r : List α} (hx : xs = []) (h : ((gapp bytes [] xs).bind fun x => some x) = some r) : some [] = some r := by
  subst hx
  obtain ⟨x, h1, h2⟩ := bind_some h
  obtain ⟨rfl, _⟩ := gapp_spec h1
  exact h2
/-- division -/
def gquo (a b : Int) : Option Int := if b = 0 then none else some (w64 (a.tdiv b))
def grem (a b : Int) : Option Int := if b = 0 then none else some (a.tmod b)
theorem gquo_spec {a b q : Int} (h : gquo a b = some q) : b ≠ 0 ∧ w64 (a.tdiv b) = q := by
  unfold gquo at h; split at h
  · cases h
  · rename_i hb; exact ⟨hb, Option.some.inj h⟩
theorem grem_spec {a b q : Int} (h : grem a b = some q) : b ≠ 0 ∧ a.tmod b = q := by
  unfold grem at h; split at h
  · cases h
  · rename_i hb; exact ⟨hb, Option.some.inj h⟩
section
variable {P : Program} {w : World} {ρ : Env} {dst : Option Tmp} {ty : TypeId} {pos : String} {after : Array Edge} {guard : Option (Nat × Bool)}
theorem run_gquo {t u : TypeId} {x y : Operand} {a b q : Int} (hx : ev ρ x = .int .i64 a) (hy : ev ρ y = .int .i64 b) (hq : gquo a b = some q) :
    (execOp (ev ρ) ⟨dst, .binOp .quo t x y u, ty, pos, after, guard⟩).run P w = .ok (.value (.int .i64 q)) w := by
  obtain ⟨hb, rfl⟩ := gquo_spec hq
  exact run_quo hx hy hb
theorem run_grem {t u : TypeId} {x y : Operand} {a b q : Int} (hx : ev ρ x = .int .i64 a) (hy : ev ρ y = .int .i64 b) (hq : grem a b = some q) :
    (execOp (ev ρ) ⟨dst, .binOp .rem t x y u, ty, pos, after, guard⟩).run P w = .ok (.value (.int .i64 q)) w := by
  obtain ⟨hb, rfl⟩ := grem_spec hq
  exact run_rem hx hy hb
end
end Hk
