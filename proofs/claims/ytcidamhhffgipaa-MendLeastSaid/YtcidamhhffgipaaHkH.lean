/- Building, slicing, freezing; opening and shutting; the words of the pure functions. -/
import Derived.Test.YtcidamhhffgipaaHkG
import Derived.Laws.Tables
set_option linter.unusedVariables false
set_option linter.unusedSimpArgs false
namespace Hk
open Go

def tyPlaces (P : Program) (t : TypeId) : Option (List (Nat × Nat)) :=
  match P.underlying t with
  | some (.struct fs) => fs.toList.mapM (fun f => (P.info? f.type).map fun i => (f.offset, i.size))
  | _ => none
def partsOf (ρ : Env) : List (Nat × Operand) → List (Nat × Value)
  | [] => []
  | (i, x) :: r => (i, ev ρ x) :: partsOf ρ r
theorem partsOf_eq (ρ : Env) : ∀ l : List (Nat × Operand), partsOf ρ l = l.map fun (i, x) => (i, ev ρ x)
  | [] => rfl
  | (i, x) :: r => by simp [partsOf, partsOf_eq ρ r]

section
variable {P : Program} {G w w' : World} {f : HP} {L : List HProp} {ρ : Env} {dst : Option Tmp} {ty : TypeId} {pos : String} {after : Array Edge} {guard : Option (Nat × Bool)}
theorem run_buildS {t : TypeId} {parts : List (Nat × Operand)} {zv : Value} {pl : List (Nat × Nat)} {cs : List Value} (hz : tyZero P t = some zv) (hp : tyPlaces P t = some pl)
    (hf : fillL (fun i => pl[i]?) zv.cells.toList (partsOf ρ parts) = some cs) :
    (execOp (ev ρ) ⟨dst, .build t parts.toArray, ty, pos, after, guard⟩).run P w = .ok (.value (.agg cs.toArray)) w := by
  have hb : P.built t (parts.toArray.map fun (i, x) => (i, ev ρ x)).toList = some cs.toArray := by
    unfold tyPlaces at hp
    unfold tyZero at hz
    unfold Program.built
    cases hi : P.info? t with
    | none => simp [hi] at hz
    | some it =>
      cases hu : P.underlying t with
      | none => simp [hu] at hp
      | some d =>
        cases d <;> simp only [hu] at hp <;> try contradiction
        simp only [hi, Option.bind_some] at hz
        simp only [hz, hp]
        refine fill_of_L _ _ _ _ ?_
        rw [← hf, partsOf_eq]
        simp
  have hr := run_build (P := P) w t (parts.toArray.map fun (i, x) => (i, ev ρ x)) cs.toArray hb
  have e1 : execOp (ev ρ) ⟨dst, .build t parts.toArray, ty, pos, after, guard⟩ = (Instr.build t (parts.toArray.map fun (i, x) => (i, ev ρ x))).bind (fun v => .pure (.value v)) := rfl
  rw [e1, Sem.run_bind', hr]
  rfl
theorem run_buildA {t e : TypeId} {len k : Nat} {parts : List (Nat × Operand)} {zv : Value} {cs : List Value} (hz : tyZero P t = some zv) (hu : P.underlying t = some (.array len e)) (hk : tySize P e = some k)
    (hf : fillL (fun i => some (i * k, k)) zv.cells.toList (partsOf ρ parts) = some cs) :
    (execOp (ev ρ) ⟨dst, .build t parts.toArray, ty, pos, after, guard⟩).run P w = .ok (.value (.agg cs.toArray)) w := by
  obtain ⟨ie, hie, rfl⟩ := tySize_spec hk
  have hb : P.built t (parts.toArray.map fun (i, x) => (i, ev ρ x)).toList = some cs.toArray := by
    unfold tyZero at hz
    unfold Program.built
    cases hi : P.info? t with
    | none => simp [hi] at hz
    | some it =>
      simp only [hi, Option.bind_some] at hz
      simp only [hz, hu, hie]
      refine fill_of_L _ _ _ _ ?_
      rw [← hf, partsOf_eq]
      simp
  have hr := run_build (P := P) w t (parts.toArray.map fun (i, x) => (i, ev ρ x)) cs.toArray hb
  have e1 : execOp (ev ρ) ⟨dst, .build t parts.toArray, ty, pos, after, guard⟩ = (Instr.build t (parts.toArray.map fun (i, x) => (i, ev ρ x))).bind (fun v => .pure (.value v)) := rfl
  rw [e1, Sem.run_bind', hr]
  rfl
/-- a slice's literal: its cells in a new block -/
theorem run_buildSlice {t e : TypeId} {len k : Nat} {parts : List (Nat × Operand)} {zv : Value} {base cs : List Value} (ht : tyElem P t = some e) (hk : tySize P e = some k) (hz : tyZero P e = some zv) (hlen : Nat.ble (len * k) 1000000 = true)
    (hbase : (madeCells zv.cells (len * k)).toList = base) (hf : fillL (fun i => some (i * k, k)) base (partsOf ρ parts) = some cs) :
    (execOp (ev ρ) ⟨dst, .buildSlice t len parts.toArray, ty, pos, after, guard⟩).run P w = .ok (.value (.slice (some ⟨w.heap.size, 0, none⟩) len len)) (w.alloc (.cells cs.toArray e)) := by
  subst hbase
  have hu := tyElem_spec ht
  obtain ⟨ie, hie, rfl⟩ := tySize_spec hk
  have hzi : ie.zero = some zv := by unfold tyZero at hz; simpa [hie] using hz
  have hff := fill_of_L _ _ _ _ hf
  have hpp : (partsOf ρ parts) = (parts.toArray.map fun (i, x) => (i, ev ρ x)).toList := by rw [partsOf_eq]; simp
  rw [hpp] at hff
  have hle : ¬ (len * ie.size > 2 ^ 24) := by have := Nat.le_of_ble_eq_true hlen; omega
  have hr : (Instr.buildSlice t len (parts.toArray.map fun (i, x) => (i, ev ρ x))).run P w = .ok (.slice (some ⟨w.heap.size, 0, none⟩) len len) (w.alloc (.cells cs.toArray e)) := by
    generalize (parts.toArray.map fun (i, x) => (i, ev ρ x)) = ps at hff
    by_cases hn : len * ie.size = 0
    · have h0 : madeCells zv.cells (len * ie.size) = #[] := by simp [madeCells, hn, Array.range_zero']
      rw [h0] at hff
      simp [Instr.buildSlice, run_underlying hu, Go.sizeOf, typeInfo, hie, hn, hff, newRow, Array.range_zero']
    · have hm : madeCells zv.cells (len * ie.size) = (Array.range (len * ie.size)).map (zv.cells[· % zv.cells.size]!) := rfl
      rw [hm] at hff
      have hle' : ¬ (16777216 < len * ie.size) := by omega
      simp [Instr.buildSlice, run_underlying hu, Go.sizeOf, typeInfo, hie, zeroValue, hzi, hn, hle', hff, newRow]
  have e1 : execOp (ev ρ) ⟨dst, .buildSlice t len parts.toArray, ty, pos, after, guard⟩ = (Instr.buildSlice t len (parts.toArray.map fun (i, x) => (i, ev ρ x))).bind (fun v => .pure (.value v)) := rfl
  rw [e1, Sem.run_bind', hr]
  rfl

/-! ### slicing -/
def cutA (A : Option Addr) (k l c : Nat) : Option Addr := if c = l then A else A.map (·.add (l * k))
theorem run_sliceS {t e : TypeId} {x : Operand} {lo hi : Option Operand} {A : Option Addr} {n c k l h : Nat} (ht : tyElem P t = some e) (hk : tySize P e = some k) (hx : ev ρ x = .slice A n c)
    (hlo : (lo = none ∧ l = 0) ∨ ∃ o, lo = some o ∧ ev ρ o = .int .i64 (l : Int)) (hhi : (hi = none ∧ h = n) ∨ ∃ o, hi = some o ∧ ev ρ o = .int .i64 (h : Int)) (h1 : l ≤ h) (h2 : h ≤ c) :
    (execOp (ev ρ) ⟨dst, .slice t x lo hi none, ty, pos, after, guard⟩).run P w = .ok (.value (.slice (cutA A k l c) (h - l) (c - l))) w := by
  have hu := tyElem_spec ht
  obtain ⟨ie, hie, rfl⟩ := tySize_spec hk
  have hl1 : (l : Int) ≤ h := by omega
  have hl2 : (h : Int) ≤ c := by omega
  rcases hlo with ⟨rfl, rfl⟩ | ⟨o, rfl, ho⟩ <;> rcases hhi with ⟨rfl, rfl⟩ | ⟨o', rfl, ho'⟩
  all_goals simp [execOp, Instr.sliceAt, Instr.slice, Instr.sliceBounds, Instr.sliceBound, asIntOf, run_underlying hu, hx, Go.sizeOf, typeInfo, hie, cutA, go_sem, *]
theorem SlF.cut {α : Type} {E : FRel α} {A : Option Addr} {n c : Nat} {xs : List α} (hs : SlF f E A n c xs) {l h : Nat} (h1 : l ≤ h) (h2 : h ≤ xs.length) : SlF f E (cutA A E.n l c) (h - l) (c - l) ((xs.take h).drop l) := by
  obtain ⟨k0, k1, k2, k3⟩ := hs
  refine ⟨by simp; omega, by simp; omega, by omega, fun i x hx => ?_⟩
  rw [List.getElem?_drop, List.getElem?_take] at hx
  split at hx
  case isFalse => cases hx
  rename_i hlt
  obtain ⟨b, o, es, rfl, e1, e2⟩ := k3 _ _ hx
  refine ⟨b, o + l * E.n, es, ?_, fun j v hv => ?_, e2⟩
  · unfold cutA
    rw [if_neg (by omega)]
    simp [add_none]
  · have := e1 j v hv
    rw [Nat.add_mul] at this
    rw [show o + l * E.n + i * E.n + j = o + (l * E.n + i * E.n) + j by omega]
    exact this
theorem own_cut {α : Type} {E : ORel α} {A : Option Addr} {n c : Nat} {xs : List α} {l h : Nat} (h1 : l ≤ h) (h2 : h ≤ xs.length) (hw : Wd G w f (Hv [.slice A n c] (oSl E) xs :: L)) :
    Wd G w f (Hv [.slice (cutA A E.fz.n l c) (h - l) (c - l)] (oSl E) ((xs.take h).drop l) :: L) := by
  refine hw.step0 rfl rfl rfl fun S hS hne => ⟨S, ?_, fun b hb => ⟨.inl hb, hne b hb⟩, fun _ _ _ => rfl⟩
  obtain ⟨rfl, k1, k2, k3⟩ := oSl_inv hS
  have hll : ((xs.take h).drop l).length = h - l := by simp; omega
  refine ⟨_, _, by rw [hll], by rw [hll]; omega, by omega, ?_⟩
  rcases k3 with rfl | ⟨b, o, cur, ty, rfl, hb, hc, hz, F, e1, e2, e3⟩
  · left; omega
  · right
    by_cases hcl : c = l
    · refine ⟨b, o, cur, ty, by unfold cutA; rw [if_pos hcl], hb, hc, by rw [show c - l = 0 by omega]; have : 0 ≤ c * E.fz.n := Nat.zero_le _; omega, fun _ _ => False, fun _ _ hf => hf.elim, fun _ _ _ _ hf => hf.elim, fun i x hx => ?_⟩
      rw [List.getElem?_drop, List.getElem?_take] at hx
      split at hx
      · omega
      · cases hx
    · refine ⟨b, o + l * E.fz.n, cur, ty, by unfold cutA; rw [if_neg hcl]; simp [add_none], hb, hc, ?_, fun i => F (l + i), fun i b' hf => e1 _ b' hf, fun i j b' hij => e2 _ _ b' (by omega), fun i x hx => ?_⟩
      · have : l * E.fz.n + (c - l) * E.fz.n = c * E.fz.n := by rw [← Nat.add_mul]; congr 1; omega
        omega
      · rw [List.getElem?_drop, List.getElem?_take] at hx
        split at hx
        case isFalse => cases hx
        obtain ⟨es, f1, f2⟩ := e3 _ _ hx
        refine ⟨es, fun j v hv => ?_, f2⟩
        have := f1 j v hv
        rw [Nat.add_mul] at this
        rw [show o + l * E.fz.n + i * E.fz.n + j = o + (l * E.fz.n + i * E.fz.n) + j by omega]
        exact this

/-! ### freezing, opening, shutting -/
open Classical in
noncomputable def addF (f h : HP) (S : Foot) : HP := fun b => match f b with | some o => some o | none => if S b then h b else none
/-- what is owned stays as it is from here on -/
theorem wd_freeze {A : HProp} (h : Wd G w f (A :: L)) : ∃ f' S, HP.le f f' ∧ A.p f (wh w) S ∧ (∀ b, S b → f' b = wh w b) ∧ Wd G w f' L := by
  obtain ⟨S, h1, h2, h3⟩ := h.sep
  have hle : HP.le f (addF f (wh w) S) := fun b o hb => by simp [addF, hb]
  refine ⟨addF f (wh w) S, S, hle, h1, fun b hb => ?_, h.os, h.tape, h.output, fun b o hb => ?_, ?_⟩
  · simp only [addF, (h2 b hb).1, if_pos hb]
  · unfold addF at hb
    cases hf : f b with
    | some o' => simp only [hf] at hb; cases hb; exact h.fro b o hf
    | none =>
      simp only [hf] at hb
      split at hb
      · exact hb
      · cases hb
  · refine SepL.monoF hle (SepL.weaken (fun b hb => ?_) h3)
    simp only [addF, hb.1, if_neg hb.2]
theorem wd_freezeV {α : Type} {R : ORel α} {cs : List Value} {x : α} (h : Wd G w f (Hv cs R x :: L)) : ∃ f', HP.le f f' ∧ R.fz.p f' cs x ∧ Wd G w f' L := by
  obtain ⟨f', S, h1, h2, h3, h4⟩ := wd_freeze h
  exact ⟨f', h1, R.freeze h2 h1 h3, h4⟩
/-- a frozen block, known -/
theorem wd_freezeB {b : Nat} {o : Obj} (h : Wd G w f (Blk b o :: L)) : ∃ f', HP.le f f' ∧ f' b = some o ∧ Wd G w f' L := by
  obtain ⟨f', S, h1, h2, h3, h4⟩ := wd_freeze h
  exact ⟨f', h1, by rw [h3 b h2.1]; exact h2.2, h4⟩
/-- a block that holds a value is shut -/
theorem wd_shut {α : Type} {R : ORel α} {b : Nat} {arr : Array Value} {cs : List Value} {t : TypeId} {x : α} (hcs : arr.toList = cs) (h : Wd G w f (Blk b (.cells arr t (0, 0)) :: Hv cs R x :: L)) : Wd G w f (Pt b t R x :: L) := by
  subst hcs
  obtain ⟨S, ⟨h0, h1⟩, h2, T, hT, t2, h3⟩ := h.sep
  refine ⟨h.os, h.tape, h.output, h.fro, fun b' => S b' ∨ T b', ⟨.inl h0, arr, T, h1, hT, fun b' hb' => ⟨.inr hb', fun e => by subst e; exact (t2 _ hb').1.2 h0⟩⟩, fun b' hb' => ?_, ?_⟩
  · rcases hb' with hb' | hb'
    · exact h2 b' hb'
    · exact ⟨(t2 b' hb').1.1, (t2 b' hb').2⟩
  · exact SepL.weaken (fun b' hb' => ⟨hb'.1.1, fun hn => hn.elim (fun h => hb'.1.2 h) hb'.2⟩) h3
/-- .. where the value is one that lies in the frozen part -/
theorem wd_shutF {α : Type} {E : FRel α} {b : Nat} {arr : Array Value} {cs : List Value} {t : TypeId} {x : α} (hcs : arr.toList = cs) (hE : E.p f cs x) (h : Wd G w f (Blk b (.cells arr t (0, 0)) :: L)) : Wd G w f (Pt b t (oF E) x :: L) := by
  subst hcs
  obtain ⟨S, ⟨h0, h1⟩, h2, h3⟩ := h.sep
  exact ⟨h.os, h.tape, h.output, h.fro, S, ⟨h0, arr, fun _ => False, h1, hE, fun _ hf => hf.elim⟩, h2, h3⟩
/-- .. and opened -/
theorem wd_open {α : Type} {R : ORel α} {b : Nat} {t : TypeId} {x : α} (h : Wd G w f (Pt b t R x :: L)) : ∃ arr : Array Value, Wd G w f (Blk b (.cells arr t (0, 0)) :: Hv arr.toList R x :: L) := by
  obtain ⟨S, ⟨h0, arr, S', h1, hR, h3⟩, h2, h4⟩ := h.sep
  refine ⟨arr, h.os, h.tape, h.output, h.fro, fun b' => b' = b, ⟨rfl, h1⟩, fun b' hb' => by subst hb'; exact h2 _ h0, S', hR, fun b' hb' => ⟨⟨(h2 b' (h3 b' hb').1).1, (h3 b' hb').2⟩, (h2 b' (h3 b' hb').1).2⟩, ?_⟩
  exact SepL.weaken (fun b' hb' => ⟨⟨hb'.1, fun e => by subst e; exact hb'.2 h0⟩, fun hn => hb'.2 (h3 b' hn).1⟩) h4
theorem wd_openF {α : Type} {E : FRel α} {b : Nat} {t : TypeId} {x : α} (h : Wd G w f (Pt b t (oF E) x :: L)) : ∃ arr : Array Value, E.p f arr.toList x ∧ Wd G w f (Blk b (.cells arr t (0, 0)) :: L) := by
  obtain ⟨S, ⟨h0, arr, S', h1, hR, h3⟩, h2, h4⟩ := h.sep
  exact ⟨arr, hR, h.os, h.tape, h.output, h.fro, S, ⟨h0, h1⟩, h2, h4⟩
/-- nothing is owned by a value that lies in the frozen part -/
theorem wd_addF {α : Type} {E : FRel α} {cs : List Value} {x : α} (hE : E.p f cs x) (h : Wd G w f L) : Wd G w f (Hv cs (oF E) x :: L) :=
  ⟨h.os, h.tape, h.output, h.fro, fun _ => False, hE, fun _ hf => hf.elim, SepL.weaken (fun _ hb => ⟨hb, fun hf => hf⟩) h.sep⟩
theorem wd_ofF {α : Type} {E : FRel α} {cs : List Value} {x : α} (h : Wd G w f (Hv cs (oF E) x :: L)) : E.p f cs x ∧ Wd G w f L :=
  ⟨let ⟨_, h1, _⟩ := h.sep; h1, h.drop1⟩
/-- a new block's cells as the elements of an owned slice -/
theorem wd_ownB {α : Type} {E : FRel α} {b : Nat} {arr : Array Value} {t : TypeId} {xs : List α} {n : Nat} (hn : n = xs.length) (hlen : xs.length * E.n ≤ arr.size) (hm : xs.length ≤ maxLen)
    (hE : ∀ i x, xs[i]? = some x → ∃ es, (∀ j v, es[j]? = some v → arr[i * E.n + j]? = some v) ∧ E.p f es x) (h : Wd G w f (Blk b (.cells arr t (0, 0)) :: L)) :
    Wd G w f (Hv [.slice (some ⟨b, 0, none⟩) n n] (oSl (oF E)) xs :: L) := by
  subst hn
  refine h.step0 rfl rfl rfl fun S hS hne => ⟨S, ⟨_, _, rfl, Nat.le_refl _, hm, .inr ⟨b, 0, arr, t, rfl, hS.1, hS.2, by simpa [oF] using hlen, fun _ _ => False, fun _ _ hf => hf.elim, fun _ _ _ _ hf => hf.elim, fun i x hx => ?_⟩⟩,
    fun b' hb' => ⟨.inl hb', hne b' hb'⟩, fun _ _ _ => rfl⟩
  obtain ⟨es, e1, e2⟩ := hE i x hx
  exact ⟨es, fun j v hv => by have := e1 j v hv; simpa [oF] using this, e2⟩
/-- nil is an owned slice -/
theorem wd_ownNil {α : Type} {E : ORel α} (h : Wd G w f L) : Wd G w f (Hv [.slice none 0 0] (oSl E) ([] : List α) :: L) :=
  ⟨h.os, h.tape, h.output, h.fro, fun _ => False, ⟨none, 0, rfl, Nat.le_refl _, by simp [maxLen], .inl rfl⟩, fun _ hf => hf.elim, SepL.weaken (fun _ hb => ⟨hb, fun hf => hf⟩) h.sep⟩
/-- the front goes to place k -/
theorem Wd.unfront (k : Nat) {A A' : HProp} (hk : L[k]? = some A) (h : Wd G w f (A' :: L.eraseIdx k)) : Wd G w f (L.set k A') :=
  ⟨h.os, h.tape, h.output, h.fro, SepL.unfront k (List.getElem?_eq_some_iff.1 hk).1 h.sep⟩
theorem Wd.monoL {f' : HP} (hle : HP.le f f') (hfw : HP.le f' (wh w)) : True := trivial
end

/-! ### the words of the pure functions -/
def ifb {α : Type} (b : Bool) (x y : Option α) : Option α := cond b x y
theorem ifb_t {α : Type} {b : Bool} {x y : Option α} {r : α} (hb : b = true) (h : ifb b x y = some r) : x = some r := by subst hb; exact h
theorem ifb_f {α : Type} {b : Bool} {x y : Option α} {r : α} (hb : b = false) (h : ifb b x y = some r) : y = some r := by subst hb; exact h
theorem bind_some {α β : Type} {o : Option α} {k : α → Option β} {r : β} (h : o.bind k = some r) : ∃ x, o = some x ∧ k x = some r := Option.bind_eq_some_iff.1 h
/-- a round goes on, or is left -/
inductive Ctl (σ X : Type) where
  | go (s : σ)
  | out (x : X)
/-- for each element of a list, with its number -/
def forO {α σ X : Type} (body : Nat → α → σ → Option (Ctl σ X)) : Nat → List α → σ → Option (Ctl σ X)
  | _, [], s => some (.go s)
  | i, x :: xs, s => (body i x s).bind fun | .go s' => forO body (i + 1) xs s' | .out x => some (.out x)
def iterN {σ X : Type} (body : σ → Option (Ctl σ X)) : Nat → σ → Option X
  | 0, _ => none
  | n + 1, s => (body s).bind fun | .go s' => iterN body n s' | .out x => some x
/-- more rounds than any loop here has -/
def bigN : Nat := 1606938044258990275541962092341162602522202993782792835301376
/-- until it is left -/
def iter {σ X : Type} (body : σ → Option (Ctl σ X)) (s : σ) : Option X := iterN body bigN s
theorem iterN_mono {σ X : Type} {body : σ → Option (Ctl σ X)} : ∀ {n : Nat} {s : σ} {x : X}, iterN body n s = some x → ∀ m, n ≤ m → iterN body m s = some x
  | 0, _, _, h, _, _ => by simp [iterN] at h
  | n + 1, s, x, h, 0, hm => by omega
  | n + 1, s, x, h, m + 1, hm => by
    simp only [iterN] at h ⊢
    cases hb : body s with
    | none => simp [hb] at h
    | some c =>
      cases c with
      | go s' => simp only [hb, Option.bind_some] at h ⊢; exact iterN_mono h m (by omega)
      | out y => simpa [hb] using h
theorem iter_of_N {σ X : Type} {body : σ → Option (Ctl σ X)} {n : Nat} {s : σ} {x : X} (hn : n ≤ bigN) (h : iterN body n s = some x) : iter body s = some x := iterN_mono h bigN hn
theorem N_of_iter {σ X : Type} {body : σ → Option (Ctl σ X)} {s : σ} {x : X} (h : iter body s = some x) : ∃ n, iterN body n s = some x := ⟨bigN, h⟩
end Hk
