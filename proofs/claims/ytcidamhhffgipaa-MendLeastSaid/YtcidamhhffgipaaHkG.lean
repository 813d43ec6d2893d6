/- Reading and writing what is owned; making, building, slicing, freezing; opening and shutting. -/
import Derived.Test.YtcidamhhffgipaaHkF
import Derived.Laws.MakeOwn
set_option linter.unusedVariables false
set_option linter.unusedSimpArgs false
namespace Hk
open Go

section
variable {P : Program} {G w w' : World} {f : HP} {L : List HProp} {ρ : Env} {dst : Option Tmp} {ty : TypeId} {pos : String} {after : Array Edge} {guard : Option (Nat × Bool)}

theorem run_idx {α : Type} {t e : TypeId} {x ix : Operand} {A : Option Addr} {n c k : Nat} {i : Int} {xs : List α} {y : α} {b o : Nat} (ht : tyElem P t = some e) (hs : tySize P e = some k) (hx : ev ρ x = .slice A n c) (hn : n = xs.length) (hi : ev ρ ix = .int .i64 i)
    (hy : idx xs i = some y) (hA : A = some ⟨b, o, none⟩) :
    (execOp (ev ρ) ⟨dst, .indexAddr t x ix, ty, pos, after, guard⟩).run P w = .ok (.value (.pointer (some (eAdr A (i.toNat * k))))) w :=
  run_indexAddr ht hs hx hi (idx_spec hy).1 (by rw [hn]; exact (idx_spec hy).2.1) hA
theorem eAdr_add {A : Option Addr} {b o k j : Nat} (hA : A = some ⟨b, o, none⟩) : (eAdr A k).add j = ⟨b, o + k + j, none⟩ := by subst hA; exact add_none b (o + k) j
/-- an element of a frozen slice: its cells -/
theorem slf_get {α : Type} {E : FRel α} {A : Option Addr} {n c : Nat} {xs : List α} {i : Int} {x : α} (h : Wd G w f L) (hs : SlF f E A n c xs) (hx : idx xs i = some x) :
    ∃ b o es, A = some ⟨b, o, none⟩ ∧ (∀ j v, es[j]? = some v → w.cell? ((eAdr A (i.toNat * E.n)).add j) = some v) ∧ E.p f es x := by
  obtain ⟨b, o, es, hA, hc, he⟩ := slf_at h hs hx
  exact ⟨b, o, es, hA, fun j v hv => by rw [eAdr_add hA]; exact hc j v hv, he⟩
/-- .. of an owned one -/
theorem own_get {α : Type} {E : FRel α} {A : Option Addr} {n c : Nat} {xs : List α} {i : Int} {x : α} (k : Nat) (h : Wd G w f L) (hk : L[k]? = some (Hv [.slice A n c] (oSl (oF E)) xs)) (hx : idx xs i = some x) :
    ∃ b o es, A = some ⟨b, o, none⟩ ∧ (∀ j v, es[j]? = some v → w.cell? ((eAdr A (i.toNat * E.n)).add j) = some v) ∧ E.p f es x := by
  obtain ⟨h0, h1, h2⟩ := idx_spec hx
  obtain ⟨S, hS, _⟩ := (h.front k hk).sep
  obtain ⟨rfl, k1, k2, k3⟩ := oSl_inv hS
  rcases k3 with rfl | ⟨b, o, cur, cty, rfl, hb, hc, hz, F, e1, e2, e3⟩
  · omega
  · obtain ⟨es, f1, f2⟩ := e3 _ _ h2
    exact ⟨b, o, es, rfl, fun j v hv => by rw [eAdr_add rfl, cell_of hc]; exact f1 j v hv, f2⟩
/-- how long an owned slice is -/
theorem own_len {α : Type} {E : ORel α} {A : Option Addr} {n c : Nat} {xs : List α} (k : Nat) (h : Wd G w f L) (hk : L[k]? = some (Hv [.slice A n c] (oSl E) xs)) : n = xs.length ∧ xs.length ≤ c ∧ c ≤ maxLen := by
  obtain ⟨S, hS, _⟩ := (h.front k hk).sep
  obtain ⟨e, k1, k2, _⟩ := oSl_inv hS
  exact ⟨e, k1, k2⟩
theorem run_storeA {t : TypeId} {a x : Operand} {A : Option Addr} {k b o : Nat} {v : Value} {cur : Array Value} {bt : TypeId} (ha : ev ρ a = .pointer (some (eAdr A k))) (hA : A = some ⟨b, o, none⟩) (hx : ev ρ x = v) (hs : tySize P t = some v.cells.size)
    (hb : w.heap[b]? = some (.cells cur bt (0, 0))) (hj : o + k + v.cells.size ≤ cur.size) (h1 : ∀ u ∈ v.cells.toList, u.oneCell' = true) :
    (execOp (ev ρ) ⟨dst, .store t a x, ty, pos, after, guard⟩).run P w = .ok .skip (w.setRow b (splice cur (o + k) v.cells.toList)) := by
  subst hA
  exact run_store ha hx hs hb hj h1
/-- an element of an owned slice is written: at the front -/
theorem own_set0 {α : Type} {E : FRel α} {A : Option Addr} {n c : Nat} {xs : List α} {i : Int} {x y : α} {news : List Value} (h : Wd G w f (Hv [.slice A n c] (oSl (oF E)) xs :: L)) (hx : idx xs i = some x) (hy : E.p f news y) :
    ∃ b o cur bt, A = some ⟨b, o, none⟩ ∧ w.heap[b]? = some (.cells cur bt (0, 0)) ∧ o + i.toNat * E.n + news.length ≤ cur.size ∧
      Wd G (w.setRow b (splice cur (o + i.toNat * E.n) news)) f (Hv [.slice A n c] (oSl (oF E)) (setI xs i y) :: L) := by
  obtain ⟨h0, h1, h2⟩ := idx_spec hx
  have hn := (own_len 0 h rfl).1
  obtain ⟨es, h', _⟩ := wd_take h h2
  obtain ⟨b, o, cur, bt, hA, hb, hfit, h''⟩ := wd_hole_set h' (E.len hy)
  refine ⟨b, o, cur, bt, hA, hb, hfit, ?_⟩
  refine wd_put (E := oF E) (es := news) hn ?_
  -- the element's own footprint is empty
  obtain ⟨S, k1, k2, T, t1, t2, k3⟩ := h''.sep
  exact ⟨h''.os, h''.tape, h''.output, h''.fro, S, k1, k2, fun _ => False, hy, fun _ hf => hf.elim, SepL.weaken (fun b' hb' => ⟨hb'.1, fun hf => hf⟩) k3⟩
theorem own_set {α : Type} {E : FRel α} {A : Option Addr} {n c : Nat} {xs : List α} {i : Int} {x y : α} {news : List Value} (k : Nat) (h : Wd G w f L) (hk : L[k]? = some (Hv [.slice A n c] (oSl (oF E)) xs)) (hx : idx xs i = some x) (hy : E.p f news y) :
    ∃ b o cur bt, A = some ⟨b, o, none⟩ ∧ w.heap[b]? = some (.cells cur bt (0, 0)) ∧ o + i.toNat * E.n + news.length ≤ cur.size ∧
      Wd G (w.setRow b (splice cur (o + i.toNat * E.n) news)) f (L.set k (Hv [.slice A n c] (oSl (oF E)) (setI xs i y))) := by
  obtain ⟨b, o, cur, bt, hA, hb, hfit, h'⟩ := own_set0 (h.front k hk) hx hy
  refine ⟨b, o, cur, bt, hA, hb, hfit, ?_⟩
  have hlt := (List.getElem?_eq_some_iff.1 hk).1
  exact ⟨h'.os, h'.tape, h'.output, h'.fro, SepL.unfront k hlt h'.sep⟩

/-! ### making -/
def mkRoom : Nat := 281474976710656
/-- make([]T, n): n zero values -/
def gmake {α : Type} (bytes : Nat) (n : Int) (z : α) : Option (List α) :=
  if 0 ≤ n ∧ bytes * n.toNat ≤ mkRoom ∧ n.toNat ≤ maxLen then some (List.replicate n.toNat z) else none
theorem madeCells_get {z : Array Value} {n i j : Nat} {v : Value} (hz : z[j]? = some v) (hi : i < n) : (madeCells z (n * z.size))[i * z.size + j]? = some v := by
  have hj := (Array.getElem?_eq_some_iff.1 hz).1
  have hlt : i * z.size + j < n * z.size := by
    have : (i + 1) * z.size ≤ n * z.size := Nat.mul_le_mul_right _ hi
    rw [Nat.add_mul] at this; omega
  have hmod : (i * z.size + j) % z.size = j := by rw [Nat.add_comm, Nat.add_mul_mod_self_right]; exact Nat.mod_eq_of_lt hj
  simp only [madeCells, Array.getElem?_map]
  rw [Array.getElem?_range, if_pos hlt]
  simp only [Option.map_some, hmod, Option.some.injEq]
  rw [getElem!_pos z j hj]
  exact (Array.getElem?_eq_some_iff.1 hz).2
theorem wd_make {α : Type} {E : ORel α} {t e : TypeId} {bytes : Nat} {l c : Operand} {n : Int} {z : α} {xs : List α} {zv : Value} (hT : tyElem P t = some e) (hsz : tySize P e = some E.fz.n) (hby : tyBytes P e = some bytes) (hzv : tyZero P e = some zv)
    (hz : ∀ h, E.p f h zv.cells.toList z (fun _ => False)) (hl : ev ρ l = .int .i64 n) (hc : ev ρ c = .int .i64 n) (hm : gmake bytes n z = some xs) (h : Wd G w f L) :
    ∃ w' b, (execOp (ev ρ) ⟨dst, .makeSlice t l c, ty, pos, after, guard⟩).run P w = .ok (.value (.slice (some ⟨b, 0, none⟩) xs.length xs.length)) w' ∧
      Wd G w' f (Hv [.slice (some ⟨b, 0, none⟩) xs.length xs.length] (oSl E) xs :: L) := by
  obtain ⟨i, hi, hisz⟩ := tySize_spec hsz
  have ht := tyElem_spec hT
  have hzi : i.zero = some zv := by unfold tyZero at hzv; simpa [hi] using hzv
  have hbi : i.bytes = bytes := by unfold tyBytes at hby; simpa [hi] using hby
  unfold gmake at hm
  split at hm
  case isFalse => cases hm
  rename_i hcond
  obtain ⟨h0, hb, h63⟩ := hcond
  injection hm with hm
  subst hm
  have h63' : n ≤ 9223372036854775807 := by simp only [maxLen] at h63; omega
  have hb' : (i.bytes : Int) * n ≤ 281474976710656 := by
    have h1 : ((i.bytes * n.toNat : Nat) : Int) ≤ 281474976710656 := by rw [hbi]; simp only [mkRoom] at hb; omega
    rw [Int.natCast_mul] at h1
    rwa [show ((n.toNat : Nat) : Int) = n by omega] at h1
  have hr := run_make (P := P) w t e i zv ht hi hzi .i64 .i64 n n h0 (Int.le_refl _) hb' h63'
  have hzl : zv.cells.toList.length = E.fz.n := E.len (hz (wh w))
  refine ⟨w.alloc (.cells (madeCells zv.cells (n.toNat * i.size)) e), w.heap.size, ?_, ?_⟩
  · have e1 : execOp (ev ρ) ⟨dst, .makeSlice t l c, ty, pos, after, guard⟩ = (Instr.makeSlice t (ev ρ l) (ev ρ c)).bind (fun v => .pure (.value v)) := rfl
    rw [e1, hl, hc, Sem.run_bind', hr]
    simp
  · have hnew := wd_new (cs := madeCells zv.cells (n.toNat * i.size)) (t := e) h
    refine hnew.step0 rfl rfl rfl fun S hS hne => ⟨S, ⟨_, _, rfl, Nat.le_refl _, by simpa using h63, .inr ⟨w.heap.size, 0, _, e, rfl, hS.1, hS.2, ?_, fun _ _ => False, fun _ _ hf => hf.elim, fun _ _ _ _ hf => hf.elim, fun k y hk => ?_⟩⟩,
      fun b' hb' => ⟨.inl hb', hne b' hb'⟩, fun b' _ _ => rfl⟩
    · simp [size_madeCells, hisz]
    · have hlt := (List.getElem?_eq_some_iff.1 hk).1
      have hy : z = y := by
        have := (List.getElem?_eq_some_iff.1 hk).2
        simpa using this
      subst hy
      refine ⟨zv.cells.toList, fun j v hv => ?_, hz _⟩
      have hs : i.size = zv.cells.size := by rw [hisz, ← hzl]; simp
      rw [hs, Nat.zero_add, ← hzl, Array.length_toList]
      exact madeCells_get (by simpa using hv) (by simpa using hlt)

/-! ### literals -/
def fillL (place : Nat → Option (Nat × Nat)) : List Value → List (Nat × Value) → Option (List Value)
  | cs, [] => some cs
  | cs, (i, v) :: rest =>
    match place i with
    | some (off, size) => bif Nat.beq v.cells.toList.length size && Nat.ble (off + v.cells.toList.length) cs.length then fillL place (cs.take off ++ v.cells.toList ++ cs.drop (off + v.cells.toList.length)) rest else none
    | none => none
theorem foldl_set (off : Nat) : ∀ (vs : List Value) (k : Nat) (cs : Array Value), off + k + vs.length ≤ cs.size →
    (vs.zipIdx k).foldl (fun cs (x : Value × Nat) => cs.setIfInBounds (off + x.2) x.1) cs = (cs.toList.take (off + k) ++ vs ++ cs.toList.drop (off + k + vs.length)).toArray
  | [], k, cs, h => by simp
  | v :: vs, k, cs, h => by
    simp only [List.zipIdx_cons, List.foldl_cons, List.length_cons] at h ⊢
    rw [foldl_set off vs (k + 1) _ (by simp; omega)]
    apply Array.ext'
    apply List.ext_getElem?
    intro j
    simp only [List.getElem?_append, List.length_append, List.length_take, Array.length_toList, Array.size_setIfInBounds, List.length_cons, List.getElem?_take, List.getElem?_drop, Array.getElem?_toList, Array.getElem?_setIfInBounds]
    have m1 : min (off + (k + 1)) cs.size = off + k + 1 := by omega
    have m2 : min (off + k) cs.size = off + k := by omega
    rw [m1, m2]
    rcases Nat.lt_trichotomy j (off + k) with hj | hj | hj
    · simp only [show j < off + k + 1 + vs.length by omega, show j < off + k + 1 by omega, show j < off + (k + 1) by omega, show off + k ≠ j by omega, show j < off + k + (vs.length + 1) by omega, hj, if_true, if_false, ite_true, ite_false]
    · subst hj
      simp only [show off + k < off + k + 1 + vs.length by omega, show off + k < off + k + 1 by omega, show off + k < off + (k + 1) by omega, show off + k < off + k + (vs.length + 1) by omega, show off + k < cs.size by omega, Nat.lt_irrefl, Nat.sub_self, if_true, if_false, List.getElem?_cons_zero]
    · by_cases h2 : j < off + k + 1 + vs.length
      · have e2 : j - (off + k) = (j - (off + k + 1)) + 1 := by omega
        simp only [h2, show ¬ j < off + k + 1 by omega, show ¬ j < off + k by omega, show j < off + k + (vs.length + 1) by omega, if_true, if_false, e2, List.getElem?_cons_succ]
      · have e3 : off + k + 1 + vs.length + (j - (off + k + 1 + vs.length)) = j := by omega
        have e4 : off + k + (vs.length + 1) + (j - (off + k + (vs.length + 1))) = j := by omega
        simp only [h2, show ¬ j < off + k + (vs.length + 1) by omega, if_false, show off + (k + 1) + vs.length + (j - (off + k + 1 + vs.length)) = j by omega, e4, show off + k ≠ j by omega]
theorem fill_of_L (place : Nat → Option (Nat × Nat)) : ∀ (parts : List (Nat × Value)) (cs : Array Value) (cs' : List Value), fillL place cs.toList parts = some cs' → Instr.fill place cs parts = some cs'.toArray
  | [], cs, cs', h => by simp only [fillL, Option.some.injEq] at h; subst h; simp [Instr.fill]
  | (i, v) :: rest, cs, cs', h => by
    unfold fillL at h
    unfold Instr.fill
    cases hp : place i with
    | none => simp [hp] at h
    | some q =>
      obtain ⟨off, size⟩ := q
      simp only [hp] at h ⊢
      cases hb : (Nat.beq v.cells.toList.length size && Nat.ble (off + v.cells.toList.length) cs.toList.length) with
      | false => rw [hb] at h; cases h
      | true =>
        rw [hb] at h
        simp only [cond_true] at h
        simp only [Bool.and_eq_true, Array.length_toList] at hb
        have h1 : v.cells.size = size := Nat.eq_of_beq_eq_true hb.1
        have h2 : off + v.cells.size ≤ cs.size := Nat.le_of_ble_eq_true hb.2
        have hcond : (v.cells.size ≠ size || off + v.cells.size > cs.size) = false := by simp [h1]; omega
        rw [hcond]
        simp only [Bool.false_eq_true, if_false]
        refine fill_of_L place rest _ cs' ?_
        rw [← h]
        congr 1
        have hz : v.cells.zipIdx.foldl (fun cs (x : Value × Nat) => cs.setIfInBounds (off + x.2) x.1) cs = (v.cells.toList.zipIdx 0).foldl (fun cs (x : Value × Nat) => cs.setIfInBounds (off + x.2) x.1) cs := by
          rw [← Array.foldl_toList, Array.toList_zipIdx]
        show (v.cells.zipIdx.foldl (fun cs (x : Value × Nat) => cs.setIfInBounds (off + x.2) x.1) cs).toList = _
        rw [hz, foldl_set off v.cells.toList 0 cs (by simpa using h2)]
        simp
end
end Hk
