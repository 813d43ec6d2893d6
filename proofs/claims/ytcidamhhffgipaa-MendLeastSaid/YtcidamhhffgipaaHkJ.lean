/- Owned arrays whose cells are known ('pinned'); reads that hold in every world that meets the description. -/
import Derived.Test.YtcidamhhffgipaaHkI
set_option linter.unusedVariables false
set_option linter.unusedSimpArgs false
namespace Hk
open Go

/-- the array behind 'A': its cells -/
def Arr (A : Option Addr) (c : Nat) (cur : Array Value) : HProp :=
  ⟨fun _ h S => (c = 0 ∧ cur = #[]) ∨ ∃ a, A = some a ∧ S a.block ∧ ∃ ty, h a.block = some (.cells cur ty (0, 0)),
   fun {f h g S} hp hs => hp.imp id fun ⟨a, h0, h1, ty, h2⟩ => ⟨a, h0, h1, ty, (hs _ h1).trans h2⟩,
   fun {f g h S} _ hp => hp⟩
def hcell_get (f : HP) (a : Addr) : Value := (hcell f a).getD undef
def aoff (A : Option Addr) : Nat := (A.getD default).off
structure ArrOk {α : Type} (f : HP) (E : FRel α) (A : Option Addr) (n c : Nat) (cur : Array Value) (xs : List α) : Prop where
  len : n = xs.length
  le : xs.length ≤ c
  max : c ≤ maxLen
  or : c = 0 ∨ ∃ b o, A = some ⟨b, o, none⟩ ∧ o + c * E.n ≤ cur.size
  get : ∀ i x, xs[i]? = some x → ∃ es, (∀ j v, es[j]? = some v → cur[aoff A + i * E.n + j]? = some v) ∧ E.p f es x
theorem ArrOk.mono {α : Type} {f g : HP} {E : FRel α} {A : Option Addr} {n c : Nat} {cur : Array Value} {xs : List α} (hok : ArrOk f E A n c cur xs) (hl : HP.le f g) : ArrOk g E A n c cur xs :=
  ⟨hok.len, hok.le, hok.max, hok.or, fun i x hx => let ⟨es, h1, h2⟩ := hok.get i x hx; ⟨es, h1, E.mono hl h2⟩⟩

section
variable {P : Program} {G w w' : World} {f : HP} {L : List HProp} {ρ : Env} {dst : Option Tmp} {ty : TypeId} {pos : String} {after : Array Edge} {guard : Option (Nat × Bool)}
theorem Wd.fz {a : Addr} {v : Value} (h : Wd G w f L) (hc : hcell f a = some v) : w.cell? a = some v := by rw [← hcell_wh]; exact hcell_le h.fro hc
theorem Wd.mv {f' : HP} (h : Wd G w f L) (hf : f' = f) : Wd G w f' L := by subst hf; exact h
theorem wd_cells {b off : Nat} {cs vs : List Value} {t : TypeId} {fr : Nat × Nat} (i : Nat) (h : Wd G w f L) (hi : L[i]? = some (Blk b (.cells cs.toArray t fr))) (hsub : (cs.drop off).take vs.length = vs) :
    ∀ j v, vs[j]? = some v → w.cell? ((⟨b, off, none⟩ : Addr).add j) = some v := by
  intro j v hv
  rw [add_none, cell_of (wd_blk i h hi)]
  have hj := (List.getElem?_eq_some_iff.1 hv).1
  rw [← hsub] at hv
  rw [List.getElem?_take_of_lt hj, List.getElem?_drop] at hv
  simpa using hv
/-- a frozen element: what its cells are -/
theorem sl_el {α : Type} {E : FRel α} {A : Option Addr} {n c : Nat} {xs : List α} {i : Int} {x : α} (hs : SlF f E A n c xs) (hx : idx xs i = some x) :
    ∃ b o es, A = some ⟨b, o, none⟩ ∧ (∀ j v, es[j]? = some v → hcell f ((eAdr A (i.toNat * E.n)).add j) = some v) ∧ E.p f es x := by
  obtain ⟨h0, h1, h2⟩ := idx_spec hx
  obtain ⟨b, o, es, rfl, hc, he⟩ := hs.get _ _ h2
  exact ⟨b, o, es, rfl, fun j v hv => by rw [eAdr_add rfl]; exact hc j v hv, he⟩
/-- an owned element -/
theorem arr_el {α : Type} {E : FRel α} {A : Option Addr} {n c : Nat} {cur : Array Value} {xs : List α} {i : Int} {x : α} (hok : ArrOk f E A n c cur xs) (hx : idx xs i = some x) :
    ∃ b o es, A = some ⟨b, o, none⟩ ∧ (∀ j v, es[j]? = some v → cur[aoff A + i.toNat * E.n + j]? = some v) ∧ E.p f es x := by
  obtain ⟨h0, h1, h2⟩ := idx_spec hx
  obtain ⟨es, e1, e2⟩ := hok.get _ _ h2
  rcases hok.or with rfl | ⟨b, o, rfl, _⟩
  · have := hok.le; omega
  · exact ⟨b, o, es, rfl, e1, e2⟩
theorem wd_arr {A : Option Addr} {c : Nat} {cur : Array Value} {b o k j : Nat} {v : Value} (i : Nat) (h : Wd G w f L) (hi : L[i]? = some (Arr A c cur)) (hA : A = some ⟨b, o, none⟩) (hc : cur[aoff A + k + j]? = some v) :
    w.cell? ((eAdr A k).add j) = some v := by
  subst hA
  obtain ⟨S, h1, _⟩ := (h.front i hi).sep
  rcases h1 with ⟨_, rfl⟩ | ⟨a, ha, _, ty, h1⟩
  · simp at hc
  injection ha with ha
  subst ha
  rw [eAdr_add rfl]
  have h1' : w.heap[b]? = some (.cells cur ty (0, 0)) := h1
  rw [cell_of h1']
  exact hc
theorem wd_pin {α : Type} {E : FRel α} {A : Option Addr} {n c : Nat} {xs : List α} (h : Wd G w f (Hv [.slice A n c] (oSl (oF E)) xs :: L)) : ∃ cur, ArrOk f E A n c cur xs ∧ Wd G w f (Arr A c cur :: L) := by
  obtain ⟨S, hS, h2, h3⟩ := h.sep
  obtain ⟨rfl, k1, k2, k3⟩ := oSl_inv hS
  rcases k3 with rfl | ⟨b, o, cur, cty, rfl, hb, hc, hz, F, e1, e2, e3⟩
  · have hx : xs = [] := List.eq_nil_of_length_eq_zero (by omega)
    subst hx
    exact ⟨#[], ⟨rfl, k1, k2, .inl rfl, fun i x hx => by simp at hx⟩, h.os, h.tape, h.output, h.fro, S, .inl ⟨rfl, rfl⟩, h2, h3⟩
  · exact ⟨cur, ⟨rfl, k1, k2, .inr ⟨b, o, rfl, hz⟩, fun i x hx => e3 i x hx⟩, h.os, h.tape, h.output, h.fro, S, .inr ⟨_, rfl, hb, cty, hc⟩, h2, h3⟩
theorem wd_unpin {α : Type} {E : FRel α} {A : Option Addr} {n c : Nat} {cur : Array Value} {xs : List α} (hok : ArrOk f E A n c cur xs) (h : Wd G w f (Arr A c cur :: L)) : Wd G w f (Hv [.slice A n c] (oSl (oF E)) xs :: L) := by
  obtain rfl := hok.len
  obtain ⟨S, hS, h2, h3⟩ := h.sep
  rcases hok.or with rfl | ⟨b, o, rfl, hz⟩
  · exact ⟨h.os, h.tape, h.output, h.fro, S, ⟨A, 0, rfl, hok.le, hok.max, .inl rfl⟩, h2, h3⟩
  · rcases hS with ⟨rfl, _⟩ | ⟨a, ha, hb, cty, hc⟩
    · exact ⟨h.os, h.tape, h.output, h.fro, S, ⟨_, 0, rfl, hok.le, hok.max, .inl rfl⟩, h2, h3⟩
    injection ha with ha
    subst ha
    exact ⟨h.os, h.tape, h.output, h.fro, S, ⟨_, c, rfl, hok.le, hok.max, .inr ⟨b, o, cur, cty, rfl, hb, hc, hz, fun _ _ => False, fun _ _ hf => hf.elim, fun _ _ _ _ hf => hf.elim, fun i x hx => hok.get i x hx⟩⟩, h2, h3⟩
/-- an element is written, or a part of it -/
theorem run_arrSet {α : Type} {E : FRel α} {A : Option Addr} {n c : Nat} {cur : Array Value} {xs : List α} {i : Int} {x y : α} {t : TypeId} {a o : Operand} {v : Value} {news : List Value} (h : Wd G w f (Arr A c cur :: L)) (hok : ArrOk f E A n c cur xs)
    (hx : idx xs i = some x) (ha : ev ρ a = .pointer (some (eAdr A (i.toNat * E.n)))) (ho : ev ρ o = v) (hs : tySize P t = some v.cells.size) (hv : v.cells.toList = news) (hy : E.p f news y) :
    ∃ w', (execOp (ev ρ) ⟨dst, .store t a o, ty, pos, after, guard⟩).run P w = .ok .skip w' ∧ ∃ cur', ArrOk f E A n c cur' (setI xs i y) ∧ Wd G w' f (Arr A c cur' :: L) := by
  have h1 := wd_unpin hok h
  obtain ⟨b, of, cu, bt, hA, hb, hfit, hw⟩ := own_set0 h1 hx hy
  obtain ⟨cur', hok', hw'⟩ := wd_pin hw
  subst hv
  exact ⟨_, run_storeA ha hA ho hs hb (by simpa using hfit) (E.one hy), cur', (own_len 0 h1 rfl).1 ▸ hok', hw'⟩
/-- a known block is written -/
theorem run_blkSet {b j : Nat} {cs new : Array Value} {bt t : TypeId} {a o : Operand} {v : Value} (h : Wd G w f (Blk b (.cells cs bt (0, 0)) :: L)) (ha : ev ρ a = .pointer (some ⟨b, j, none⟩)) (ho : ev ρ o = v) (hs : tySize P t = some v.cells.size)
    (hj : Nat.ble (j + v.cells.size) cs.size = true) (h1 : ∀ u ∈ v.cells.toList, u.oneCell' = true) (hn : splice cs j v.cells.toList = new) :
    ∃ w', (execOp (ev ρ) ⟨dst, .store t a o, ty, pos, after, guard⟩).run P w = .ok .skip w' ∧ Wd G w' f (Blk b (.cells new bt (0, 0)) :: L) := by
  subst hn
  exact ⟨_, run_store ha ho hs (wd_blk 0 h rfl) (Nat.le_of_ble_eq_true hj) h1, wd_setBlk0 h⟩
/-- append: some elements whose cells are known -/
theorem run_arrApp {α : Type} {E : FRel α} {t e : TypeId} {bytes : Nat} (hT : ApTy P t e E.n bytes) {A : Option Addr} {n c : Nat} {cur : Array Value} {xs ys r : List α} {s x : Operand} {B : Option Addr} {nb cb : Nat} {news : List Value}
    (h : Wd G w f (Arr A c cur :: L)) (hok : ArrOk f E A n c cur xs) (hs : ev ρ s = .slice A n c) (hx : ev ρ x = .slice B nb cb) (hnb : nb = ys.length)
    (hB : ys = [] ∨ ∃ a, B = some a ∧ ∀ j u, news[j]? = some u → w.cell? (a.add j) = some u) (hl : news.length = ys.length * E.n)
    (hy : ∀ i y, ys[i]? = some y → ∃ es, (∀ j v, es[j]? = some v → news[i * E.n + j]? = some v) ∧ E.p f es y) (h1 : ∀ u ∈ news, u.oneCell' = true) (hr : gapp bytes xs ys = some r) :
    ∃ w' v, (execOp (ev ρ) ⟨dst, .call { callee := .builtin .append, args := #[s, x], argTypes := #[t, t] }, ty, pos, after, guard⟩).run P w = .ok (.value v) w' ∧ ∃ A' n' c' cur', v = .slice A' n' c' ∧
      ArrOk f E A' n' c' cur' r ∧ Wd G w' f (Arr A' c' cur' :: L) := by
  obtain rfl := hok.len
  subst hnb
  obtain ⟨rfl, hb, h63⟩ := gapp_spec hr
  rcases hB with rfl | ⟨a, rfl, hnews⟩
  · obtain ⟨i, hi, hisz⟩ := tySize_spec hT.size
    refine ⟨w, _, ?_, A, _, c, cur, rfl, by simpa using hok, h⟩
    have := run_append_op (P := P) (dst := dst) (ty := ty) (pos := pos) (after := after) (guard := guard) hs hx (run_append_zero w t ty e i (tyElem_spec hT.elem) hi A B xs.length c cb hok.le)
    exact this
  · have h2 := wd_unpin hok h
    obtain ⟨A', c', w', hrun, hw'⟩ := wd_append (ty := ty) hT h2 rfl hnews hl hy h1 hb h63 (cx := cb)
    obtain ⟨cur', hok', hw''⟩ := wd_pin hw'
    exact ⟨w', _, run_append_op hs hx hrun, A', _, c', cur', rfl, hok', hw''⟩
/-- .. all elements of a frozen slice -/
theorem run_arrAppF {α : Type} {E : FRel α} {t e : TypeId} {bytes : Nat} (hT : ApTy P t e E.n bytes) {A : Option Addr} {n c : Nat} {cur : Array Value} {xs ys r : List α} {s x : Operand} {B : Option Addr} {nb cb : Nat}
    (h : Wd G w f (Arr A c cur :: L)) (hok : ArrOk f E A n c cur xs) (hs : ev ρ s = .slice A n c) (hx : ev ρ x = .slice B nb cb) (hnb : nb = ys.length) (hy : SlF f E B nb cb ys) (hr : gapp bytes xs ys = some r) :
    ∃ w' v, (execOp (ev ρ) ⟨dst, .call { callee := .builtin .append, args := #[s, x], argTypes := #[t, t] }, ty, pos, after, guard⟩).run P w = .ok (.value v) w' ∧ ∃ A' n' c' cur', v = .slice A' n' c' ∧
      ArrOk f E A' n' c' cur' r ∧ Wd G w' f (Arr A' c' cur' :: L) := by
  by_cases hys : ys = []
  · subst hys
    exact run_arrApp hT h hok hs hx hnb (.inl rfl) (news := []) (by simp) (fun i y hy => by simp at hy) (by simp) hr
  · -- the cells, as many as there are
    have hce : ∀ k, k < ys.length * E.n → ∃ v, (∃ b o, B = some ⟨b, o, none⟩ ∧ hcell f ⟨b, o + k, none⟩ = some v) ∧ v.oneCell' = true := by
      intro k hk
      have hn : 0 < E.n := by rcases Nat.eq_zero_or_pos E.n with h0 | h0; · rw [h0] at hk; omega
                              · exact h0
      have hki : k / E.n < ys.length := by rw [Nat.div_lt_iff_lt_mul hn]; exact hk
      obtain ⟨b, o, es, hB, hc, he⟩ := hy.get (k / E.n) _ (List.getElem?_eq_getElem hki)
      have hm : k % E.n < es.length := by rw [E.len he]; exact Nat.mod_lt _ hn
      refine ⟨es[k % E.n], ⟨b, o, hB, ?_⟩, E.one he _ (List.getElem_mem hm)⟩
      have := hc (k % E.n) _ (List.getElem?_eq_getElem hm)
      rw [show o + k / E.n * E.n + k % E.n = o + k by have := Nat.div_add_mod k E.n; rw [Nat.mul_comm] at this; omega] at this
      exact this
    obtain ⟨b, o, hB⟩ : ∃ b o, B = some ⟨b, o, none⟩ := by
      obtain ⟨y, hy0⟩ : ∃ y, ys[0]? = some y := by
        cases ys with
        | nil => exact absurd rfl hys
        | cons y l => exact ⟨y, rfl⟩
      obtain ⟨b, o, _, hB, _⟩ := hy.get 0 y hy0
      exact ⟨b, o, hB⟩
    subst hB
    have hce' : ∀ k, k < ys.length * E.n → ∃ v, hcell f ⟨b, o + k, none⟩ = some v ∧ v.oneCell' = true := by
      intro k hk
      obtain ⟨v, ⟨b', o', hB, hv⟩, h1⟩ := hce k hk
      simp at hB
      obtain ⟨rfl, rfl⟩ := hB
      exact ⟨v, hv, h1⟩
    let news : List Value := (List.range (ys.length * E.n)).map fun k => (hcell_get f ⟨b, o + k, none⟩)
    have hg : ∀ k, k < ys.length * E.n → news[k]? = some (hcell_get f ⟨b, o + k, none⟩) ∧ hcell f ⟨b, o + k, none⟩ = some (hcell_get f ⟨b, o + k, none⟩) ∧ (hcell_get f ⟨b, o + k, none⟩).oneCell' = true := by
      intro k hk
      obtain ⟨v, hv, h1⟩ := hce' k hk
      have : hcell_get f ⟨b, o + k, none⟩ = v := by simp [hcell_get, hv]
      refine ⟨by simp [news, hk], by rw [this]; exact hv, by rw [this]; exact h1⟩
    have hlen : news.length = ys.length * E.n := by simp [news]
    refine run_arrApp hT h hok hs hx hnb (.inr ⟨⟨b, o, none⟩, rfl, fun j u hu => ?_⟩) hlen (fun i y hyi => ?_) (fun u hu => ?_) hr
    · have hj := (List.getElem?_eq_some_iff.1 hu).1
      rw [hlen] at hj
      obtain ⟨g1, g2, _⟩ := hg j hj
      rw [g1] at hu; injection hu with hu; subst hu
      rw [add_none]
      exact Wd.fz h g2
    · obtain ⟨b', o', es, hB, hc, he⟩ := hy.get i y hyi
      simp at hB
      obtain ⟨rfl, rfl⟩ := hB
      refine ⟨es, fun j v hv => ?_, he⟩
      have hj : j < E.n := by rw [← E.len he]; exact (List.getElem?_eq_some_iff.1 hv).1
      have hi := (List.getElem?_eq_some_iff.1 hyi).1
      have hlt : i * E.n + j < ys.length * E.n := by
        have : (i + 1) * E.n ≤ ys.length * E.n := Nat.mul_le_mul_right _ hi
        rw [Nat.add_mul] at this; omega
      obtain ⟨g1, g2, _⟩ := hg _ hlt
      have := hc j v hv
      rw [Nat.add_assoc] at this
      rw [g2] at this
      rw [g1]; exact this
    · obtain ⟨j, hj⟩ := List.getElem?_of_mem hu
      have hjl := (List.getElem?_eq_some_iff.1 hj).1
      rw [hlen] at hjl
      obtain ⟨g1, _, g3⟩ := hg j hjl
      rw [g1] at hj; injection hj with hj; subst hj; exact g3
/-- .. one element, out of a literal's block -/
theorem run_arrApp1 {α : Type} {E : FRel α} {t e : TypeId} {bytes : Nat} (hT : ApTy P t e E.n bytes) {A : Option Addr} {n c : Nat} {cur : Array Value} {xs r : List α} {y : α} {s x : Operand} {b : Nat} {cs : List Value} {bt : TypeId}
    (h : Wd G w f (Arr A c cur :: Blk b (.cells cs.toArray bt (0, 0)) :: L)) (hok : ArrOk f E A n c cur xs) (hs : ev ρ s = .slice A n c) (hx : ev ρ x = .slice (some ⟨b, 0, none⟩) 1 1) (hy : E.p f cs y) (hr : gapp bytes xs [y] = some r) :
    ∃ w' v, (execOp (ev ρ) ⟨dst, .call { callee := .builtin .append, args := #[s, x], argTypes := #[t, t] }, ty, pos, after, guard⟩).run P w = .ok (.value v) w' ∧ ∃ A' n' c' cur', v = .slice A' n' c' ∧
      ArrOk f E A' n' c' cur' r ∧ Wd G w' f (Arr A' c' cur' :: L) := by
  obtain ⟨w', v, h1, A', n', c', cur', h4, h2, h3⟩ := run_arrApp hT h hok hs (ys := [y]) hx rfl (news := cs) (.inr ⟨⟨b, 0, none⟩, rfl, wd_cells 1 h rfl (by simp)⟩) (by simp [E.len hy])
    (fun i y' hy' => by
      cases i with
      | zero => simp at hy'; subst hy'; exact ⟨cs, fun j v hv => by simpa using hv, hy⟩
      | succ i => simp at hy') (E.one hy) hr
  exact ⟨w', v, h1, A', n', c', cur', h4, h2, h3.swap.drop1⟩
/-- make -/
theorem run_arrMake {α : Type} {E : FRel α} {t e : TypeId} {bytes : Nat} {l c : Operand} {n : Int} {z : α} {xs : List α} {zv : Value} (hT : tyElem P t = some e) (hsz : tySize P e = some E.n) (hby : tyBytes P e = some bytes) (hzv : tyZero P e = some zv)
    (hz : E.p f zv.cells.toList z) (hl : ev ρ l = .int .i64 n) (hc : ev ρ c = .int .i64 n) (hm : gmake bytes n z = some xs) (h : Wd G w f L) :
    ∃ w' v, (execOp (ev ρ) ⟨dst, .makeSlice t l c, ty, pos, after, guard⟩).run P w = .ok (.value v) w' ∧ ∃ A' n' c' cur, v = .slice A' n' c' ∧
      ArrOk f E A' n' c' cur xs ∧ Wd G w' f (Arr A' c' cur :: L) := by
  obtain ⟨w', b, h1, h2⟩ := wd_make (E := oF E) (dst := dst) (ty := ty) (pos := pos) (after := after) (guard := guard) hT hsz hby hzv (fun _ => hz) hl hc hm h
  obtain ⟨cur, h3, h4⟩ := wd_pin h2
  exact ⟨w', _, h1, _, _, _, cur, rfl, h3, h4⟩
/-- a literal's block becomes an owned array -/
theorem wd_arrB {α : Type} {E : FRel α} {b : Nat} {cs : List Value} {t : TypeId} {xs : List α} (hlen : xs.length * E.n ≤ cs.length) (hm : xs.length ≤ maxLen)
    (hE : ∀ i x, xs[i]? = some x → ∃ es, (∀ j v, es[j]? = some v → cs[i * E.n + j]? = some v) ∧ E.p f es x) (h : Wd G w f (Blk b (.cells cs.toArray t (0, 0)) :: L)) :
    ArrOk f E (some ⟨b, 0, none⟩) xs.length xs.length cs.toArray xs ∧ Wd G w f (Arr (some ⟨b, 0, none⟩) xs.length cs.toArray :: L) := by
  refine ⟨⟨rfl, Nat.le_refl _, hm, .inr ⟨b, 0, rfl, by simpa using hlen⟩, fun i x hx => ?_⟩, ?_⟩
  · obtain ⟨es, h1, h2⟩ := hE i x hx
    exact ⟨es, fun j v hv => by simpa [aoff] using h1 j v hv, h2⟩
  · obtain ⟨S, ⟨h0, h1⟩, h2, h3⟩ := h.sep
    exact ⟨h.os, h.tape, h.output, h.fro, S, .inr ⟨_, rfl, h0, t, h1⟩, h2, h3⟩
theorem wd_arrNil {α : Type} {E : FRel α} (h : Wd G w f L) : ArrOk f E none 0 0 #[] ([] : List α) ∧ Wd G w f (Arr none 0 #[] :: L) :=
  ⟨⟨rfl, Nat.le_refl _, by simp [maxLen], .inl rfl, fun i x hx => by simp at hx⟩, h.os, h.tape, h.output, h.fro, fun _ => False, .inl ⟨rfl, rfl⟩, fun _ hf => hf.elim, SepL.weaken (fun _ hb => ⟨hb, fun hf => hf⟩) h.sep⟩
theorem arr_cut {α : Type} {E : FRel α} {A : Option Addr} {n c : Nat} {cur : Array Value} {xs r : List α} {l k : Int} (hok : ArrOk f E A n c cur xs) (hr : gcut xs l k = some r) (h : Wd G w f (Arr A c cur :: L)) :
    ∃ cur', ArrOk f E (cutA A E.n l.toNat c) (k.toNat - l.toNat) (c - l.toNat) cur' r ∧ Wd G w f (Arr (cutA A E.n l.toNat c) (c - l.toNat) cur' :: L) := by
  obtain ⟨rfl, h0, h1, h2, h3⟩ := gcut_spec hr
  exact wd_pin (own_cut h1 h2 (wd_unpin hok h))
/-- an owned array is frozen -/
theorem arr_freeze {α : Type} {E : FRel α} {A : Option Addr} {n c : Nat} {cur : Array Value} {xs : List α} (hok : ArrOk f E A n c cur xs) (h : Wd G w f (Arr A c cur :: L)) : ∃ f', HP.le f f' ∧ SlF f' E A n c xs ∧ Wd G w f' L := by
  obtain ⟨f', h1, h2, h3⟩ := wd_freezeV (wd_unpin hok h)
  obtain ⟨A', n', c', e, h4⟩ := h2
  simp at e
  obtain ⟨rfl, rfl, rfl⟩ := e
  exact ⟨f', h1, h4, h3⟩
theorem ArrOk.room {α : Type} {E : FRel α} {A : Option Addr} {n c : Nat} {cur : Array Value} {xs : List α} (hok : ArrOk f E A n c cur xs) : xs.length ≤ 9223372036854775807 := by
  have h1 := hok.le; have h2 := hok.max; simp only [maxLen] at h2; omega
theorem SlF.room {α : Type} {E : FRel α} {A : Option Addr} {n c : Nat} {xs : List α} (hs : SlF f E A n c xs) : xs.length ≤ 9223372036854775807 := by
  have h1 := hs.le; have h2 := hs.max; simp only [maxLen] at h2; omega
end
theorem run_lenS {P : Program} {w : World} {ρ : Env} {dst : Option Tmp} {ty : TypeId} {pos : String} {after : Array Edge} {guard : Option (Nat × Bool)} {α : Type} {t e : TypeId} {x : Operand} {A : Option Addr} {n c : Nat} {xs : List α} (ht : tyElem P t = some e) (hx : ev ρ x = .slice A n c) (hn : n = xs.length) :
    (execOp (ev ρ) ⟨dst, .call { callee := .builtin .len, args := #[x], argTypes := #[t] }, ty, pos, after, guard⟩).run P w = .ok (.value (.int .i64 (xs.length : Int))) w := by
  subst hn; exact run_len ht hx
theorem w64_eq {x : Int} (h0 : -9223372036854775808 ≤ x) (h1 : x ≤ 9223372036854775807) : w64 x = x := by
  unfold w64; rw [IntKind.wrap_i64]; omega
end Hk
