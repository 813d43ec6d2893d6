/- Appending to what is owned; making; slicing; freezing; opening and shutting. -/
import Derived.Test.YtoamdmkakblnnaaDoorK1
import Derived.Laws.MakeOwn
import Derived.Laws.Tables
set_option linter.unusedVariables false
set_option linter.unusedSimpArgs false
namespace Hk
open Go
section
variable {P : Program} (w : World)
theorem run_append_room' (t ty e : TypeId) (i : TypeInfo) (ht : P.underlying t = some (.slice e)) (hi : P.info? e = some i)
    (g o sLen sCap : Nat) (cur : Array Value) (ct : TypeId) (hg : w.heap[g]? = some (.cells cur ct (0, 0)))
    (a : Addr) (m c : Nat) (news : List Value) (hl : news.length = m * i.size) (hnews : ∀ j u, news[j]? = some u → w.cell? (a.add j) = some u) (h1 : ∀ u ∈ news, u.oneCell' = true)
    (hroom : sLen + m ≤ sCap) (hfit : o + sLen * i.size + news.length ≤ cur.size) :
    (Builtin.append_ #[t, t] ty #[.slice (some ⟨g, o, none⟩) sLen sCap, .slice (some a) m c]).run P w =
      .ok (.slice (some ⟨g, o, none⟩) (sLen + m) sCap) (w.setRow g (splice cur (o + sLen * i.size) news)) := by
  have hf := run_firstCells_some (P := P) w i.size m a m c news hl hnews
  have hst := run_storeCells_at P g (o + sLen * i.size) ct news 0 cur w hg (by simpa using hfit) h1
  simp only [Nat.add_zero] at hst
  simp [Builtin.append_, run_underlying ht, Go.sizeOf, typeInfo, hi, Builtin.lenOf, hroom, hf, Addr.add_lit, hst, splice]
theorem run_append_zero (t ty e : TypeId) (i : TypeInfo) (ht : P.underlying t = some (.slice e)) (hi : P.info? e = some i)
    (A B : Option Addr) (n cap c : Nat) (hn : n ≤ cap) :
    (Builtin.append_ #[t, t] ty #[.slice A n cap, .slice B 0 c]).run P w = .ok (.slice A n cap) w := by
  cases A <;> cases B <;> simp [Builtin.append_, run_underlying ht, Go.sizeOf, typeInfo, hi, Builtin.lenOf, hn, Builtin.firstCells, loadCells, loadCellsFrom, storeCells]
end
structure ApTy (P : Program) (t e : TypeId) (sz by_ : Nat) : Prop where
  elem : tyElem P t = some e
  size : tySize P e = some sz
  bytes : tyBytes P e = some by_
  zero : ∃ z, tyZero P e = some z ∧ z.cells.size = sz
  pos : 0 < sz
section
variable {P : Program} {G w : World} {f : HP} {L : List HProp}
theorem run_append_op {ρ : Env} {dst : Option Tmp} {ty t : TypeId} {pos : String} {after : Array Edge} {guard : Option (Nat × Bool)} {s x : Operand} {vs vx v : Value} {w' : World} (hs : ev ρ s = vs) (hx : ev ρ x = vx)
    (hr : (Builtin.append_ #[t, t] ty #[vs, vx]).run P w = .ok v w') :
    (execOp (ev ρ) ⟨dst, .call { callee := .builtin .append, args := #[s, x], argTypes := #[t, t] }, ty, pos, after, guard⟩).run P w = .ok (.value v) w' := by
  simp only [execOp, resolve, invoke, builtin, Sem.run_bind, Sem.run_pure, Result.andThen_ok, List.map_toArray, List.map_cons, List.map_nil, hs, hx, hr]
def apRoom : Nat := 140737488355328
theorem wd_append {α : Type} {E : FRel α} {ty t e : TypeId} {bytes : Nat} (hT : ApTy P t e E.n bytes) {A : Option Addr} {n c : Nat} {xs ys : List α}
    (h : Wd G w f (Hv [.slice A n c] (oSl (oF E)) xs :: L))
    {a : Addr} {m cx : Nat} {news : List Value} (hm : ys.length = m) (hnews : ∀ j u, news[j]? = some u → w.cell? (a.add j) = some u)
    (hl : news.length = m * E.n) (hy : ∀ i y, ys[i]? = some y → ∃ es, (∀ j v, es[j]? = some v → news[i * E.n + j]? = some v) ∧ E.p f es y)
    (h1 : ∀ u ∈ news, u.oneCell' = true) (hb : (xs.length + ys.length) * bytes ≤ apRoom) (h63 : xs.length + ys.length ≤ maxLen) :
    ∃ A' c' w', (Builtin.append_ #[t, t] ty #[.slice A n c, .slice (some a) m cx]).run P w = .ok (.slice A' (xs ++ ys).length c') w' ∧
      Wd G w' f (Hv [.slice A' (xs ++ ys).length c'] (oSl (oF E)) (xs ++ ys) :: L) := by
  subst hm
  obtain ⟨i, hi, hisz⟩ := tySize_spec hT.size
  have ht := tyElem_spec hT.elem
  obtain ⟨z, hz, hzs⟩ := hT.zero
  have hzi : i.zero = some z := by unfold tyZero at hz; simpa [hi] using hz
  have hbi : i.bytes = bytes := by have := hT.bytes; unfold tyBytes at this; simpa [hi] using this
  subst hbi
  obtain ⟨S, hS, hS2, hS3⟩ := h.sep
  obtain ⟨rfl, k1, k2, k3⟩ := oSl_inv hS
  have hlen : (xs ++ ys).length = xs.length + ys.length := List.length_append
  by_cases hy0 : ys = []
  · subst hy0
    exact ⟨A, c, w, by simpa using run_append_zero w t ty e i ht hi A (some a) xs.length c cx k1, by simpa using h⟩
  have hyl : 0 < ys.length := Nat.pos_of_ne_zero fun h0 => hy0 (List.eq_nil_of_length_eq_zero h0)
  by_cases hroom : xs.length + ys.length ≤ c
  ·
    rcases k3 with rfl | ⟨b, o, cur, cty, rfl, hbS, hc, hzc, F, e1, e2, e3⟩
    · omega
    · have hfit : o + xs.length * E.n + news.length ≤ cur.size := by
        have hzc' : o + c * E.n ≤ cur.size := hzc
        have : (xs.length + ys.length) * E.n ≤ c * E.n := Nat.mul_le_mul_right _ hroom
        rw [Nat.add_mul] at this; omega
      have hr := run_append_room' (P := P) w t ty e i ht hi b o xs.length c cur cty hc a ys.length cx news (by rw [hisz]; exact hl) hnews h1 hroom (by rw [hisz]; exact hfit)
      rw [hisz] at hr
      obtain ⟨s1, s2⟩ := wh_setRow w b cur (splice cur (o + xs.length * E.n) news) cty (0, 0) hc
      refine ⟨some ⟨b, o, none⟩, c, w.setRow b (splice cur (o + xs.length * E.n) news), by rw [hlen]; exact hr, h.step0 rfl rfl rfl fun S' hS' hne => ?_⟩
      clear e1 e2 e3 F hbS
      obtain ⟨_, _, _, k3'⟩ := oSl_inv hS'
      rcases k3' with h' | ⟨b', o', cur', cty', e', hbS, hc', hzc', F, e1, e2, e3⟩
      · omega
      simp at e'
      obtain ⟨rfl, rfl⟩ := e'
      have hcc : cur' = cur := by
        have : wh w b = some (.cells cur cty (0, 0)) := hc
        rw [this] at hc'; simp at hc'; exact hc'.1.symm
      subst hcc
      refine ⟨S', ⟨_, _, rfl, by rw [hlen]; exact hroom, k2, .inr ⟨b, o, _, cty, rfl, hbS, s1, by rw [splice_size hfit]; exact hzc, fun _ _ => False, fun _ _ hf => hf.elim, fun _ _ _ _ hf => hf.elim, fun k y hk => ?_⟩⟩,
        fun b' hb' => ⟨.inl hb', ?_⟩, fun b' hb' _ => s2 b' (fun e => by subst e; exact hb' hbS)⟩
      · rcases Nat.lt_or_ge k xs.length with hlt | hge
        · rw [List.getElem?_append_left hlt] at hk
          obtain ⟨es, f1, f2⟩ := e3 k y hk
          refine ⟨es, fun j v hv => ?_, f2⟩
          have hj : j < E.n := by rw [← E.len f2]; exact (List.getElem?_eq_some_iff.1 hv).1
          rw [splice_out hfit]
          · exact f1 j v hv
          · left
            have : (k + 1) * E.n ≤ xs.length * E.n := Nat.mul_le_mul_right _ hlt
            rw [Nat.add_mul] at this
            simp only [oF]; omega
        · rw [List.getElem?_append_right hge] at hk
          obtain ⟨es, f1, f2⟩ := hy _ y hk
          refine ⟨es, fun j v hv => ?_, f2⟩
          have := splice_in hfit (f1 j v hv)
          simp only [oF]
          rw [show o + k * E.n + j = o + xs.length * E.n + ((k - xs.length) * E.n + j) by
            have : k * E.n = xs.length * E.n + (k - xs.length) * E.n := by rw [← Nat.add_mul]; congr 1; omega
            omega]
          exact this
      · by_cases e : b' = b
        · subst e; rw [s1]; simp
        · rw [s2 b' e]; exact hne b' hb'
  ·
    have hnz : 0 < ys.length := by omega
    have h63' : ((xs.length + ys.length : Nat) : Int) ≤ 9223372036854775807 := by simp only [maxLen] at h63; omega
    have hbb : (xs.length + ys.length) * i.bytes ≤ 140737488355328 := hb
    obtain ⟨olds, ho1, ho2, ho3, hr⟩ : ∃ olds : List Value, olds.length = xs.length * E.n ∧ (∀ k x, xs[k]? = some x → ∃ es, (∀ j v, es[j]? = some v → olds[k * E.n + j]? = some v) ∧ E.p f es x) ∧ True ∧
        (Builtin.append_ #[t, t] ty #[.slice A xs.length c, .slice (some a) ys.length cx]).run P w =
          .ok (.slice (some ⟨w.heap.size, 0, none⟩) (xs.length + ys.length) (grownCap w (xs.length + ys.length) c e))
            (w.drew.alloc (.cells (olds.toArray ++ news.toArray ++ Builtin.zeroCells z.cells (grownCap w (xs.length + ys.length) c e - (xs.length + ys.length))) e)) := by
      rcases k3 with rfl | ⟨b, o, cur, cty, rfl, hbS, hc, hzc, F, e1, e2, e3⟩
      · have hx0 : xs = [] := List.eq_nil_of_length_eq_zero (by omega)
        subst hx0
        refine ⟨[], by simp, fun k x hx => by simp at hx, trivial, ?_⟩
        cases A with
        | some ad =>
          have hr := run_append_grow (P := P) w t ty e i z ht hi hzi ad 0 0 [] (by simp) (fun j v hv => by simp at hv) a ys.length cx news (by rw [hisz]; exact hl) hnews (by omega) (by simpa using h63') (growslice_fits (by omega) (by simpa using hbb))
          simpa using hr
        | none =>
        have hr := run_append_nil (P := P) w t ty e i z ht hi hzi a ys.length cx news (by rw [hisz]; exact hl) hnews hnz (by simpa using h63') (by have := hbb; simp only [List.length_nil, Nat.zero_add] at this; omega)
        simpa using hr
      · have hzc' : o + c * E.n ≤ cur.size := hzc
        have hxc : xs.length * E.n ≤ c * E.n := Nat.mul_le_mul_right _ k1
        refine ⟨(cur.toList.drop o).take (xs.length * E.n), by simp; omega, fun k x hx => ?_, trivial, ?_⟩
        · obtain ⟨es, f1, f2⟩ := e3 k x hx
          refine ⟨es, fun j v hv => ?_, f2⟩
          have hj : j < E.n := by rw [← E.len f2]; exact (List.getElem?_eq_some_iff.1 hv).1
          have hk := (List.getElem?_eq_some_iff.1 hx).1
          have hlt : k * E.n + j < xs.length * E.n := by
            have : (k + 1) * E.n ≤ xs.length * E.n := Nat.mul_le_mul_right _ hk
            rw [Nat.add_mul] at this; omega
          rw [List.getElem?_take_of_lt hlt, List.getElem?_drop]
          have := f1 j v hv
          simp only [oF] at this
          rw [Nat.add_assoc] at this
          simpa using this
        · have hr := run_append_grow (P := P) w t ty e i z ht hi hzi ⟨b, o, none⟩ xs.length c ((cur.toList.drop o).take (xs.length * E.n)) (by rw [hisz]; simp; omega)
            (fun j v hv => by
              rw [Addr.add_lit, cell_of hc]
              rw [List.getElem?_take] at hv
              split at hv
              · rw [List.getElem?_drop] at hv; simpa using hv
              · cases hv)
            a ys.length cx news (by rw [hisz]; exact hl) hnews (by omega) h63' (growslice_fits (by omega) hbb)
          exact hr
    have hge := grownCap_ge w (xs.length + ys.length) c e
    have hcm := grownCap_le_maxLen w (xs.length + ys.length) c e h63
    generalize hgc : grownCap w (xs.length + ys.length) c e = cap at *
    refine ⟨_, _, _, by rw [hlen]; exact hr, ?_⟩
    have hnew := wd_new (cs := olds.toArray ++ news.toArray ++ Builtin.zeroCells z.cells (cap - (xs.length + ys.length))) (t := e) (h.drop1.drew)
    refine hnew.step0 rfl rfl rfl fun S' hS' hne => ⟨S', ⟨_, _, rfl, by rw [hlen]; exact hge, hcm, .inr ⟨w.heap.size, 0, _, e, rfl, hS'.1, hS'.2, ?_, fun _ _ => False, fun _ _ hf => hf.elim, fun _ _ _ _ hf => hf.elim, fun k y hk => ?_⟩⟩,
      fun b' hb' => ⟨.inl hb', hne b' hb'⟩, fun b' _ _ => rfl⟩
    · simp only [Array.size_append, List.size_toArray, size_zeroCells, hzs, ho1, hl, oF]
      rw [← Nat.add_mul, ← Nat.add_mul, Nat.zero_add]
      apply Nat.mul_le_mul_right; omega
    · have hcells : ∀ (j : Nat) (v : Value), (olds ++ news)[j]? = some v → (olds.toArray ++ news.toArray ++ Builtin.zeroCells z.cells (cap - (xs.length + ys.length)))[j]? = some v := by
        intro j v hv
        have hj := (List.getElem?_eq_some_iff.1 hv).1
        rw [Array.getElem?_append_left (by simpa using hj)]
        rw [← hv, ← List.getElem?_toArray, List.append_toArray]
      rcases Nat.lt_or_ge k xs.length with hlt | hge'
      · rw [List.getElem?_append_left hlt] at hk
        obtain ⟨es, f1, f2⟩ := ho2 k y hk
        refine ⟨es, fun j v hv => ?_, f2⟩
        rw [Nat.zero_add]
        refine hcells _ _ ?_
        have h1 := f1 j v hv
        simp only [oF]
        rw [List.getElem?_append_left (List.getElem?_eq_some_iff.1 h1).1]
        exact h1
      · rw [List.getElem?_append_right hge'] at hk
        obtain ⟨es, f1, f2⟩ := hy _ y hk
        refine ⟨es, fun j v hv => ?_, f2⟩
        rw [Nat.zero_add]
        refine hcells _ _ ?_
        have h1 := f1 j v hv
        simp only [oF]
        rw [List.getElem?_append_right (by rw [ho1]; have : xs.length * E.n ≤ k * E.n := Nat.mul_le_mul_right _ hge'; omega), ho1]
        rw [show k * E.n + j - xs.length * E.n = (k - xs.length) * E.n + j by
            have : k * E.n = xs.length * E.n + (k - xs.length) * E.n := by rw [← Nat.add_mul]; congr 1; omega
            omega]
        exact h1
end
end Hk
set_option linter.unusedVariables false
set_option linter.unusedSimpArgs false
namespace Hk
open Go
section
variable {P : Program} {G w w' : World} {f : HP} {L : List HProp} {ρ : Env} {dst : Option Tmp} {ty : TypeId} {pos : String} {after : Array Edge} {guard : Option (Nat × Bool)}
theorem run_idx {α : Type} {t e : TypeId} {x ix : Operand} {A : Option Addr} {n c k : Nat} {i : Int} {xs : List α} {y : α} {b o : Nat} (ht : tyElem P t = some e) (hs : tySize P e = some k) (hx : ev ρ x = .slice A n c) (hn : n = xs.length) (hi : ev ρ ix = .int .i64 i)
    (hy : idx xs i = some y) (hA : A = some ⟨b, o, none⟩) :
    (execOp (ev ρ) ⟨dst, .indexAddr t x ix, ty, pos, after, guard⟩).run P w = .ok (.value (.pointer (some (eAdr A (i.toNat * k))))) w :=
  run_indexAddr ht hs hx hi (idx_spec hy).1 (by rw [hn]; exact (idx_spec hy).2.1) hA
theorem eAdr_add {A : Option Addr} {b o k j : Nat} (hA : A = some ⟨b, o, none⟩) : (eAdr A k).add j = ⟨b, o + k + j, none⟩ := by subst hA; exact add_none b (o + k) j
theorem own_len {α : Type} {E : ORel α} {A : Option Addr} {n c : Nat} {xs : List α} (k : Nat) (h : Wd G w f L) (hk : L[k]? = some (Hv [.slice A n c] (oSl E) xs)) : n = xs.length ∧ xs.length ≤ c ∧ c ≤ maxLen := by
  obtain ⟨S, hS, _⟩ := (h.front k hk).sep
  obtain ⟨e, k1, k2, _⟩ := oSl_inv hS
  exact ⟨e, k1, k2⟩
theorem run_storeA {t : TypeId} {a x : Operand} {A : Option Addr} {k b o : Nat} {v : Value} {cur : Array Value} {bt : TypeId} (ha : ev ρ a = .pointer (some (eAdr A k))) (hA : A = some ⟨b, o, none⟩) (hx : ev ρ x = v) (hs : tySize P t = some v.cells.size)
    (hb : w.heap[b]? = some (.cells cur bt (0, 0))) (hj : o + k + v.cells.size ≤ cur.size) (h1 : ∀ u ∈ v.cells.toList, u.oneCell' = true) :
    (execOp (ev ρ) ⟨dst, .store t a x, ty, pos, after, guard⟩).run P w = .ok .skip (w.setRow b (splice cur (o + k) v.cells.toList)) := by
  subst hA
  exact run_store ha hx hs hb hj h1
theorem own_set0 {α : Type} {E : FRel α} {A : Option Addr} {n c : Nat} {xs : List α} {i : Int} {x y : α} {news : List Value} (h : Wd G w f (Hv [.slice A n c] (oSl (oF E)) xs :: L)) (hx : idx xs i = some x) (hy : E.p f news y) :
    ∃ b o cur bt, A = some ⟨b, o, none⟩ ∧ w.heap[b]? = some (.cells cur bt (0, 0)) ∧ o + i.toNat * E.n + news.length ≤ cur.size ∧
      Wd G (w.setRow b (splice cur (o + i.toNat * E.n) news)) f (Hv [.slice A n c] (oSl (oF E)) (setI xs i y) :: L) := by
  obtain ⟨h0, h1, h2⟩ := idx_spec hx
  have hn := (own_len 0 h rfl).1
  obtain ⟨es, h', _⟩ := wd_take h h2
  obtain ⟨b, o, cur, bt, hA, hb, hfit, h''⟩ := wd_hole_set h' (E.len hy)
  refine ⟨b, o, cur, bt, hA, hb, hfit, ?_⟩
  refine wd_put (E := oF E) (es := news) hn ?_
  obtain ⟨S, k1, k2, T, t1, t2, k3⟩ := h''.sep
  exact ⟨h''.os, h''.tape, h''.output, h''.fro, S, k1, k2, fun _ => False, hy, fun _ hf => hf.elim, SepL.weaken (fun b' hb' => ⟨hb'.1, fun hf => hf⟩) k3⟩
def mkRoom : Nat := 281474976710656
def gmake {α : Type} (bytes : Nat) (n : Int) (z : α) : Option (List α) :=
  if 0 ≤ n ∧ bytes * n.toNat ≤ mkRoom ∧ n.toNat ≤ maxLen then some (List.replicate n.toNat z) else none
theorem madeCells_get {z : Array Value} {n i j : Nat} {v : Value} (hz : z[j]? = some v) (hi : i < n) : (madeCells z (n * z.size))[i * z.size + j]? = some v := by
  have hj := (Array.getElem?_eq_some_iff.1 hz).1
  have hlt : i * z.size + j < n * z.size := by
    have : (i + 1) * z.size ≤ n * z.size := Nat.mul_le_mul_right _ hi
    rw [Nat.add_mul] at this; omega
  have hmod : (i * z.size + j) % z.size = j := by rw [Nat.add_comm, Nat.add_mul_mod_self_right]; exact Nat.mod_eq_of_lt hj
  simp only [madeCells, Array.getElem?_map]
  rw [Array.getElem?_range, if_pos hlt]
  simp only [Option.map_some, hmod, Option.some.injEq]
  rw [getElem!_pos z j hj]
  exact (Array.getElem?_eq_some_iff.1 hz).2
theorem wd_make {α : Type} {E : ORel α} {t e : TypeId} {bytes : Nat} {l c : Operand} {n : Int} {z : α} {xs : List α} {zv : Value} (hT : tyElem P t = some e) (hsz : tySize P e = some E.fz.n) (hby : tyBytes P e = some bytes) (hzv : tyZero P e = some zv)
    (hz : ∀ h, E.p f h zv.cells.toList z (fun _ => False)) (hl : ev ρ l = .int .i64 n) (hc : ev ρ c = .int .i64 n) (hm : gmake bytes n z = some xs) (h : Wd G w f L) :
    ∃ w' b, (execOp (ev ρ) ⟨dst, .makeSlice t l c, ty, pos, after, guard⟩).run P w = .ok (.value (.slice (some ⟨b, 0, none⟩) xs.length xs.length)) w' ∧
      Wd G w' f (Hv [.slice (some ⟨b, 0, none⟩) xs.length xs.length] (oSl E) xs :: L) := by
  obtain ⟨i, hi, hisz⟩ := tySize_spec hsz
  have ht := tyElem_spec hT
  have hzi : i.zero = some zv := by unfold tyZero at hzv; simpa [hi] using hzv
  have hbi : i.bytes = bytes := by unfold tyBytes at hby; simpa [hi] using hby
  unfold gmake at hm
  split at hm
  case isFalse => cases hm
  rename_i hcond
  obtain ⟨h0, hb, h63⟩ := hcond
  injection hm with hm
  subst hm
  have h63' : n ≤ 9223372036854775807 := by simp only [maxLen] at h63; omega
  have hb' : (i.bytes : Int) * n ≤ 281474976710656 := by
    have h1 : ((i.bytes * n.toNat : Nat) : Int) ≤ 281474976710656 := by rw [hbi]; simp only [mkRoom] at hb; omega
    rw [Int.natCast_mul] at h1
    rwa [show ((n.toNat : Nat) : Int) = n by omega] at h1
  have hr := run_make (P := P) w t e i zv ht hi hzi .i64 .i64 n n h0 (Int.le_refl _) hb' h63'
  have hzl : zv.cells.toList.length = E.fz.n := E.len (hz (wh w))
  refine ⟨w.alloc (.cells (madeCells zv.cells (n.toNat * i.size)) e), w.heap.size, ?_, ?_⟩
  · have e1 : execOp (ev ρ) ⟨dst, .makeSlice t l c, ty, pos, after, guard⟩ = (Instr.makeSlice t (ev ρ l) (ev ρ c)).bind (fun v => .pure (.value v)) := rfl
    rw [e1, hl, hc, Sem.run_bind', hr]
    simp
  · have hnew := wd_new (cs := madeCells zv.cells (n.toNat * i.size)) (t := e) h
    refine hnew.step0 rfl rfl rfl fun S hS hne => ⟨S, ⟨_, _, rfl, Nat.le_refl _, by simpa using h63, .inr ⟨w.heap.size, 0, _, e, rfl, hS.1, hS.2, ?_, fun _ _ => False, fun _ _ hf => hf.elim, fun _ _ _ _ hf => hf.elim, fun k y hk => ?_⟩⟩,
      fun b' hb' => ⟨.inl hb', hne b' hb'⟩, fun b' _ _ => rfl⟩
    · simp [size_madeCells, hisz]
    · have hlt := (List.getElem?_eq_some_iff.1 hk).1
      have hy : z = y := by
        have := (List.getElem?_eq_some_iff.1 hk).2
        simpa using this
      subst hy
      refine ⟨zv.cells.toList, fun j v hv => ?_, hz _⟩
      have hs : i.size = zv.cells.size := by rw [hisz, ← hzl]; simp
      rw [hs, Nat.zero_add, ← hzl, Array.length_toList]
      exact madeCells_get (by simpa using hv) (by simpa using hlt)
def fillL (place : Nat → Option (Nat × Nat)) : List Value → List (Nat × Value) → Option (List Value)
  | cs, [] => some cs
  | cs, (i, v) :: rest =>
    match place i with
    | some (off, size) => bif Nat.beq v.cells.toList.length size && Nat.ble (off + v.cells.toList.length) cs.length then fillL place (cs.take off ++ v.cells.toList ++ cs.drop (off + v.cells.toList.length)) rest else none
    | none => none
theorem foldl_set (off : Nat) : ∀ (vs : List Value) (k : Nat) (cs : Array Value), off + k + vs.length ≤ cs.size →
    (vs.zipIdx k).foldl (fun cs (x : Value × Nat) => cs.setIfInBounds (off + x.2) x.1) cs = (cs.toList.take (off + k) ++ vs ++ cs.toList.drop (off + k + vs.length)).toArray
  | [], k, cs, h => by simp
  | v :: vs, k, cs, h => by
    simp only [List.zipIdx_cons, List.foldl_cons, List.length_cons] at h ⊢
    rw [foldl_set off vs (k + 1) _ (by simp; omega)]
    apply Array.ext'
    apply List.ext_getElem?
    intro j
    simp only [List.getElem?_append, List.length_append, List.length_take, Array.length_toList, Array.size_setIfInBounds, List.length_cons, List.getElem?_take, List.getElem?_drop, Array.getElem?_toList, Array.getElem?_setIfInBounds]
    have m1 : min (off + (k + 1)) cs.size = off + k + 1 := by omega
    have m2 : min (off + k) cs.size = off + k := by omega
    rw [m1, m2]
    rcases Nat.lt_trichotomy j (off + k) with hj | hj | hj
    · simp only [show j < off + k + 1 + vs.length by omega, show j < off + k + 1 by omega, show j < off + (k + 1) by omega, show off + k ≠ j by omega, show j < off + k + (vs.length + 1) by omega, hj, if_true, if_false, ite_true, ite_false]
    · subst hj
      simp only [show off + k < off + k + 1 + vs.length by omega, show off + k < off + k + 1 by omega, show off + k < off + (k + 1) by omega, show off + k < off + k + (vs.length + 1) by omega, show off + k < cs.size by omega, Nat.lt_irrefl, Nat.sub_self, if_true, if_false, List.getElem?_cons_zero]
    · by_cases h2 : j < off + k + 1 + vs.length
      · have e2 : j - (off + k) = (j - (off + k + 1)) + 1 := by omega
        simp only [h2, show ¬ j < off + k + 1 by omega, show ¬ j < off + k by omega, show j < off + k + (vs.length + 1) by omega, if_true, if_false, e2, List.getElem?_cons_succ]
      · have e3 : off + k + 1 + vs.length + (j - (off + k + 1 + vs.length)) = j := by omega
        have e4 : off + k + (vs.length + 1) + (j - (off + k + (vs.length + 1))) = j := by omega
        simp only [h2, show ¬ j < off + k + (vs.length + 1) by omega, if_false, show off + (k + 1) + vs.length + (j - (off + k + 1 + vs.length)) = j by omega, e4, show off + k ≠ j by omega]
theorem fill_of_L (place : Nat → Option (Nat × Nat)) : ∀ (parts : List (Nat × Value)) (cs : Array Value) (cs' : List Value), fillL place cs.toList parts = some cs' → Instr.fill place cs parts = some cs'.toArray
  | [], cs, cs', h => by simp only [fillL, Option.some.injEq] at h; subst h; simp [Instr.fill]
  | (i, v) :: rest, cs, cs', h => by
    unfold fillL at h
    unfold Instr.fill
    cases hp : place i with
    | none => simp [hp] at h
    | some q =>
      obtain ⟨off, size⟩ := q
      simp only [hp] at h ⊢
      cases hb : (Nat.beq v.cells.toList.length size && Nat.ble (off + v.cells.toList.length) cs.toList.length) with
      | false => rw [hb] at h; cases h
      | true =>
        rw [hb] at h
        simp only [cond_true] at h
        simp only [Bool.and_eq_true, Array.length_toList] at hb
        have h1 : v.cells.size = size := Nat.eq_of_beq_eq_true hb.1
        have h2 : off + v.cells.size ≤ cs.size := Nat.le_of_ble_eq_true hb.2
        have hcond : (v.cells.size ≠ size || off + v.cells.size > cs.size) = false := by simp [h1]; omega
        rw [hcond]
        simp only [Bool.false_eq_true, if_false]
        refine fill_of_L place rest _ cs' ?_
        rw [← h]
        congr 1
        have hz : v.cells.zipIdx.foldl (fun cs (x : Value × Nat) => cs.setIfInBounds (off + x.2) x.1) cs = (v.cells.toList.zipIdx 0).foldl (fun cs (x : Value × Nat) => cs.setIfInBounds (off + x.2) x.1) cs := by
          rw [← Array.foldl_toList, Array.toList_zipIdx]
        show (v.cells.zipIdx.foldl (fun cs (x : Value × Nat) => cs.setIfInBounds (off + x.2) x.1) cs).toList = _
        rw [hz, foldl_set off v.cells.toList 0 cs (by simpa using h2)]
        simp
end
end Hk
set_option linter.unusedVariables false
set_option linter.unusedSimpArgs false
namespace Hk
open Go
def tyPlaces (P : Program) (t : TypeId) : Option (List (Nat × Nat)) :=
  match P.underlying t with
  | some (.struct fs) => fs.toList.mapM (fun f => (P.info? f.type).map fun i => (f.offset, i.size))
  | _ => none
def partsOf (ρ : Env) : List (Nat × Operand) → List (Nat × Value)
  | [] => []
  | (i, x) :: r => (i, ev ρ x) :: partsOf ρ r
theorem partsOf_eq (ρ : Env) : ∀ l : List (Nat × Operand), partsOf ρ l = l.map fun (i, x) => (i, ev ρ x)
  | [] => rfl
  | (i, x) :: r => by simp [partsOf, partsOf_eq ρ r]
section
variable {P : Program} {G w w' : World} {f : HP} {L : List HProp} {ρ : Env} {dst : Option Tmp} {ty : TypeId} {pos : String} {after : Array Edge} {guard : Option (Nat × Bool)}
theorem run_buildS {t : TypeId} {parts : List (Nat × Operand)} {zv : Value} {pl : List (Nat × Nat)} {cs : List Value} (hz : tyZero P t = some zv) (hp : tyPlaces P t = some pl)
    (hf : fillL (fun i => pl[i]?) zv.cells.toList (partsOf ρ parts) = some cs) :
    (execOp (ev ρ) ⟨dst, .build t parts.toArray, ty, pos, after, guard⟩).run P w = .ok (.value (.agg cs.toArray)) w := by
  have hb : P.built t (parts.toArray.map fun (i, x) => (i, ev ρ x)).toList = some cs.toArray := by
    unfold tyPlaces at hp
    unfold tyZero at hz
    unfold Program.built
    cases hi : P.info? t with
    | none => simp [hi] at hz
    | some it =>
      cases hu : P.underlying t with
      | none => simp [hu] at hp
      | some d =>
        cases d <;> simp only [hu] at hp <;> try contradiction
        simp only [hi, Option.bind_some] at hz
        simp only [hz, hp]
        refine fill_of_L _ _ _ _ ?_
        rw [← hf, partsOf_eq]
        simp
  have hr := run_build (P := P) w t (parts.toArray.map fun (i, x) => (i, ev ρ x)) cs.toArray hb
  have e1 : execOp (ev ρ) ⟨dst, .build t parts.toArray, ty, pos, after, guard⟩ = (Instr.build t (parts.toArray.map fun (i, x) => (i, ev ρ x))).bind (fun v => .pure (.value v)) := rfl
  rw [e1, Sem.run_bind', hr]
  rfl
theorem run_buildA {t e : TypeId} {len k : Nat} {parts : List (Nat × Operand)} {zv : Value} {cs : List Value} (hz : tyZero P t = some zv) (hu : P.underlying t = some (.array len e)) (hk : tySize P e = some k)
    (hf : fillL (fun i => some (i * k, k)) zv.cells.toList (partsOf ρ parts) = some cs) :
    (execOp (ev ρ) ⟨dst, .build t parts.toArray, ty, pos, after, guard⟩).run P w = .ok (.value (.agg cs.toArray)) w := by
  obtain ⟨ie, hie, rfl⟩ := tySize_spec hk
  have hb : P.built t (parts.toArray.map fun (i, x) => (i, ev ρ x)).toList = some cs.toArray := by
    unfold tyZero at hz
    unfold Program.built
    cases hi : P.info? t with
    | none => simp [hi] at hz
    | some it =>
      simp only [hi, Option.bind_some] at hz
      simp only [hz, hu, hie]
      refine fill_of_L _ _ _ _ ?_
      rw [← hf, partsOf_eq]
      simp
  have hr := run_build (P := P) w t (parts.toArray.map fun (i, x) => (i, ev ρ x)) cs.toArray hb
  have e1 : execOp (ev ρ) ⟨dst, .build t parts.toArray, ty, pos, after, guard⟩ = (Instr.build t (parts.toArray.map fun (i, x) => (i, ev ρ x))).bind (fun v => .pure (.value v)) := rfl
  rw [e1, Sem.run_bind', hr]
  rfl
theorem run_buildSlice {t e : TypeId} {len k : Nat} {parts : List (Nat × Operand)} {zv : Value} {base cs : List Value} (ht : tyElem P t = some e) (hk : tySize P e = some k) (hz : tyZero P e = some zv) (hlen : Nat.ble (len * k) 1000000 = true)
    (hbase : (madeCells zv.cells (len * k)).toList = base) (hf : fillL (fun i => some (i * k, k)) base (partsOf ρ parts) = some cs) :
    (execOp (ev ρ) ⟨dst, .buildSlice t len parts.toArray, ty, pos, after, guard⟩).run P w = .ok (.value (.slice (some ⟨w.heap.size, 0, none⟩) len len)) (w.alloc (.cells cs.toArray e)) := by
  subst hbase
  have hu := tyElem_spec ht
  obtain ⟨ie, hie, rfl⟩ := tySize_spec hk
  have hzi : ie.zero = some zv := by unfold tyZero at hz; simpa [hie] using hz
  have hff := fill_of_L _ _ _ _ hf
  have hpp : (partsOf ρ parts) = (parts.toArray.map fun (i, x) => (i, ev ρ x)).toList := by rw [partsOf_eq]; simp
  rw [hpp] at hff
  have hle : ¬ (len * ie.size > 2 ^ 24) := by have := Nat.le_of_ble_eq_true hlen; omega
  have hr : (Instr.buildSlice t len (parts.toArray.map fun (i, x) => (i, ev ρ x))).run P w = .ok (.slice (some ⟨w.heap.size, 0, none⟩) len len) (w.alloc (.cells cs.toArray e)) := by
    generalize (parts.toArray.map fun (i, x) => (i, ev ρ x)) = ps at hff
    by_cases hn : len * ie.size = 0
    · have h0 : madeCells zv.cells (len * ie.size) = #[] := by simp [madeCells, hn, Array.range_zero']
      rw [h0] at hff
      simp [Instr.buildSlice, run_underlying hu, Go.sizeOf, typeInfo, hie, hn, hff, newRow, Array.range_zero']
    · have hm : madeCells zv.cells (len * ie.size) = (Array.range (len * ie.size)).map (zv.cells[· % zv.cells.size]!) := rfl
      rw [hm] at hff
      have hle' : ¬ (16777216 < len * ie.size) := by omega
      simp [Instr.buildSlice, run_underlying hu, Go.sizeOf, typeInfo, hie, zeroValue, hzi, hn, hle', hff, newRow]
  have e1 : execOp (ev ρ) ⟨dst, .buildSlice t len parts.toArray, ty, pos, after, guard⟩ = (Instr.buildSlice t len (parts.toArray.map fun (i, x) => (i, ev ρ x))).bind (fun v => .pure (.value v)) := rfl
  rw [e1, Sem.run_bind', hr]
  rfl
def cutA (A : Option Addr) (k l c : Nat) : Option Addr := if c = l then A else A.map (·.add (l * k))
theorem run_sliceS {t e : TypeId} {x : Operand} {lo hi : Option Operand} {A : Option Addr} {n c k l h : Nat} (ht : tyElem P t = some e) (hk : tySize P e = some k) (hx : ev ρ x = .slice A n c)
    (hlo : (lo = none ∧ l = 0) ∨ ∃ o, lo = some o ∧ ev ρ o = .int .i64 (l : Int)) (hhi : (hi = none ∧ h = n) ∨ ∃ o, hi = some o ∧ ev ρ o = .int .i64 (h : Int)) (h1 : l ≤ h) (h2 : h ≤ c) :
    (execOp (ev ρ) ⟨dst, .slice t x lo hi none, ty, pos, after, guard⟩).run P w = .ok (.value (.slice (cutA A k l c) (h - l) (c - l))) w := by
  have hu := tyElem_spec ht
  obtain ⟨ie, hie, rfl⟩ := tySize_spec hk
  have hl1 : (l : Int) ≤ h := by omega
  have hl2 : (h : Int) ≤ c := by omega
  rcases hlo with ⟨rfl, rfl⟩ | ⟨o, rfl, ho⟩ <;> rcases hhi with ⟨rfl, rfl⟩ | ⟨o', rfl, ho'⟩
  all_goals simp [execOp, Instr.sliceAt, Instr.slice, Instr.sliceBounds, Instr.sliceBound, asIntOf, run_underlying hu, hx, Go.sizeOf, typeInfo, hie, cutA, go_sem, *]
theorem SlF.cut {α : Type} {E : FRel α} {A : Option Addr} {n c : Nat} {xs : List α} (hs : SlF f E A n c xs) {l h : Nat} (h1 : l ≤ h) (h2 : h ≤ xs.length) : SlF f E (cutA A E.n l c) (h - l) (c - l) ((xs.take h).drop l) := by
  obtain ⟨k0, k1, k2, k3⟩ := hs
  refine ⟨by simp; omega, by simp; omega, by omega, fun i x hx => ?_⟩
  rw [List.getElem?_drop, List.getElem?_take] at hx
  split at hx
  case isFalse => cases hx
  rename_i hlt
  obtain ⟨b, o, es, rfl, e1, e2⟩ := k3 _ _ hx
  refine ⟨b, o + l * E.n, es, ?_, fun j v hv => ?_, e2⟩
  · unfold cutA
    rw [if_neg (by omega)]
    simp [add_none]
  · have := e1 j v hv
    rw [Nat.add_mul] at this
    rw [show o + l * E.n + i * E.n + j = o + (l * E.n + i * E.n) + j by omega]
    exact this
theorem own_cut {α : Type} {E : ORel α} {A : Option Addr} {n c : Nat} {xs : List α} {l h : Nat} (h1 : l ≤ h) (h2 : h ≤ xs.length) (hw : Wd G w f (Hv [.slice A n c] (oSl E) xs :: L)) :
    Wd G w f (Hv [.slice (cutA A E.fz.n l c) (h - l) (c - l)] (oSl E) ((xs.take h).drop l) :: L) := by
  refine hw.step0 rfl rfl rfl fun S hS hne => ⟨S, ?_, fun b hb => ⟨.inl hb, hne b hb⟩, fun _ _ _ => rfl⟩
  obtain ⟨rfl, k1, k2, k3⟩ := oSl_inv hS
  have hll : ((xs.take h).drop l).length = h - l := by simp; omega
  refine ⟨_, _, by rw [hll], by rw [hll]; omega, by omega, ?_⟩
  rcases k3 with rfl | ⟨b, o, cur, ty, rfl, hb, hc, hz, F, e1, e2, e3⟩
  · left; omega
  · right
    by_cases hcl : c = l
    · refine ⟨b, o, cur, ty, by unfold cutA; rw [if_pos hcl], hb, hc, by rw [show c - l = 0 by omega]; have : 0 ≤ c * E.fz.n := Nat.zero_le _; omega, fun _ _ => False, fun _ _ hf => hf.elim, fun _ _ _ _ hf => hf.elim, fun i x hx => ?_⟩
      rw [List.getElem?_drop, List.getElem?_take] at hx
      split at hx
      · omega
      · cases hx
    · refine ⟨b, o + l * E.fz.n, cur, ty, by unfold cutA; rw [if_neg hcl]; simp [add_none], hb, hc, ?_, fun i => F (l + i), fun i b' hf => e1 _ b' hf, fun i j b' hij => e2 _ _ b' (by omega), fun i x hx => ?_⟩
      · have : l * E.fz.n + (c - l) * E.fz.n = c * E.fz.n := by rw [← Nat.add_mul]; congr 1; omega
        omega
      · rw [List.getElem?_drop, List.getElem?_take] at hx
        split at hx
        case isFalse => cases hx
        obtain ⟨es, f1, f2⟩ := e3 _ _ hx
        refine ⟨es, fun j v hv => ?_, f2⟩
        have := f1 j v hv
        rw [Nat.add_mul] at this
        rw [show o + l * E.fz.n + i * E.fz.n + j = o + (l * E.fz.n + i * E.fz.n) + j by omega]
        exact this
open Classical in
noncomputable def addF (f h : HP) (S : Foot) : HP := fun b => match f b with | some o => some o | none => if S b then h b else none
theorem wd_freeze {A : HProp} (h : Wd G w f (A :: L)) : ∃ f' S, HP.le f f' ∧ A.p f (wh w) S ∧ (∀ b, S b → f' b = wh w b) ∧ Wd G w f' L := by
  obtain ⟨S, h1, h2, h3⟩ := h.sep
  have hle : HP.le f (addF f (wh w) S) := fun b o hb => by simp [addF, hb]
  refine ⟨addF f (wh w) S, S, hle, h1, fun b hb => ?_, h.os, h.tape, h.output, fun b o hb => ?_, ?_⟩
  · simp only [addF, (h2 b hb).1, if_pos hb]
  · unfold addF at hb
    cases hf : f b with
    | some o' => simp only [hf] at hb; cases hb; exact h.fro b o hf
    | none =>
      simp only [hf] at hb
      split at hb
      · exact hb
      · cases hb
  · refine SepL.monoF hle (SepL.weaken (fun b hb => ?_) h3)
    simp only [addF, hb.1, if_neg hb.2]
theorem wd_freezeV {α : Type} {R : ORel α} {cs : List Value} {x : α} (h : Wd G w f (Hv cs R x :: L)) : ∃ f', HP.le f f' ∧ R.fz.p f' cs x ∧ Wd G w f' L := by
  obtain ⟨f', S, h1, h2, h3, h4⟩ := wd_freeze h
  exact ⟨f', h1, R.freeze h2 h1 h3, h4⟩
theorem wd_freezeB {b : Nat} {o : Obj} (h : Wd G w f (Blk b o :: L)) : ∃ f', HP.le f f' ∧ f' b = some o ∧ Wd G w f' L := by
  obtain ⟨f', S, h1, h2, h3, h4⟩ := wd_freeze h
  exact ⟨f', h1, by rw [h3 b h2.1]; exact h2.2, h4⟩
theorem wd_shut {α : Type} {R : ORel α} {b : Nat} {arr : Array Value} {cs : List Value} {t : TypeId} {x : α} (hcs : arr.toList = cs) (h : Wd G w f (Blk b (.cells arr t (0, 0)) :: Hv cs R x :: L)) : Wd G w f (Pt b t R x :: L) := by
  subst hcs
  obtain ⟨S, ⟨h0, h1⟩, h2, T, hT, t2, h3⟩ := h.sep
  refine ⟨h.os, h.tape, h.output, h.fro, fun b' => S b' ∨ T b', ⟨.inl h0, arr, T, h1, hT, fun b' hb' => ⟨.inr hb', fun e => by subst e; exact (t2 _ hb').1.2 h0⟩⟩, fun b' hb' => ?_, ?_⟩
  · rcases hb' with hb' | hb'
    · exact h2 b' hb'
    · exact ⟨(t2 b' hb').1.1, (t2 b' hb').2⟩
  · exact SepL.weaken (fun b' hb' => ⟨hb'.1.1, fun hn => hn.elim (fun h => hb'.1.2 h) hb'.2⟩) h3
theorem Wd.unfront (k : Nat) {A A' : HProp} (hk : L[k]? = some A) (h : Wd G w f (A' :: L.eraseIdx k)) : Wd G w f (L.set k A') :=
  ⟨h.os, h.tape, h.output, h.fro, SepL.unfront k (List.getElem?_eq_some_iff.1 hk).1 h.sep⟩
end
def ifb {α : Type} (b : Bool) (x y : Option α) : Option α := cond b x y
theorem bind_some {α β : Type} {o : Option α} {k : α → Option β} {r : β} (h : o.bind k = some r) : ∃ x, o = some x ∧ k x = some r := Option.bind_eq_some_iff.1 h
inductive Ctl (σ X : Type) where
  | go (s : σ)
  | out (x : X)
def forO {α σ X : Type} (body : Nat → α → σ → Option (Ctl σ X)) : Nat → List α → σ → Option (Ctl σ X)
  | _, [], s => some (.go s)
  | i, x :: xs, s => (body i x s).bind fun | .go s' => forO body (i + 1) xs s' | .out x => some (.out x)
def iterN {σ X : Type} (body : σ → Option (Ctl σ X)) : Nat → σ → Option X
  | 0, _ => none
  | n + 1, s => (body s).bind fun | .go s' => iterN body n s' | .out x => some x
def bigN : Nat := 1606938044258990275541962092341162602522202993782792835301376
def iter {σ X : Type} (body : σ → Option (Ctl σ X)) (s : σ) : Option X := iterN body bigN s
theorem N_of_iter {σ X : Type} {body : σ → Option (Ctl σ X)} {s : σ} {x : X} (h : iter body s = some x) : ∃ n, iterN body n s = some x := ⟨bigN, h⟩
end Hk
set_option linter.unusedVariables false
set_option linter.unusedSimpArgs false
namespace Hk
open Go
abbrev Ctl.on {σ X β : Type} (c : Ctl σ X) (F : σ → β) (H : X → β) : β :=
  match c with
  | .go s => F s
  | .out x => H x
def Ctl.flat {σ X : Type} : Ctl σ (Ctl σ X) → Ctl σ X
  | .go s => .go s
  | .out y => y
def forC {α σ X : Type} (body : Nat → α → σ → Option (Ctl σ (Ctl σ X))) (xs : List α) (s : σ) : Option (Ctl σ X) := (forO body 0 xs s).map Ctl.flat
abbrev EPred := Env → World → Prop
def outE {σ X : Type} (ct : Ctl σ X) (N : EPred) (O : X → EPost) : EPost
  | .normal, ρ, w => N ρ w
  | .exit id, ρ, w => ∃ y, ct = .out y ∧ O y (.exit id) ρ w
  | .ret, ρ, w => ∃ y, ct = .out y ∧ O y .ret ρ w
  | _, _, _ => False
section
variable {P : Program} {n : Nat} {c : Code} {Q : EPost} {ρ : Env} {w : World}
theorem ewp_forO {α σ X : Type} {body : Nat → α → σ → Option (Ctl σ X)} {xs : List α} {s0 : σ} {fin : Ctl σ X} (I : Nat → σ → EPred) (hres : forO body 0 xs s0 = some fin) (h0 : I 0 s0 ρ w)
    (hround : ∀ i x s ct ρ w, xs[i]? = some x → body i x s = some ct → I i s ρ w →
      EWp P n c (outE ct (fun ρ' w' => ∃ s', ct = .go s' ∧ I (i + 1) s' ρ' w') (fun y e ρ' w' => fin = .out y → Q e ρ' w')) ρ w)
    (hend : ∀ s ρ w, fin = .go s → I xs.length s ρ w → EWp P n c (thenE (fun _ _ => False) Q) ρ w) : EWp P n (.loop c) Q ρ w := by
  refine ewp_loop (fun k ρ w => ∃ i s, k = xs.length - i ∧ i ≤ xs.length ∧ forO body i (xs.drop i) s = some fin ∧ I i s ρ w) xs.length ⟨0, s0, by simp, by simp, by simpa using hres, h0⟩ ?_
  rintro k ρ w ⟨i, s, rfl, hi, hf, hI⟩
  by_cases hlt : i < xs.length
  · have hd : xs.drop i = xs[i] :: xs.drop (i + 1) := List.drop_eq_getElem_cons hlt
    rw [hd] at hf
    simp only [forO] at hf
    obtain ⟨ct, hb, hf⟩ := bind_some hf
    refine (hround i xs[i] s ct ρ w (List.getElem?_eq_getElem hlt) hb hI).mono fun e ρ' w' hq => ?_
    cases e with
    | normal =>
      obtain ⟨s', rfl, hI'⟩ := hq
      exact ⟨xs.length - (i + 1), by omega, i + 1, s', rfl, hlt, hf, hI'⟩
    | exit id => obtain ⟨y, rfl, hq⟩ := hq; exact hq (Option.some.inj hf).symm
    | goto l => exact hq.elim
    | ret => obtain ⟨y, rfl, hq⟩ := hq; exact hq (Option.some.inj hf).symm
    | panic ch => exact hq.elim
    | outgrown => exact hq.elim
  · have he : i = xs.length := by omega
    subst he
    rw [List.drop_length] at hf
    simp only [forO, Option.some.injEq] at hf
    refine (hend s ρ w hf.symm hI).mono fun e ρ' w' hq => ?_
    cases e <;> first | exact hq.elim | exact hq
def upds (ρ : Env) : List (Nat × Value) → Env
  | [] => ρ
  | (t, v) :: l => upd (upds ρ l) t v
def Live (ρ : Env) : List (Nat × Value) → Prop
  | [] => True
  | (t, v) :: l => ρ t = v ∧ Live ρ l
theorem Live.eq {ρ : Env} : ∀ {l : List (Nat × Value)}, Live ρ l → upds ρ l = ρ
  | [], _ => rfl
  | (t, v) :: l, ⟨h1, h2⟩ => by
    show upd (upds ρ l) t v = ρ
    rw [Live.eq h2]; exact upd_self h1
end
def gapp {α : Type} (bytes : Nat) (xs ys : List α) : Option (List α) :=
  if (xs.length + ys.length) * bytes ≤ apRoom ∧ xs.length + ys.length ≤ maxLen then some (xs ++ ys) else none
theorem gapp_spec {α : Type} {bytes : Nat} {xs ys r : List α} (h : gapp bytes xs ys = some r) : r = xs ++ ys ∧ (xs.length + ys.length) * bytes ≤ apRoom ∧ xs.length + ys.length ≤ maxLen := by
  unfold gapp at h
  split at h
  · rename_i hc; injection h with h; exact ⟨h.symm, hc⟩
  · cases h
def gcut {α : Type} (xs : List α) (l h : Int) : Option (List α) :=
  if 0 ≤ l ∧ l ≤ h ∧ h ≤ xs.length then some ((xs.take h.toNat).drop l.toNat) else none
theorem gcut_spec {α : Type} {xs r : List α} {l h : Int} (e : gcut xs l h = some r) : r = (xs.take h.toNat).drop l.toNat ∧ 0 ≤ l ∧ l.toNat ≤ h.toNat ∧ h.toNat ≤ xs.length ∧ r.length = h.toNat - l.toNat := by
  unfold gcut at e
  split at e
  · rename_i hc; injection e with e; subst e; exact ⟨rfl, hc.1, by omega, by omega, by simp; omega⟩
  · cases e
end Hk
set_option linter.unusedVariables false
set_option linter.unusedSimpArgs false
namespace Hk
open Go
def Arr (A : Option Addr) (c : Nat) (cur : Array Value) : HProp :=
  ⟨fun _ h S => (c = 0 ∧ cur = #[]) ∨ ∃ a, A = some a ∧ S a.block ∧ ∃ ty, h a.block = some (.cells cur ty (0, 0)),
   fun {f h g S} hp hs => hp.imp id fun ⟨a, h0, h1, ty, h2⟩ => ⟨a, h0, h1, ty, (hs _ h1).trans h2⟩,
   fun {f g h S} _ hp => hp⟩
def hcell_get (f : HP) (a : Addr) : Value := (hcell f a).getD undef
def aoff (A : Option Addr) : Nat := (A.getD default).off
structure ArrOk {α : Type} (f : HP) (E : FRel α) (A : Option Addr) (n c : Nat) (cur : Array Value) (xs : List α) : Prop where
  len : n = xs.length
  le : xs.length ≤ c
  max : c ≤ maxLen
  or : c = 0 ∨ ∃ b o, A = some ⟨b, o, none⟩ ∧ o + c * E.n ≤ cur.size
  get : ∀ i x, xs[i]? = some x → ∃ es, (∀ j v, es[j]? = some v → cur[aoff A + i * E.n + j]? = some v) ∧ E.p f es x
theorem ArrOk.mono {α : Type} {f g : HP} {E : FRel α} {A : Option Addr} {n c : Nat} {cur : Array Value} {xs : List α} (hok : ArrOk f E A n c cur xs) (hl : HP.le f g) : ArrOk g E A n c cur xs :=
  ⟨hok.len, hok.le, hok.max, hok.or, fun i x hx => let ⟨es, h1, h2⟩ := hok.get i x hx; ⟨es, h1, E.mono hl h2⟩⟩
section
variable {P : Program} {G w w' : World} {f : HP} {L : List HProp} {ρ : Env} {dst : Option Tmp} {ty : TypeId} {pos : String} {after : Array Edge} {guard : Option (Nat × Bool)}
theorem Wd.fz {a : Addr} {v : Value} (h : Wd G w f L) (hc : hcell f a = some v) : w.cell? a = some v := by rw [← hcell_wh]; exact hcell_le h.fro hc
theorem wd_cells {b off : Nat} {cs vs : List Value} {t : TypeId} {fr : Nat × Nat} (i : Nat) (h : Wd G w f L) (hi : L[i]? = some (Blk b (.cells cs.toArray t fr))) (hsub : (cs.drop off).take vs.length = vs) :
    ∀ j v, vs[j]? = some v → w.cell? ((⟨b, off, none⟩ : Addr).add j) = some v := by
  intro j v hv
  rw [add_none, cell_of (wd_blk i h hi)]
  have hj := (List.getElem?_eq_some_iff.1 hv).1
  rw [← hsub] at hv
  rw [List.getElem?_take_of_lt hj, List.getElem?_drop] at hv
  simpa using hv
theorem sl_el {α : Type} {E : FRel α} {A : Option Addr} {n c : Nat} {xs : List α} {i : Int} {x : α} (hs : SlF f E A n c xs) (hx : idx xs i = some x) :
    ∃ b o es, A = some ⟨b, o, none⟩ ∧ (∀ j v, es[j]? = some v → hcell f ((eAdr A (i.toNat * E.n)).add j) = some v) ∧ E.p f es x := by
  obtain ⟨h0, h1, h2⟩ := idx_spec hx
  obtain ⟨b, o, es, rfl, hc, he⟩ := hs.get _ _ h2
  exact ⟨b, o, es, rfl, fun j v hv => by rw [eAdr_add rfl]; exact hc j v hv, he⟩
theorem arr_el {α : Type} {E : FRel α} {A : Option Addr} {n c : Nat} {cur : Array Value} {xs : List α} {i : Int} {x : α} (hok : ArrOk f E A n c cur xs) (hx : idx xs i = some x) :
    ∃ b o es, A = some ⟨b, o, none⟩ ∧ (∀ j v, es[j]? = some v → cur[aoff A + i.toNat * E.n + j]? = some v) ∧ E.p f es x := by
  obtain ⟨h0, h1, h2⟩ := idx_spec hx
  obtain ⟨es, e1, e2⟩ := hok.get _ _ h2
  rcases hok.or with rfl | ⟨b, o, rfl, _⟩
  · have := hok.le; omega
  · exact ⟨b, o, es, rfl, e1, e2⟩
theorem wd_arr {A : Option Addr} {c : Nat} {cur : Array Value} {b o k j : Nat} {v : Value} (i : Nat) (h : Wd G w f L) (hi : L[i]? = some (Arr A c cur)) (hA : A = some ⟨b, o, none⟩) (hc : cur[aoff A + k + j]? = some v) :
    w.cell? ((eAdr A k).add j) = some v := by
  subst hA
  obtain ⟨S, h1, _⟩ := (h.front i hi).sep
  rcases h1 with ⟨_, rfl⟩ | ⟨a, ha, _, ty, h1⟩
  · simp at hc
  injection ha with ha
  subst ha
  rw [eAdr_add rfl]
  have h1' : w.heap[b]? = some (.cells cur ty (0, 0)) := h1
  rw [cell_of h1']
  exact hc
theorem wd_pin {α : Type} {E : FRel α} {A : Option Addr} {n c : Nat} {xs : List α} (h : Wd G w f (Hv [.slice A n c] (oSl (oF E)) xs :: L)) : ∃ cur, ArrOk f E A n c cur xs ∧ Wd G w f (Arr A c cur :: L) := by
  obtain ⟨S, hS, h2, h3⟩ := h.sep
  obtain ⟨rfl, k1, k2, k3⟩ := oSl_inv hS
  rcases k3 with rfl | ⟨b, o, cur, cty, rfl, hb, hc, hz, F, e1, e2, e3⟩
  · have hx : xs = [] := List.eq_nil_of_length_eq_zero (by omega)
    subst hx
    exact ⟨#[], ⟨rfl, k1, k2, .inl rfl, fun i x hx => by simp at hx⟩, h.os, h.tape, h.output, h.fro, S, .inl ⟨rfl, rfl⟩, h2, h3⟩
  · exact ⟨cur, ⟨rfl, k1, k2, .inr ⟨b, o, rfl, hz⟩, fun i x hx => e3 i x hx⟩, h.os, h.tape, h.output, h.fro, S, .inr ⟨_, rfl, hb, cty, hc⟩, h2, h3⟩
theorem wd_unpin {α : Type} {E : FRel α} {A : Option Addr} {n c : Nat} {cur : Array Value} {xs : List α} (hok : ArrOk f E A n c cur xs) (h : Wd G w f (Arr A c cur :: L)) : Wd G w f (Hv [.slice A n c] (oSl (oF E)) xs :: L) := by
  obtain rfl := hok.len
  obtain ⟨S, hS, h2, h3⟩ := h.sep
  rcases hok.or with rfl | ⟨b, o, rfl, hz⟩
  · exact ⟨h.os, h.tape, h.output, h.fro, S, ⟨A, 0, rfl, hok.le, hok.max, .inl rfl⟩, h2, h3⟩
  · rcases hS with ⟨rfl, _⟩ | ⟨a, ha, hb, cty, hc⟩
    · exact ⟨h.os, h.tape, h.output, h.fro, S, ⟨_, 0, rfl, hok.le, hok.max, .inl rfl⟩, h2, h3⟩
    injection ha with ha
    subst ha
    exact ⟨h.os, h.tape, h.output, h.fro, S, ⟨_, c, rfl, hok.le, hok.max, .inr ⟨b, o, cur, cty, rfl, hb, hc, hz, fun _ _ => False, fun _ _ hf => hf.elim, fun _ _ _ _ hf => hf.elim, fun i x hx => hok.get i x hx⟩⟩, h2, h3⟩
theorem run_arrSet {α : Type} {E : FRel α} {A : Option Addr} {n c : Nat} {cur : Array Value} {xs : List α} {i : Int} {x y : α} {t : TypeId} {a o : Operand} {v : Value} {news : List Value} (h : Wd G w f (Arr A c cur :: L)) (hok : ArrOk f E A n c cur xs)
    (hx : idx xs i = some x) (ha : ev ρ a = .pointer (some (eAdr A (i.toNat * E.n)))) (ho : ev ρ o = v) (hs : tySize P t = some v.cells.size) (hv : v.cells.toList = news) (hy : E.p f news y) :
    ∃ w', (execOp (ev ρ) ⟨dst, .store t a o, ty, pos, after, guard⟩).run P w = .ok .skip w' ∧ ∃ cur', ArrOk f E A n c cur' (setI xs i y) ∧ Wd G w' f (Arr A c cur' :: L) := by
  have h1 := wd_unpin hok h
  obtain ⟨b, of, cu, bt, hA, hb, hfit, hw⟩ := own_set0 h1 hx hy
  obtain ⟨cur', hok', hw'⟩ := wd_pin hw
  subst hv
  exact ⟨_, run_storeA ha hA ho hs hb (by simpa using hfit) (E.one hy), cur', (own_len 0 h1 rfl).1 ▸ hok', hw'⟩
theorem run_blkSet {b j : Nat} {cs new : Array Value} {bt t : TypeId} {a o : Operand} {v : Value} (h : Wd G w f (Blk b (.cells cs bt (0, 0)) :: L)) (ha : ev ρ a = .pointer (some ⟨b, j, none⟩)) (ho : ev ρ o = v) (hs : tySize P t = some v.cells.size)
    (hj : Nat.ble (j + v.cells.size) cs.size = true) (h1 : ∀ u ∈ v.cells.toList, u.oneCell' = true) (hn : splice cs j v.cells.toList = new) :
    ∃ w', (execOp (ev ρ) ⟨dst, .store t a o, ty, pos, after, guard⟩).run P w = .ok .skip w' ∧ Wd G w' f (Blk b (.cells new bt (0, 0)) :: L) := by
  subst hn
  exact ⟨_, run_store ha ho hs (wd_blk 0 h rfl) (Nat.le_of_ble_eq_true hj) h1, wd_setBlk0 h⟩
theorem run_arrApp {α : Type} {E : FRel α} {t e : TypeId} {bytes : Nat} (hT : ApTy P t e E.n bytes) {A : Option Addr} {n c : Nat} {cur : Array Value} {xs ys r : List α} {s x : Operand} {B : Option Addr} {nb cb : Nat} {news : List Value}
    (h : Wd G w f (Arr A c cur :: L)) (hok : ArrOk f E A n c cur xs) (hs : ev ρ s = .slice A n c) (hx : ev ρ x = .slice B nb cb) (hnb : nb = ys.length)
    (hB : ys = [] ∨ ∃ a, B = some a ∧ ∀ j u, news[j]? = some u → w.cell? (a.add j) = some u) (hl : news.length = ys.length * E.n)
    (hy : ∀ i y, ys[i]? = some y → ∃ es, (∀ j v, es[j]? = some v → news[i * E.n + j]? = some v) ∧ E.p f es y) (h1 : ∀ u ∈ news, u.oneCell' = true) (hr : gapp bytes xs ys = some r) :
    ∃ w' v, (execOp (ev ρ) ⟨dst, .call { callee := .builtin .append, args := #[s, x], argTypes := #[t, t] }, ty, pos, after, guard⟩).run P w = .ok (.value v) w' ∧ ∃ A' n' c' cur', v = .slice A' n' c' ∧
      ArrOk f E A' n' c' cur' r ∧ Wd G w' f (Arr A' c' cur' :: L) := by
  obtain rfl := hok.len
  subst hnb
  obtain ⟨rfl, hb, h63⟩ := gapp_spec hr
  rcases hB with rfl | ⟨a, rfl, hnews⟩
  · obtain ⟨i, hi, hisz⟩ := tySize_spec hT.size
    refine ⟨w, _, ?_, A, _, c, cur, rfl, by simpa using hok, h⟩
    have := run_append_op (P := P) (dst := dst) (ty := ty) (pos := pos) (after := after) (guard := guard) hs hx (run_append_zero w t ty e i (tyElem_spec hT.elem) hi A B xs.length c cb hok.le)
    exact this
  · have h2 := wd_unpin hok h
    obtain ⟨A', c', w', hrun, hw'⟩ := wd_append (ty := ty) hT h2 rfl hnews hl hy h1 hb h63 (cx := cb)
    obtain ⟨cur', hok', hw''⟩ := wd_pin hw'
    exact ⟨w', _, run_append_op hs hx hrun, A', _, c', cur', rfl, hok', hw''⟩
theorem run_arrAppF {α : Type} {E : FRel α} {t e : TypeId} {bytes : Nat} (hT : ApTy P t e E.n bytes) {A : Option Addr} {n c : Nat} {cur : Array Value} {xs ys r : List α} {s x : Operand} {B : Option Addr} {nb cb : Nat}
    (h : Wd G w f (Arr A c cur :: L)) (hok : ArrOk f E A n c cur xs) (hs : ev ρ s = .slice A n c) (hx : ev ρ x = .slice B nb cb) (hnb : nb = ys.length) (hy : SlF f E B nb cb ys) (hr : gapp bytes xs ys = some r) :
    ∃ w' v, (execOp (ev ρ) ⟨dst, .call { callee := .builtin .append, args := #[s, x], argTypes := #[t, t] }, ty, pos, after, guard⟩).run P w = .ok (.value v) w' ∧ ∃ A' n' c' cur', v = .slice A' n' c' ∧
      ArrOk f E A' n' c' cur' r ∧ Wd G w' f (Arr A' c' cur' :: L) := by
  by_cases hys : ys = []
  · subst hys
    exact run_arrApp hT h hok hs hx hnb (.inl rfl) (news := []) (by simp) (fun i y hy => by simp at hy) (by simp) hr
  ·
    have hce : ∀ k, k < ys.length * E.n → ∃ v, (∃ b o, B = some ⟨b, o, none⟩ ∧ hcell f ⟨b, o + k, none⟩ = some v) ∧ v.oneCell' = true := by
      intro k hk
      have hn : 0 < E.n := by rcases Nat.eq_zero_or_pos E.n with h0 | h0; · rw [h0] at hk; omega
                              · exact h0
      have hki : k / E.n < ys.length := by rw [Nat.div_lt_iff_lt_mul hn]; exact hk
      obtain ⟨b, o, es, hB, hc, he⟩ := hy.get (k / E.n) _ (List.getElem?_eq_getElem hki)
      have hm : k % E.n < es.length := by rw [E.len he]; exact Nat.mod_lt _ hn
      refine ⟨es[k % E.n], ⟨b, o, hB, ?_⟩, E.one he _ (List.getElem_mem hm)⟩
      have := hc (k % E.n) _ (List.getElem?_eq_getElem hm)
      rw [show o + k / E.n * E.n + k % E.n = o + k by have := Nat.div_add_mod k E.n; rw [Nat.mul_comm] at this; omega] at this
      exact this
    obtain ⟨b, o, hB⟩ : ∃ b o, B = some ⟨b, o, none⟩ := by
      obtain ⟨y, hy0⟩ : ∃ y, ys[0]? = some y := by
        cases ys with
        | nil => exact absurd rfl hys
        | cons y l => exact ⟨y, rfl⟩
      obtain ⟨b, o, _, hB, _⟩ := hy.get 0 y hy0
      exact ⟨b, o, hB⟩
    subst hB
    have hce' : ∀ k, k < ys.length * E.n → ∃ v, hcell f ⟨b, o + k, none⟩ = some v ∧ v.oneCell' = true := by
      intro k hk
      obtain ⟨v, ⟨b', o', hB, hv⟩, h1⟩ := hce k hk
      simp at hB
      obtain ⟨rfl, rfl⟩ := hB
      exact ⟨v, hv, h1⟩
    let news : List Value := (List.range (ys.length * E.n)).map fun k => (hcell_get f ⟨b, o + k, none⟩)
    have hg : ∀ k, k < ys.length * E.n → news[k]? = some (hcell_get f ⟨b, o + k, none⟩) ∧ hcell f ⟨b, o + k, none⟩ = some (hcell_get f ⟨b, o + k, none⟩) ∧ (hcell_get f ⟨b, o + k, none⟩).oneCell' = true := by
      intro k hk
      obtain ⟨v, hv, h1⟩ := hce' k hk
      have : hcell_get f ⟨b, o + k, none⟩ = v := by simp [hcell_get, hv]
      refine ⟨by simp [news, hk], by rw [this]; exact hv, by rw [this]; exact h1⟩
    have hlen : news.length = ys.length * E.n := by simp [news]
    refine run_arrApp hT h hok hs hx hnb (.inr ⟨⟨b, o, none⟩, rfl, fun j u hu => ?_⟩) hlen (fun i y hyi => ?_) (fun u hu => ?_) hr
    · have hj := (List.getElem?_eq_some_iff.1 hu).1
      rw [hlen] at hj
      obtain ⟨g1, g2, _⟩ := hg j hj
      rw [g1] at hu; injection hu with hu; subst hu
      rw [add_none]
      exact Wd.fz h g2
    · obtain ⟨b', o', es, hB, hc, he⟩ := hy.get i y hyi
      simp at hB
      obtain ⟨rfl, rfl⟩ := hB
      refine ⟨es, fun j v hv => ?_, he⟩
      have hj : j < E.n := by rw [← E.len he]; exact (List.getElem?_eq_some_iff.1 hv).1
      have hi := (List.getElem?_eq_some_iff.1 hyi).1
      have hlt : i * E.n + j < ys.length * E.n := by
        have : (i + 1) * E.n ≤ ys.length * E.n := Nat.mul_le_mul_right _ hi
        rw [Nat.add_mul] at this; omega
      obtain ⟨g1, g2, _⟩ := hg _ hlt
      have := hc j v hv
      rw [Nat.add_assoc] at this
      rw [g2] at this
      rw [g1]; exact this
    · obtain ⟨j, hj⟩ := List.getElem?_of_mem hu
      have hjl := (List.getElem?_eq_some_iff.1 hj).1
      rw [hlen] at hjl
      obtain ⟨g1, _, g3⟩ := hg j hjl
      rw [g1] at hj; injection hj with hj; subst hj; exact g3
theorem run_arrMake {α : Type} {E : FRel α} {t e : TypeId} {bytes : Nat} {l c : Operand} {n : Int} {z : α} {xs : List α} {zv : Value} (hT : tyElem P t = some e) (hsz : tySize P e = some E.n) (hby : tyBytes P e = some bytes) (hzv : tyZero P e = some zv)
    (hz : E.p f zv.cells.toList z) (hl : ev ρ l = .int .i64 n) (hc : ev ρ c = .int .i64 n) (hm : gmake bytes n z = some xs) (h : Wd G w f L) :
    ∃ w' v, (execOp (ev ρ) ⟨dst, .makeSlice t l c, ty, pos, after, guard⟩).run P w = .ok (.value v) w' ∧ ∃ A' n' c' cur, v = .slice A' n' c' ∧
      ArrOk f E A' n' c' cur xs ∧ Wd G w' f (Arr A' c' cur :: L) ∧ A'.isSome = true := by
  obtain ⟨w', b, h1, h2⟩ := wd_make (E := oF E) (dst := dst) (ty := ty) (pos := pos) (after := after) (guard := guard) hT hsz hby hzv (fun _ => hz) hl hc hm h
  obtain ⟨cur, h3, h4⟩ := wd_pin h2
  exact ⟨w', _, h1, _, _, _, cur, rfl, h3, h4, rfl⟩
theorem wd_arrB {α : Type} {E : FRel α} {b : Nat} {cs : List Value} {t : TypeId} {xs : List α} (hlen : xs.length * E.n ≤ cs.length) (hm : xs.length ≤ maxLen)
    (hE : ∀ i x, xs[i]? = some x → ∃ es, (∀ j v, es[j]? = some v → cs[i * E.n + j]? = some v) ∧ E.p f es x) (h : Wd G w f (Blk b (.cells cs.toArray t (0, 0)) :: L)) :
    ArrOk f E (some ⟨b, 0, none⟩) xs.length xs.length cs.toArray xs ∧ Wd G w f (Arr (some ⟨b, 0, none⟩) xs.length cs.toArray :: L) := by
  refine ⟨⟨rfl, Nat.le_refl _, hm, .inr ⟨b, 0, rfl, by simpa using hlen⟩, fun i x hx => ?_⟩, ?_⟩
  · obtain ⟨es, h1, h2⟩ := hE i x hx
    exact ⟨es, fun j v hv => by simpa [aoff] using h1 j v hv, h2⟩
  · obtain ⟨S, ⟨h0, h1⟩, h2, h3⟩ := h.sep
    exact ⟨h.os, h.tape, h.output, h.fro, S, .inr ⟨_, rfl, h0, t, h1⟩, h2, h3⟩
theorem wd_arrNil {α : Type} {E : FRel α} (h : Wd G w f L) : ArrOk f E none 0 0 #[] ([] : List α) ∧ Wd G w f (Arr none 0 #[] :: L) :=
  ⟨⟨rfl, Nat.le_refl _, by simp [maxLen], .inl rfl, fun i x hx => by simp at hx⟩, h.os, h.tape, h.output, h.fro, fun _ => False, .inl ⟨rfl, rfl⟩, fun _ hf => hf.elim, SepL.weaken (fun _ hb => ⟨hb, fun hf => hf⟩) h.sep⟩
theorem arr_cut {α : Type} {E : FRel α} {A : Option Addr} {n c : Nat} {cur : Array Value} {xs r : List α} {l k : Int} (hok : ArrOk f E A n c cur xs) (hr : gcut xs l k = some r) (h : Wd G w f (Arr A c cur :: L)) :
    ∃ cur', ArrOk f E (cutA A E.n l.toNat c) (k.toNat - l.toNat) (c - l.toNat) cur' r ∧ Wd G w f (Arr (cutA A E.n l.toNat c) (c - l.toNat) cur' :: L) := by
  obtain ⟨rfl, h0, h1, h2, h3⟩ := gcut_spec hr
  exact wd_pin (own_cut h1 h2 (wd_unpin hok h))
theorem arr_freeze {α : Type} {E : FRel α} {A : Option Addr} {n c : Nat} {cur : Array Value} {xs : List α} (hok : ArrOk f E A n c cur xs) (h : Wd G w f (Arr A c cur :: L)) : ∃ f', HP.le f f' ∧ SlF f' E A n c xs ∧ Wd G w f' L := by
  obtain ⟨f', h1, h2, h3⟩ := wd_freezeV (wd_unpin hok h)
  obtain ⟨A', n', c', e, h4⟩ := h2
  simp at e
  obtain ⟨rfl, rfl, rfl⟩ := e
  exact ⟨f', h1, h4, h3⟩
end
theorem run_lenS {P : Program} {w : World} {ρ : Env} {dst : Option Tmp} {ty : TypeId} {pos : String} {after : Array Edge} {guard : Option (Nat × Bool)} {α : Type} {t e : TypeId} {x : Operand} {A : Option Addr} {n c : Nat} {xs : List α} (ht : tyElem P t = some e) (hx : ev ρ x = .slice A n c) (hn : n = xs.length) :
    (execOp (ev ρ) ⟨dst, .call { callee := .builtin .len, args := #[x], argTypes := #[t] }, ty, pos, after, guard⟩).run P w = .ok (.value (.int .i64 (xs.length : Int))) w := by
  subst hn; exact run_len ht hx
theorem w64_eq {x : Int} (h0 : -9223372036854775808 ≤ x) (h1 : x ≤ 9223372036854775807) : w64 x = x := by
  unfold w64; rw [IntKind.wrap_i64]; omega
end Hk
