/- Appending to what is owned; making; slicing; freezing; opening and shutting. -/
import Derived.Test.YtcidamhhffgipaaHkE
set_option linter.unusedVariables false
set_option linter.unusedSimpArgs false
namespace Hk
open Go

section
variable {P : Program} (w : World)
theorem run_append_room' (t ty e : TypeId) (i : TypeInfo) (ht : P.underlying t = some (.slice e)) (hi : P.info? e = some i)
    (g o sLen sCap : Nat) (cur : Array Value) (ct : TypeId) (hg : w.heap[g]? = some (.cells cur ct (0, 0)))
    (a : Addr) (m c : Nat) (news : List Value) (hl : news.length = m * i.size) (hnews : ∀ j u, news[j]? = some u → w.cell? (a.add j) = some u) (h1 : ∀ u ∈ news, u.oneCell' = true)
    (hroom : sLen + m ≤ sCap) (hfit : o + sLen * i.size + news.length ≤ cur.size) :
    (Builtin.append_ #[t, t] ty #[.slice (some ⟨g, o, none⟩) sLen sCap, .slice (some a) m c]).run P w =
      .ok (.slice (some ⟨g, o, none⟩) (sLen + m) sCap) (w.setRow g (splice cur (o + sLen * i.size) news)) := by
  have hf := run_firstCells_some (P := P) w i.size m a m c news hl hnews
  have hst := run_storeCells_at P g (o + sLen * i.size) ct news 0 cur w hg (by simpa using hfit) h1
  simp only [Nat.add_zero] at hst
  simp [Builtin.append_, run_underlying ht, Go.sizeOf, typeInfo, hi, Builtin.lenOf, hroom, hf, Addr.add_lit, hst, splice]
theorem run_append_zero (t ty e : TypeId) (i : TypeInfo) (ht : P.underlying t = some (.slice e)) (hi : P.info? e = some i)
    (A B : Option Addr) (n cap c : Nat) (hn : n ≤ cap) :
    (Builtin.append_ #[t, t] ty #[.slice A n cap, .slice B 0 c]).run P w = .ok (.slice A n cap) w := by
  cases A <;> cases B <;> simp [Builtin.append_, run_underlying ht, Go.sizeOf, typeInfo, hi, Builtin.lenOf, hn, Builtin.firstCells, loadCells, loadCellsFrom, storeCells]
end
/-- all that is asked of the table for an append at a type of slices -/
structure ApTy (P : Program) (t e : TypeId) (sz by_ : Nat) : Prop where
  elem : tyElem P t = some e
  size : tySize P e = some sz
  bytes : tyBytes P e = some by_
  zero : ∃ z, tyZero P e = some z ∧ z.cells.size = sz
  pos : 0 < sz
theorem grow_ge (w : World) (need old : Nat) (e : TypeId) : need ≤ grownCap w need old e := grownCap_ge w need old e

section
variable {P : Program} {G w : World} {f : HP} {L : List HProp}
theorem run_append_op {ρ : Env} {dst : Option Tmp} {ty t : TypeId} {pos : String} {after : Array Edge} {guard : Option (Nat × Bool)} {s x : Operand} {vs vx v : Value} {w' : World} (hs : ev ρ s = vs) (hx : ev ρ x = vx)
    (hr : (Builtin.append_ #[t, t] ty #[vs, vx]).run P w = .ok v w') :
    (execOp (ev ρ) ⟨dst, .call { callee := .builtin .append, args := #[s, x], argTypes := #[t, t] }, ty, pos, after, guard⟩).run P w = .ok (.value v) w' := by
  simp only [execOp, resolve, invoke, builtin, Sem.run_bind, Sem.run_pure, Result.andThen_ok, List.map_toArray, List.map_cons, List.map_nil, hs, hx, hr]
/-- the capacities' bound -/
def apRoom : Nat := 140737488355328
/-- APPEND to an array that is owned: some elements, whose cells are 'news' -/
theorem wd_append {α : Type} {E : FRel α} {ty t e : TypeId} {bytes : Nat} (hT : ApTy P t e E.n bytes) {A : Option Addr} {n c : Nat} {xs ys : List α}
    (h : Wd G w f (Hv [.slice A n c] (oSl (oF E)) xs :: L))
    {a : Addr} {m cx : Nat} {news : List Value} (hm : ys.length = m) (hnews : ∀ j u, news[j]? = some u → w.cell? (a.add j) = some u)
    (hl : news.length = m * E.n) (hy : ∀ i y, ys[i]? = some y → ∃ es, (∀ j v, es[j]? = some v → news[i * E.n + j]? = some v) ∧ E.p f es y)
    (h1 : ∀ u ∈ news, u.oneCell' = true) (hb : (xs.length + ys.length) * bytes ≤ apRoom) (h63 : xs.length + ys.length ≤ maxLen) :
    ∃ A' c' w', (Builtin.append_ #[t, t] ty #[.slice A n c, .slice (some a) m cx]).run P w = .ok (.slice A' (xs ++ ys).length c') w' ∧
      Wd G w' f (Hv [.slice A' (xs ++ ys).length c'] (oSl (oF E)) (xs ++ ys) :: L) := by
  subst hm
  obtain ⟨i, hi, hisz⟩ := tySize_spec hT.size
  have ht := tyElem_spec hT.elem
  obtain ⟨z, hz, hzs⟩ := hT.zero
  have hzi : i.zero = some z := by unfold tyZero at hz; simpa [hi] using hz
  have hbi : i.bytes = bytes := by have := hT.bytes; unfold tyBytes at this; simpa [hi] using this
  subst hbi
  obtain ⟨S, hS, hS2, hS3⟩ := h.sep
  obtain ⟨rfl, k1, k2, k3⟩ := oSl_inv hS
  have hlen : (xs ++ ys).length = xs.length + ys.length := List.length_append
  -- what the elements' cells are, in a row that holds the old ones and then the new ones from o on
  by_cases hy0 : ys = []
  · subst hy0
    exact ⟨A, c, w, by simpa using run_append_zero w t ty e i ht hi A (some a) xs.length c cx k1, by simpa using h⟩
  have hyl : 0 < ys.length := Nat.pos_of_ne_zero fun h0 => hy0 (List.eq_nil_of_length_eq_zero h0)
  by_cases hroom : xs.length + ys.length ≤ c
  · -- there is room
    rcases k3 with rfl | ⟨b, o, cur, cty, rfl, hbS, hc, hzc, F, e1, e2, e3⟩
    · omega
    · have hfit : o + xs.length * E.n + news.length ≤ cur.size := by
        have hzc' : o + c * E.n ≤ cur.size := hzc
        have : (xs.length + ys.length) * E.n ≤ c * E.n := Nat.mul_le_mul_right _ hroom
        rw [Nat.add_mul] at this; omega
      have hr := run_append_room' (P := P) w t ty e i ht hi b o xs.length c cur cty hc a ys.length cx news (by rw [hisz]; exact hl) hnews h1 hroom (by rw [hisz]; exact hfit)
      rw [hisz] at hr
      obtain ⟨s1, s2⟩ := wh_setRow w b cur (splice cur (o + xs.length * E.n) news) cty (0, 0) hc
      refine ⟨some ⟨b, o, none⟩, c, w.setRow b (splice cur (o + xs.length * E.n) news), by rw [hlen]; exact hr, h.step0 rfl rfl rfl fun S' hS' hne => ?_⟩
      clear e1 e2 e3 F hbS
      obtain ⟨_, _, _, k3'⟩ := oSl_inv hS'
      rcases k3' with h' | ⟨b', o', cur', cty', e', hbS, hc', hzc', F, e1, e2, e3⟩
      · omega
      simp at e'
      obtain ⟨rfl, rfl⟩ := e'
      have hcc : cur' = cur := by
        have : wh w b = some (.cells cur cty (0, 0)) := hc
        rw [this] at hc'; simp at hc'; exact hc'.1.symm
      subst hcc
      refine ⟨S', ⟨_, _, rfl, by rw [hlen]; exact hroom, k2, .inr ⟨b, o, _, cty, rfl, hbS, s1, by rw [splice_size hfit]; exact hzc, fun _ _ => False, fun _ _ hf => hf.elim, fun _ _ _ _ hf => hf.elim, fun k y hk => ?_⟩⟩,
        fun b' hb' => ⟨.inl hb', ?_⟩, fun b' hb' _ => s2 b' (fun e => by subst e; exact hb' hbS)⟩
      · rcases Nat.lt_or_ge k xs.length with hlt | hge
        · rw [List.getElem?_append_left hlt] at hk
          obtain ⟨es, f1, f2⟩ := e3 k y hk
          refine ⟨es, fun j v hv => ?_, f2⟩
          have hj : j < E.n := by rw [← E.len f2]; exact (List.getElem?_eq_some_iff.1 hv).1
          rw [splice_out hfit]
          · exact f1 j v hv
          · left
            have : (k + 1) * E.n ≤ xs.length * E.n := Nat.mul_le_mul_right _ hlt
            rw [Nat.add_mul] at this
            simp only [oF]; omega
        · rw [List.getElem?_append_right hge] at hk
          obtain ⟨es, f1, f2⟩ := hy _ y hk
          refine ⟨es, fun j v hv => ?_, f2⟩
          have := splice_in hfit (f1 j v hv)
          simp only [oF]
          rw [show o + k * E.n + j = o + xs.length * E.n + ((k - xs.length) * E.n + j) by
            have : k * E.n = xs.length * E.n + (k - xs.length) * E.n := by rw [← Nat.add_mul]; congr 1; omega
            omega]
          exact this
      · by_cases e : b' = b
        · subst e; rw [s1]; simp
        · rw [s2 b' e]; exact hne b' hb'
  · -- a new array
    have hnz : 0 < ys.length := by omega
    have h63' : ((xs.length + ys.length : Nat) : Int) ≤ 9223372036854775807 := by simp only [maxLen] at h63; omega
    have hbb : (xs.length + ys.length) * i.bytes ≤ 140737488355328 := hb
    -- the cells of the old elements
    obtain ⟨olds, ho1, ho2, ho3, hr⟩ : ∃ olds : List Value, olds.length = xs.length * E.n ∧ (∀ k x, xs[k]? = some x → ∃ es, (∀ j v, es[j]? = some v → olds[k * E.n + j]? = some v) ∧ E.p f es x) ∧ True ∧
        (Builtin.append_ #[t, t] ty #[.slice A xs.length c, .slice (some a) ys.length cx]).run P w =
          .ok (.slice (some ⟨w.heap.size, 0, none⟩) (xs.length + ys.length) (grownCap w (xs.length + ys.length) c e))
            (w.drew.alloc (.cells (olds.toArray ++ news.toArray ++ Builtin.zeroCells z.cells (grownCap w (xs.length + ys.length) c e - (xs.length + ys.length))) e)) := by
      rcases k3 with rfl | ⟨b, o, cur, cty, rfl, hbS, hc, hzc, F, e1, e2, e3⟩
      · have hx0 : xs = [] := List.eq_nil_of_length_eq_zero (by omega)
        subst hx0
        refine ⟨[], by simp, fun k x hx => by simp at hx, trivial, ?_⟩
        cases A with
        | some ad =>
          have hr := run_append_grow (P := P) w t ty e i z ht hi hzi ad 0 0 [] (by simp) (fun j v hv => by simp at hv) a ys.length cx news (by rw [hisz]; exact hl) hnews (by omega) (by simpa using h63') (growslice_fits (by omega) (by simpa using hbb))
          simpa using hr
        | none =>
        have hr := run_append_nil (P := P) w t ty e i z ht hi hzi a ys.length cx news (by rw [hisz]; exact hl) hnews hnz (by simpa using h63') (by have := hbb; simp only [List.length_nil, Nat.zero_add] at this; omega)
        simpa using hr
      · have hzc' : o + c * E.n ≤ cur.size := hzc
        have hxc : xs.length * E.n ≤ c * E.n := Nat.mul_le_mul_right _ k1
        refine ⟨(cur.toList.drop o).take (xs.length * E.n), by simp; omega, fun k x hx => ?_, trivial, ?_⟩
        · obtain ⟨es, f1, f2⟩ := e3 k x hx
          refine ⟨es, fun j v hv => ?_, f2⟩
          have hj : j < E.n := by rw [← E.len f2]; exact (List.getElem?_eq_some_iff.1 hv).1
          have hk := (List.getElem?_eq_some_iff.1 hx).1
          have hlt : k * E.n + j < xs.length * E.n := by
            have : (k + 1) * E.n ≤ xs.length * E.n := Nat.mul_le_mul_right _ hk
            rw [Nat.add_mul] at this; omega
          rw [List.getElem?_take_of_lt hlt, List.getElem?_drop]
          have := f1 j v hv
          simp only [oF] at this
          rw [Nat.add_assoc] at this
          simpa using this
        · have hr := run_append_grow (P := P) w t ty e i z ht hi hzi ⟨b, o, none⟩ xs.length c ((cur.toList.drop o).take (xs.length * E.n)) (by rw [hisz]; simp; omega)
            (fun j v hv => by
              rw [Addr.add_lit, cell_of hc]
              rw [List.getElem?_take] at hv
              split at hv
              · rw [List.getElem?_drop] at hv; simpa using hv
              · cases hv)
            a ys.length cx news (by rw [hisz]; exact hl) hnews (by omega) h63' (growslice_fits (by omega) hbb)
          exact hr
    have hge := grownCap_ge w (xs.length + ys.length) c e
    have hcm := grownCap_le_maxLen w (xs.length + ys.length) c e h63
    generalize hgc : grownCap w (xs.length + ys.length) c e = cap at *
    refine ⟨_, _, _, by rw [hlen]; exact hr, ?_⟩
    have hnew := wd_new (cs := olds.toArray ++ news.toArray ++ Builtin.zeroCells z.cells (cap - (xs.length + ys.length))) (t := e) (h.drop1.drew)
    refine hnew.step0 rfl rfl rfl fun S' hS' hne => ⟨S', ⟨_, _, rfl, by rw [hlen]; exact hge, hcm, .inr ⟨w.heap.size, 0, _, e, rfl, hS'.1, hS'.2, ?_, fun _ _ => False, fun _ _ hf => hf.elim, fun _ _ _ _ hf => hf.elim, fun k y hk => ?_⟩⟩,
      fun b' hb' => ⟨.inl hb', hne b' hb'⟩, fun b' _ _ => rfl⟩
    · simp only [Array.size_append, List.size_toArray, size_zeroCells, hzs, ho1, hl, oF]
      rw [← Nat.add_mul, ← Nat.add_mul, Nat.zero_add]
      apply Nat.mul_le_mul_right; omega
    · have hcells : ∀ (j : Nat) (v : Value), (olds ++ news)[j]? = some v → (olds.toArray ++ news.toArray ++ Builtin.zeroCells z.cells (cap - (xs.length + ys.length)))[j]? = some v := by
        intro j v hv
        have hj := (List.getElem?_eq_some_iff.1 hv).1
        rw [Array.getElem?_append_left (by simpa using hj)]
        rw [← hv, ← List.getElem?_toArray, List.append_toArray]
      rcases Nat.lt_or_ge k xs.length with hlt | hge'
      · rw [List.getElem?_append_left hlt] at hk
        obtain ⟨es, f1, f2⟩ := ho2 k y hk
        refine ⟨es, fun j v hv => ?_, f2⟩
        rw [Nat.zero_add]
        refine hcells _ _ ?_
        have h1 := f1 j v hv
        simp only [oF]
        rw [List.getElem?_append_left (List.getElem?_eq_some_iff.1 h1).1]
        exact h1
      · rw [List.getElem?_append_right hge'] at hk
        obtain ⟨es, f1, f2⟩ := hy _ y hk
        refine ⟨es, fun j v hv => ?_, f2⟩
        rw [Nat.zero_add]
        refine hcells _ _ ?_
        have h1 := f1 j v hv
        simp only [oF]
        rw [List.getElem?_append_right (by rw [ho1]; have : xs.length * E.n ≤ k * E.n := Nat.mul_le_mul_right _ hge'; omega), ho1]
        rw [show k * E.n + j - xs.length * E.n = (k - xs.length) * E.n + j by
            have : k * E.n = xs.length * E.n + (k - xs.length) * E.n := by rw [← Nat.add_mul]; congr 1; omega
            omega]
        exact h1
end
end Hk
