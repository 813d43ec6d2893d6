/- The world behind each operation: what is owned is made, read, written, opened, shut and frozen. -/
import Derived.Test.YtcidamhhffgipaaHkD
set_option linter.unusedVariables false
set_option linter.unusedSimpArgs false
namespace Hk
open Go

/-! ### lists by numbers -/
def idx {α : Type} (xs : List α) (i : Int) : Option α := if 0 ≤ i then xs[i.toNat]? else none
theorem idx_spec {α : Type} {xs : List α} {i : Int} {x : α} (h : idx xs i = some x) : 0 ≤ i ∧ i.toNat < xs.length ∧ xs[i.toNat]? = some x := by
  unfold idx at h
  split at h
  · rename_i h0; exact ⟨h0, (List.getElem?_eq_some_iff.1 h).1, h⟩
  · cases h
/-- the element number i becomes v -/
def setI {α : Type} (xs : List α) (i : Int) (v : α) : List α := xs.set i.toNat v
def splice (cur : Array Value) (a : Nat) (news : List Value) : Array Value := (cur.toList.take a ++ news ++ cur.toList.drop (a + news.length)).toArray
theorem splice_size {cur : Array Value} {a : Nat} {news : List Value} (h : a + news.length ≤ cur.size) : (splice cur a news).size = cur.size := by
  simp [splice]; omega
theorem splice_in {cur : Array Value} {a : Nat} {news : List Value} (h : a + news.length ≤ cur.size) {j : Nat} {v : Value} (hj : news[j]? = some v) : (splice cur a news)[a + j]? = some v := by
  have hlt := (List.getElem?_eq_some_iff.1 hj).1
  have h1 : (cur.toList.take a).length = a := by simp; omega
  simp only [splice, List.getElem?_toArray]
  rw [List.append_assoc, List.getElem?_append_right (by omega), h1, List.getElem?_append_left (by omega)]
  rw [show a + j - a = j by omega]; exact hj
theorem splice_out {cur : Array Value} {a : Nat} {news : List Value} (h : a + news.length ≤ cur.size) {j : Nat} (hj : j < a ∨ a + news.length ≤ j) : (splice cur a news)[j]? = cur[j]? := by
  have h1 : (cur.toList.take a).length = a := by simp; omega
  simp only [splice, List.getElem?_toArray]
  rcases hj with hj | hj
  · rw [List.append_assoc, List.getElem?_append_left (by omega), List.getElem?_take_of_lt hj]; simp
  · rw [List.getElem?_append_right (by simp; omega), List.getElem?_drop]
    rw [show a + news.length + (j - (List.take a cur.toList ++ news).length) = j by simp; omega]
    simp
theorem cell_of {w : World} {b j : Nat} {cur : Array Value} {ty : TypeId} {fr : Nat × Nat} (h : w.heap[b]? = some (.cells cur ty fr)) : w.cell? ⟨b, j, none⟩ = cur[j]? := by
  simp [World.cell?, h]

section
variable {P : Program} {ρ : Env} {w : World} {dst : Option Tmp} {ty : TypeId} {pos : String} {after : Array Edge} {guard : Option (Nat × Bool)}
theorem run_store {t : TypeId} {a x : Operand} {b j : Nat} {v : Value} {cur : Array Value} {bt : TypeId} (ha : ev ρ a = .pointer (some ⟨b, j, none⟩)) (hx : ev ρ x = v) (hs : tySize P t = some v.cells.size)
    (hb : w.heap[b]? = some (.cells cur bt (0, 0))) (hj : j + v.cells.size ≤ cur.size) (h1 : ∀ u ∈ v.cells.toList, u.oneCell' = true) :
    (execOp (ev ρ) ⟨dst, .store t a x, ty, pos, after, guard⟩).run P w = .ok .skip (w.setRow b (splice cur j v.cells.toList)) := by
  subst hx
  obtain ⟨i, hi, hsz⟩ := tySize_spec hs
  have hsv : (storeVar t ⟨b, j, none⟩ (ev ρ x)).run P w = .ok () (w.setRow b (splice cur j (ev ρ x).cells.toList)) := by
    unfold storeVar
    generalize (ev ρ x).cells = cs at *
    have hst := run_storeCells_at P b j bt cs.toList 0 cur w hb (by simpa using hj) h1
    simp only [Nat.add_zero] at hst
    simp [Go.sizeOf, typeInfo, hi, hsz, go_sem, hst, splice]
  have e1 : execOp (ev ρ) ⟨dst, .store t a x, ty, pos, after, guard⟩ = (Instr.storeAt t (ev ρ a) (ev ρ x)).bind (fun _ => .pure .skip) := rfl
  rw [e1, ha]
  show ((storeVar t ⟨b, j, none⟩ (ev ρ x)).bind (fun _ => Sem.pure Next.skip)).run P w = _
  rw [Sem.run_bind', hsv]
  rfl
end

section
variable {G w w' : World} {f : HP} {L : List HProp}
/-- a new block -/
theorem wd_new {cs : Array Value} {t : TypeId} (h : Wd G w f L) : Wd G (w.alloc (.cells cs t)) f (Blk w.heap.size (.cells cs t (0, 0)) :: L) := by
  have hnew : wh (w.alloc (.cells cs t)) w.heap.size = some (.cells cs t (0, 0)) := heap_alloc_new w _
  have hold : ∀ b, wh w b ≠ none → wh (w.alloc (.cells cs t)) b = wh w b := fun b hb => by
    have : b < w.heap.size := by
      cases hx : wh w b with
      | none => exact absurd hx hb
      | some o => exact (Array.getElem?_eq_some_iff.1 hx).1
    exact heap_alloc_old w _ this
  have hn : wh w w.heap.size = none := by simp [wh]
  refine ⟨h.os, h.tape, h.output, fun b o hf => ?_, fun b => b = w.heap.size, ⟨rfl, hnew⟩, fun b hb => ⟨?_, ?_⟩, ?_⟩
  · have := h.fro b o hf; rw [hold b (by rw [this]; simp)]; exact this
  · subst hb
    cases hf : f w.heap.size with
    | none => rfl
    | some o => have := h.fro _ o hf; rw [hn] at this; cases this
  · subst hb; rw [hnew]; simp
  · exact SepL.keep' h.sep (fun b _ hb => hold b hb) (fun b hb hb' => ⟨hb, fun e => by subst e; exact hb' hn⟩)
/-- what a known block holds -/
theorem wd_blk {b : Nat} {o : Obj} (i : Nat) (h : Wd G w f L) (hi : L[i]? = some (Blk b o)) : w.heap[b]? = some o := by
  obtain ⟨S, ⟨_, h1⟩, _⟩ := (h.front i hi).sep
  exact h1
theorem wd_cell {b j : Nat} {cs : Array Value} {t : TypeId} {fr : Nat × Nat} {v : Value} (i : Nat) (h : Wd G w f L) (hi : L[i]? = some (Blk b (.cells cs t fr))) (hc : cs[j]? = some v) : w.cell? ⟨b, j, none⟩ = some v := by
  rw [cell_of (wd_blk i h hi)]; exact hc
theorem wh_setRow (w : World) (b : Nat) (cur new : Array Value) (t : TypeId) (fr : Nat × Nat) (hb : w.heap[b]? = some (.cells cur t fr)) :
    wh (w.setRow b new) b = some (.cells new t fr) ∧ ∀ c, c ≠ b → wh (w.setRow b new) c = wh w c :=
  ⟨setRow_heap w b cur new t fr hb, fun c hc => setRow_other w b c new hc⟩
theorem setRow_env (w : World) (b : Nat) (new : Array Value) : (w.setRow b new).os = w.os ∧ (w.setRow b new).tape = w.tape ∧ (w.setRow b new).output = w.output := ⟨rfl, rfl, rfl⟩
/-- a known block is written: the first -/
theorem wd_setBlk0 {b : Nat} {cs new : Array Value} {t : TypeId} (h : Wd G w f (Blk b (.cells cs t (0, 0)) :: L)) : Wd G (w.setRow b new) f (Blk b (.cells new t (0, 0)) :: L) := by
  have hb := wd_blk 0 h rfl
  obtain ⟨k1, k2⟩ := wh_setRow w b cs new t (0, 0) hb
  refine h.step0 rfl rfl rfl fun S hS hne => ⟨S, ⟨hS.1, k1⟩, fun c hc => ⟨.inl hc, ?_⟩, fun c hc _ => k2 c (fun e => by subst e; exact hc hS.1)⟩
  by_cases e : c = b
  · subst e; rw [k1]; simp
  · rw [k2 c e]; exact hne c hc
theorem SepL.unfront {f h : HP} : ∀ (i : Nat) {L : List HProp} {A' : HProp}, i < L.length → ∀ {av : Foot}, SepL f h (A' :: L.eraseIdx i) av → SepL f h (L.set i A') av
  | _, [], _, hi, _, _ => by simp at hi
  | 0, B :: L, A', hi, av, hs => hs
  | i + 1, B :: L, A', hi, av, hs => by
    have h1 : SepL f h (B :: A' :: L.eraseIdx i) av := SepL.swap hs
    exact SepL.cons (fun av' hs' => SepL.unfront i (by simpa using hi) hs') h1
/-- .. the i-th -/
theorem wd_at (i : Nat) {A A' : HProp} (hi : L[i]? = some A) (hs : ∀ L', Wd G w f (A :: L') → Wd G w' f (A' :: L')) (h : Wd G w f L) : Wd G w' f (L.set i A') := by
  have h1 := h.front i hi
  have h2 := hs _ h1
  have hlt := (List.getElem?_eq_some_iff.1 hi).1
  have h3 := SepL.unfront i hlt h2.sep
  exact ⟨h2.os, h2.tape, h2.output, h2.fro, h3⟩
theorem wd_setBlk {b : Nat} {cs new : Array Value} {t : TypeId} (i : Nat) (h : Wd G w f L) (hi : L[i]? = some (Blk b (.cells cs t (0, 0)))) :
    Wd G (w.setRow b new) f (L.set i (Blk b (.cells new t (0, 0)))) := wd_at i hi (fun L' h' => wd_setBlk0 h') h

/-! ### values with what they own -/
theorem wd_frozen {b : Nat} {o : Obj} (h : Wd G w f L) (hb : f b = some o) : w.heap[b]? = some o := h.fro b o hb
/-- an element of a slice that lies in the frozen part -/
theorem slf_at {α : Type} {E : FRel α} {A : Option Addr} {n c : Nat} {xs : List α} {i : Int} {x : α} (h : Wd G w f L) (hs : SlF f E A n c xs) (hx : idx xs i = some x) :
    ∃ b o es, A = some ⟨b, o, none⟩ ∧ (∀ j v, es[j]? = some v → w.cell? ⟨b, o + i.toNat * E.n + j, none⟩ = some v) ∧ E.p f es x := by
  obtain ⟨h0, h1, h2⟩ := idx_spec hx
  obtain ⟨b, o, es, e, hc, he⟩ := hs.get _ _ h2
  exact ⟨b, o, es, e, fun j v hv => by rw [← hcell_wh]; exact hcell_le h.fro (hc j v hv), he⟩
/-- an array that is owned, but for what the element number k owns; that element's cells are 'es' -/
def Hole {α : Type} (A : Option Addr) (c : Nat) (E : ORel α) (xs : List α) (k : Nat) (es : List Value) : HProp :=
  ⟨fun f h S => xs.length ≤ c ∧ c ≤ maxLen ∧ k < xs.length ∧ es.length = E.fz.n ∧ ∃ b o cur ty, A = some ⟨b, o, none⟩ ∧ S b ∧ h b = some (.cells cur ty (0, 0)) ∧ o + c * E.fz.n ≤ cur.size ∧
    (∀ j v, es[j]? = some v → cur[o + k * E.fz.n + j]? = some v) ∧
    ∃ F : Nat → Foot, (∀ i b', F i b' → S b' ∧ b' ≠ b) ∧ (∀ i j b', i ≠ j → F i b' → ¬ F j b') ∧
      ∀ i x, i ≠ k → xs[i]? = some x → ∃ es, (∀ j v, es[j]? = some v → cur[o + i * E.fz.n + j]? = some v) ∧ E.p f h es x (F i),
   fun ⟨h1, h2, h3, h4, b, o, cur, ty, e, hb, hc, hz, hes, F, k1, k2, k3⟩ hs => ⟨h1, h2, h3, h4, b, o, cur, ty, e, hb, (hs b hb).trans hc, hz, hes, F, k1, k2,
     fun i x hi hx => let ⟨es, e1, e2⟩ := k3 i x hi hx; ⟨es, e1, E.loc e2 (fun b' hb' => hs b' (k1 i b' hb').1)⟩⟩,
   fun hl ⟨h1, h2, h3, h4, b, o, cur, ty, e, hb, hc, hz, hes, F, k1, k2, k3⟩ => ⟨h1, h2, h3, h4, b, o, cur, ty, e, hb, hc, hz, hes, F, k1, k2,
     fun i x hi hx => let ⟨es, e1, e2⟩ := k3 i x hi hx; ⟨es, e1, E.mono hl e2⟩⟩⟩
theorem oSl_inv {α : Type} {E : ORel α} {A : Option Addr} {n c : Nat} {xs : List α} {f h : HP} {S : Foot} (hs : (oSl E).p f h [.slice A n c] xs S) : n = xs.length ∧ SlO f h E A c xs S := by
  obtain ⟨A', c', e, hs⟩ := hs
  simp at e
  obtain ⟨rfl, rfl, rfl⟩ := e
  exact ⟨rfl, hs⟩
/-- an element is taken out -/
theorem wd_take {α : Type} {E : ORel α} {A : Option Addr} {n c : Nat} {xs : List α} {k : Nat} {x : α} (h : Wd G w f (Hv [.slice A n c] (oSl E) xs :: L)) (hx : xs[k]? = some x) :
    ∃ es, Wd G w f (Hole A c E xs k es :: Hv es E x :: L) ∧ ∃ b o, A = some ⟨b, o, none⟩ ∧ ∀ j v, es[j]? = some v → w.cell? ⟨b, o + k * E.fz.n + j, none⟩ = some v := by
  obtain ⟨S, h1, h2, h3⟩ := h.sep
  obtain ⟨_, k1, k2, k3⟩ := oSl_inv h1
  have hlt := (List.getElem?_eq_some_iff.1 hx).1
  rcases k3 with rfl | ⟨b, o, cur, ty, rfl, hb, hc, hz, F, e1, e2, e3⟩
  · omega
  obtain ⟨es, he, hr⟩ := e3 k x hx
  refine ⟨es, ⟨h.os, h.tape, h.output, h.fro, fun b' => S b' ∧ ¬ F k b', ⟨k1, k2, hlt, E.len hr, b, o, cur, ty, rfl, ⟨hb, fun hf => (e1 k b hf).2 rfl⟩, hc, hz, he,
      fun i b' => i ≠ k ∧ F i b', fun i b' hf => ⟨⟨(e1 i b' hf.2).1, fun hk => e2 i k b' hf.1 hf.2 hk⟩, (e1 i b' hf.2).2⟩, fun i j b' hij hf hf' => e2 i j b' hij hf.2 hf'.2, fun i x hi hx => ?_⟩,
      fun b' hb' => ⟨(h2 b' hb'.1).1, (h2 b' hb'.1).2⟩, F k, hr, fun b' hb' => ⟨⟨(h2 b' (e1 k b' hb').1).1, fun hn => hn.2 hb'⟩, (h2 b' (e1 k b' hb').1).2⟩, ?_⟩, b, o, rfl, fun j v hv => ?_⟩
  · obtain ⟨es', f1, f2⟩ := e3 i x hx
    exact ⟨es', f1, E.loc' f2 (fun b' hb' => ⟨hi, hb'⟩)⟩
  · exact SepL.weaken (fun b' hb' => ⟨⟨hb'.1, fun hn => hb'.2 hn.1⟩, fun hn => hb'.2 (e1 k b' hn).1⟩) h3
  · rw [cell_of hc]; exact he j v hv
/-- .. and put back -/
theorem wd_put {α : Type} {E : ORel α} {A : Option Addr} {n c : Nat} {xs : List α} {k : Nat} {es : List Value} {x : α} (hn : n = xs.length) (h : Wd G w f (Hole A c E xs k es :: Hv es E x :: L)) :
    Wd G w f (Hv [.slice A n c] (oSl E) (xs.set k x) :: L) := by
  subst hn
  obtain ⟨S, ⟨k1, k2, hlt, hes, b, o, cur, ty, rfl, hb, hc, hz, he, F, e1, e2, e3⟩, h2, T, hT, t2, h3⟩ := h.sep
  refine ⟨h.os, h.tape, h.output, h.fro, fun b' => S b' ∨ T b', ⟨some ⟨b, o, none⟩, c, by simp, by simpa using k1, k2, .inr ⟨b, o, cur, ty, rfl, .inl hb, hc, hz,
      fun i b' => (i = k ∧ T b') ∨ (i ≠ k ∧ F i b'), fun i b' hf => ?_, fun i j b' hij hf hf' => ?_, fun i y hy => ?_⟩⟩, fun b' hb' => ?_, ?_⟩
  · rcases hf with ⟨_, hf⟩ | ⟨_, hf⟩
    · exact ⟨.inr hf, fun e => by subst e; exact (t2 _ hf).1.2 hb⟩
    · exact ⟨.inl (e1 i b' hf).1, (e1 i b' hf).2⟩
  · rcases hf with ⟨e, hf⟩ | ⟨e, hf⟩ <;> rcases hf' with ⟨e', hf'⟩ | ⟨e', hf'⟩
    · omega
    · exact (t2 _ hf).1.2 (e1 j b' hf').1
    · exact (t2 _ hf').1.2 (e1 i b' hf).1
    · exact e2 i j b' hij hf hf'
  · by_cases hik : i = k
    · subst hik
      rw [List.getElem?_set_self hlt] at hy
      cases hy
      exact ⟨es, he, E.loc' hT (fun b' hb' => .inl ⟨rfl, hb'⟩)⟩
    · rw [List.getElem?_set_ne (Ne.symm hik)] at hy
      obtain ⟨es', f1, f2⟩ := e3 i y hik hy
      exact ⟨es', f1, E.loc' f2 (fun b' hb' => .inr ⟨hik, hb'⟩)⟩
  · rcases hb' with hb' | hb'
    · exact ⟨(h2 b' hb').1, (h2 b' hb').2⟩
    · exact ⟨(t2 b' hb').1.1, (t2 b' hb').2⟩
  · refine SepL.weaken (fun b' hb' => ⟨hb'.1.1, fun hn => ?_⟩) h3
    rcases hn with hn | hn
    · exact hb'.1.2 hn
    · exact hb'.2 hn
/-- the cells of the element that is out are written -/
theorem wd_hole_set {α : Type} {E : ORel α} {A : Option Addr} {c : Nat} {xs : List α} {k : Nat} {es news : List Value} (h : Wd G w f (Hole A c E xs k es :: L)) (hn : news.length = E.fz.n) :
    ∃ b o cur ty, A = some ⟨b, o, none⟩ ∧ w.heap[b]? = some (.cells cur ty (0, 0)) ∧ o + k * E.fz.n + news.length ≤ cur.size ∧
      Wd G (w.setRow b (splice cur (o + k * E.fz.n) news)) f (Hole A c E xs k news :: L) := by
  obtain ⟨S, ⟨k1, k2, hlt, hes, b, o, cur, ty, rfl, hb, hc, hz, he, F, e1, e2, e3⟩, h2, h3⟩ := h.sep
  have hfit : o + k * E.fz.n + news.length ≤ cur.size := by
    have : (k + 1) * E.fz.n ≤ c * E.fz.n := Nat.mul_le_mul_right _ (by omega)
    rw [Nat.add_mul] at this
    omega
  obtain ⟨s1, s2⟩ := wh_setRow w b cur (splice cur (o + k * E.fz.n) news) ty (0, 0) hc
  refine ⟨b, o, cur, ty, rfl, hc, hfit, h.step0 rfl rfl rfl fun S' hS' hne => ?_⟩
  clear e1 e2 e3 he hes F
  obtain ⟨k1, k2, hlt, hes, b', o', cur', ty', e, hb, hc', hz, he, F, e1, e2, e3⟩ := hS'
  simp at e
  obtain ⟨rfl, rfl⟩ := e
  have hcc : cur' = cur := by
    have : wh w b = some (.cells cur ty (0, 0)) := hc
    rw [this] at hc'; simp at hc'; exact hc'.1.symm
  subst hcc
  refine ⟨S', ⟨k1, k2, hlt, hn, b, o, _, ty, rfl, hb, s1, by rw [splice_size hfit]; exact hz, fun j v hv => splice_in hfit hv, F, e1, e2, fun i x hi hx => ?_⟩, fun b' hb' => ⟨.inl hb', ?_⟩,
    fun b' hb' _ => s2 b' (fun e => by subst e; exact hb' hb)⟩
  · obtain ⟨es', f1, f2⟩ := e3 i x hi hx
    refine ⟨es', fun j v hv => ?_, E.loc f2 (fun b' hb' => s2 b' (e1 i b' hb').2)⟩
    have hj : j < E.fz.n := by rw [← E.len f2]; exact (List.getElem?_eq_some_iff.1 hv).1
    rw [splice_out hfit]
    · exact f1 j v hv
    · rcases Nat.lt_or_ge i k with hik | hik
      · left
        have : (i + 1) * E.fz.n ≤ k * E.fz.n := Nat.mul_le_mul_right _ hik
        rw [Nat.add_mul] at this; omega
      · right
        have : (k + 1) * E.fz.n ≤ i * E.fz.n := Nat.mul_le_mul_right _ (by omega)
        rw [Nat.add_mul] at this; omega
  · by_cases e : b' = b
    · subst e; rw [s1]; simp
    · rw [s2 b' e]; exact hne b' hb'
end
end Hk
