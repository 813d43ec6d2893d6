/- The steps of the printed proofs. -/
import Derived.Test.YtcidamhhffgipaaHkJ
set_option linter.unusedVariables false
set_option linter.unusedSimpArgs false
namespace Hk
open Go
section
variable {P : Program} {n : Nat} {ops : Array Oper} {Q : EPost} {ρ : Env} {w : World} {rest : List Oper} {o : Oper}
theorem el_exv {d : Nat} {K : Value → World → Prop} (hg : Region.wanted o (yieldedE ops ρ) = true) (hd : o.dst = some d) (hlt : Nat.blt d n = true)
    (hr : ∃ w' v, (execOp (ev ρ) o).run P w = .ok (.value v) w' ∧ K v w') (h : ∀ w' v, K v w' → EL P n ops Q rest (upd ρ d v) w') : EL P n ops Q (o :: rest) ρ w := by
  obtain ⟨w', v, h1, h2⟩ := hr
  exact el_val hg hd hlt h1 (h w' v h2)
theorem el_exu {K : World → Prop} (hg : Region.wanted o (yieldedE ops ρ) = true) (hd : o.dst = none)
    (hr : ∃ w', (execOp (ev ρ) o).run P w = .ok .skip w' ∧ K w') (h : ∀ w', K w' → EL P n ops Q rest ρ w') : EL P n ops Q (o :: rest) ρ w := by
  obtain ⟨w', h1, h2⟩ := hr
  exact el_unit hg hd h1 (h w' h2)
section op
variable {i : Nat} {o : Oper} {KK : Env → World → Prop}
theorem eo_exv {d : Nat} {K : Value → World → Prop} (hi : ops[i]? = some o) (hg : Region.wanted o (yieldedE ops ρ) = true) (hd : o.dst = some d) (hlt : Nat.blt d n = true)
    (hr : ∃ w' v, (execOp (ev ρ) o).run P w = .ok (.value v) w' ∧ K v w') (h : ∀ w' v, K v w' → KK (upd ρ d v) w') : EOp P n ops i KK ρ w := by
  obtain ⟨w', v, h1, h2⟩ := hr
  exact eo_val hi hg hd hlt h1 (h w' v h2)
theorem eo_exu {K : World → Prop} (hi : ops[i]? = some o) (hg : Region.wanted o (yieldedE ops ρ) = true) (hd : o.dst = none)
    (hr : ∃ w', (execOp (ev ρ) o).run P w = .ok .skip w' ∧ K w') (h : ∀ w', K w' → KK ρ w') : EOp P n ops i KK ρ w := by
  obtain ⟨w', h1, h2⟩ := hr
  exact eo_unit hi hg hd h1 (h w' h2)
end op
theorem et_one {S : World → Prop} {brk : List Nat} {m k fuel : Nat} {listed : Array Bool} (i : Nat) (hr : (Region.ready .any ops listed == [i]) = true)
    (h : EOp P n ops i (fun ρ' w' => (brk.contains i = false → S w → S w') ∧ ET P n ops Q S brk m k fuel (listed.setIfInBounds i true) ρ' w') ρ w) : ET P n ops Q S brk m (k + 1) (fuel + 1) listed ρ w :=
  et_all [i] (by rw [eq_of_beq hr]; simp) (fun j hj => by rw [List.mem_singleton.1 hj]; exact h)
end
section
variable {P : Program} {G w w' : World} {f : HP} {L : List HProp} {ρ : Env} {dst : Option Tmp} {ty : TypeId} {pos : String} {after : Array Edge} {guard : Option (Nat × Bool)}
theorem run_boxE {t : TypeId} {x : Operand} {v : Value} {cs : List Value} (hx : ev ρ x = v) (hv : v.cells = cs.toArray) (h : Wd G w f L) :
    ∃ w' v, (execOp (ev ρ) ⟨dst, .box t x, ty, pos, after, guard⟩).run P w = .ok (.value v) w' ∧ ∃ b, v = .pointer (some ⟨b, 0, none⟩) ∧ Wd G w' f (Blk b (.cells cs.toArray t (0, 0)) :: L) :=
  ⟨_, _, run_box hx, w.heap.size, rfl, by rw [hv]; exact wd_new h⟩
theorem run_allocE {t : TypeId} {z : Value} {cs : List Value} (hz : tyZero P t = some z) (hv : z.cells = cs.toArray) (h : Wd G w f L) :
    ∃ w' v, (execOp (ev ρ) ⟨dst, .alloc t, ty, pos, after, guard⟩).run P w = .ok (.value v) w' ∧ ∃ b, v = .pointer (some ⟨b, 0, none⟩) ∧ Wd G w' f (Blk b (.cells cs.toArray t (0, 0)) :: L) :=
  ⟨_, _, run_alloc hz, w.heap.size, rfl, by rw [hv]; exact wd_new h⟩
theorem run_buildSliceE {t e : TypeId} {len k : Nat} {parts : List (Nat × Operand)} {zv : Value} {base cs : List Value} (ht : tyElem P t = some e) (hk : tySize P e = some k) (hz : tyZero P e = some zv) (hlen : Nat.ble (len * k) 1000000 = true)
    (hbase : (madeCells zv.cells (len * k)).toList = base) (hf : fillL (fun i => some (i * k, k)) base (partsOf ρ parts) = some cs) (h : Wd G w f L) :
    ∃ w' v, (execOp (ev ρ) ⟨dst, .buildSlice t len parts.toArray, ty, pos, after, guard⟩).run P w = .ok (.value v) w' ∧ ∃ b, v = .slice (some ⟨b, 0, none⟩) len len ∧ Wd G w' f (Blk b (.cells cs.toArray e (0, 0)) :: L) :=
  ⟨_, _, run_buildSlice ht hk hz hlen hbase hf, w.heap.size, rfl, wd_new h⟩
/-- a cell of a frozen variable -/
theorem fblk {b off : Nat} {ds : List Value} {t : TypeId} {fr : Nat × Nat} {v : Value} (hb : f b = some (.cells ds.toArray t fr)) (hv : ds[off]? = some v) : hcell f ⟨b, off, none⟩ = some v := by
  simp [hcell, hb, hv]
theorem fblks {b off : Nat} {ds vs : List Value} {t : TypeId} {fr : Nat × Nat} (hb : f b = some (.cells ds.toArray t fr)) (hsub : (ds.drop off).take vs.length = vs) :
    ∀ j v, vs[j]? = some v → hcell f ((⟨b, off, none⟩ : Addr).add j) = some v := by
  intro j v hv
  have hj := (List.getElem?_eq_some_iff.1 hv).1
  rw [add_none]
  refine fblk hb ?_
  rw [← hsub] at hv
  rwa [List.getElem?_take_of_lt hj, List.getElem?_drop] at hv
/-- a part of an element's cells -/
theorem sub_cells {g : Addr → Option Value} {b o off : Nat} {es vs : List Value} (hc : ∀ j v, es[j]? = some v → g ((⟨b, o, none⟩ : Addr).add j) = some v) (hsub : (es.drop off).take vs.length = vs) :
    ∀ j v, vs[j]? = some v → g ((⟨b, o + off, none⟩ : Addr).add j) = some v := by
  intro j v hv
  have hj := (List.getElem?_eq_some_iff.1 hv).1
  rw [← hsub] at hv
  rw [List.getElem?_take_of_lt hj, List.getElem?_drop] at hv
  have := hc _ _ hv
  rw [add_none] at this ⊢
  rw [show o + off + j = o + (off + j) by omega]; exact this
theorem fz_cells {a : Addr} {vs : List Value} (h : Wd G w f L) (hc : ∀ j v, vs[j]? = some v → hcell f (a.add j) = some v) : ∀ j v, vs[j]? = some v → w.cell? (a.add j) = some v := fun j v hv => h.fz (hc j v hv)
theorem arr_cells {A : Option Addr} {c : Nat} {cur : Array Value} {b o k : Nat} {vs : List Value} (i : Nat) (h : Wd G w f L) (hi : L[i]? = some (Arr A c cur)) (hA : A = some ⟨b, o, none⟩) (hc : ∀ j v, vs[j]? = some v → cur[aoff A + k + j]? = some v) :
    ∀ j v, vs[j]? = some v → w.cell? ((eAdr A k).add j) = some v := fun j v hv => wd_arr i h hi hA (hc j v hv)
/-- the i-th is dropped -/
theorem Wd.drop (i : Nat) {A : HProp} (hi : L[i]? = some A) (h : Wd G w f L) : Wd G w f (L.eraseIdx i) := (h.front i hi).drop1
theorem idx_nat {α : Type} {xs : List α} {i : Nat} {x : α} (h : xs[i]? = some x) : idx xs (i : Int) = some x := by unfold idx; rw [if_pos (by omega)]; simpa using h
theorem lt_len {α : Type} {xs : List α} {i : Nat} {x : α} (h : xs[i]? = some x) : decide ((i : Int) < (xs.length : Int)) = true := by
  have := (List.getElem?_eq_some_iff.1 h).1
  simp; exact this
theorem nlt_self (n : Int) : decide (n < n) = false := by simp
theorem succ_w64 {α : Type} {xs : List α} {i : Nat} {x : α} (hr : xs.length ≤ 9223372036854775807) (h : xs[i]? = some x) : w64 ((i : Int) + 1) = ((i + 1 : Nat) : Int) := by
  have := (List.getElem?_eq_some_iff.1 h).1
  rw [w64_eq (by omega) (by omega)]; omega
theorem range_get {n : Nat} {i x : Nat} (h : (List.range n)[i]? = some x) : x = i ∧ i < n := by
  have h1 := (List.getElem?_eq_some_iff.1 h).1
  rw [List.getElem?_range (by simpa using h1)] at h
  exact ⟨(Option.some.inj h).symm, by simpa using h1⟩
theorem lt_range {n : Int} {i x : Nat} (h : (List.range n.toNat)[i]? = some x) : decide ((i : Int) < n) = true := by
  have := (range_get h).2; simp; omega
theorem nlt_range (n : Int) : decide (((List.range n.toNat).length : Int) < n) = false := by simp; omega
theorem succ_range {n : Int} {i x : Nat} (hn : n ≤ 9223372036854775807) (h : (List.range n.toNat)[i]? = some x) : w64 ((i : Int) + 1) = ((i + 1 : Nat) : Int) := by
  have := (range_get h).2
  rw [w64_eq (by omega) (by omega)]; omega
end
end Hk
