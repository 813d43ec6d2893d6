/- Append from an owned array; make with a capacity. -/
import Derived.Test.YtcidamhhffgipaaHkL
set_option linter.unusedVariables false
set_option linter.unusedSimpArgs false
namespace Hk
open Go
section
variable {P : Program} {G w w' : World} {f : HP} {L : List HProp} {ρ : Env} {dst : Option Tmp} {ty : TypeId} {pos : String} {after : Array Edge} {guard : Option (Nat × Bool)}
theorem run_arrAppA {α : Type} {E : FRel α} {t e : TypeId} {bytes : Nat} (hT : ApTy P t e E.n bytes) {A : Option Addr} {n c : Nat} {cur : Array Value} {xs ys r : List α} {s x : Operand} {B : Option Addr} {nb cb : Nat} {curB : Array Value}
    (h : Wd G w f (Arr A c cur :: Arr B cb curB :: L)) (hok : ArrOk f E A n c cur xs) (hs : ev ρ s = .slice A n c) (hx : ev ρ x = .slice B nb cb) (hokB : ArrOk f E B nb cb curB ys) (hr : gapp bytes xs ys = some r) :
    ∃ w' v, (execOp (ev ρ) ⟨dst, .call { callee := .builtin .append, args := #[s, x], argTypes := #[t, t] }, ty, pos, after, guard⟩).run P w = .ok (.value v) w' ∧ ∃ A' n' c' cur', v = .slice A' n' c' ∧
      ArrOk f E A' n' c' cur' r ∧ Wd G w' f (Arr A' c' cur' :: Arr B cb curB :: L) := by
  by_cases hys : ys = []
  · subst hys
    exact run_arrApp hT h hok hs hx hokB.len (news := []) (.inl rfl) (by simp) (fun i y hy => by simp at hy) (fun u hu => by simp at hu) hr
  · have hl0 : 0 < ys.length := Nat.pos_of_ne_zero fun h0 => hys (List.eq_nil_of_length_eq_zero h0)
    have hle := hokB.le
    rcases hokB.or with h0 | ⟨b, o, rfl, hz⟩
    · omega
    have hsz : ys.length * E.n ≤ cb * E.n := Nat.mul_le_mul_right _ hle
    have hlen : ((curB.toList.drop o).take (ys.length * E.n)).length = ys.length * E.n := by simp; omega
    have hget : ∀ j, j < ys.length * E.n → ((curB.toList.drop o).take (ys.length * E.n))[j]? = curB[o + j]? := by
      intro j hj
      rw [List.getElem?_take_of_lt hj, List.getElem?_drop]; simp
    refine run_arrApp hT h hok hs hx hokB.len (news := (curB.toList.drop o).take (ys.length * E.n)) (.inr ⟨⟨b, o, none⟩, rfl, fun j u hu => ?_⟩) hlen (fun i y hy => ?_) (fun u hu => ?_) hr
    · have hj := (List.getElem?_eq_some_iff.1 hu).1
      rw [hlen] at hj
      rw [hget j hj] at hu
      have := wd_arr 1 h rfl rfl (k := 0) (j := j) (v := u) (by simpa [aoff] using hu)
      simpa [eAdr] using this
    · obtain ⟨es, e1, e2⟩ := hokB.get i y hy
      refine ⟨es, fun j v hv => ?_, e2⟩
      have hj : j < E.n := by rw [← E.len e2]; exact (List.getElem?_eq_some_iff.1 hv).1
      have hi := (List.getElem?_eq_some_iff.1 hy).1
      have hlt : i * E.n + j < ys.length * E.n := by
        have : (i + 1) * E.n ≤ ys.length * E.n := Nat.mul_le_mul_right _ hi
        rw [Nat.add_mul] at this; omega
      rw [hget _ hlt, ← Nat.add_assoc]
      simpa [aoff] using e1 j v hv
    · obtain ⟨k, hk⟩ := List.getElem?_of_mem hu
      have hkl := (List.getElem?_eq_some_iff.1 hk).1
      rw [hlen] at hkl
      have hn : 0 < E.n := Nat.pos_of_ne_zero fun h0 => by rw [h0] at hkl; simp at hkl
      have hi : k / E.n < ys.length := (Nat.div_lt_iff_lt_mul hn).2 hkl
      obtain ⟨es, e1, e2⟩ := hokB.get (k / E.n) _ (List.getElem?_eq_getElem hi)
      have hm : k % E.n < es.length := by rw [E.len e2]; exact Nat.mod_lt _ hn
      have h3 := e1 (k % E.n) _ (List.getElem?_eq_getElem hm)
      rw [hget k hkl] at hk
      have h4 : o + k / E.n * E.n + k % E.n = o + k := by have := Nat.div_add_mod k E.n; rw [Nat.mul_comm] at this; omega
      simp only [aoff, Option.getD_some] at h3
      rw [h4, hk] at h3
      injection h3 with h3
      rw [h3]
      exact E.one e2 _ (List.getElem_mem hm)
/-- make([]T, n, c) -/
def gmakec {α : Type} (bytes : Nat) (n c : Int) (z : α) : Option (List α) :=
  if 0 ≤ n ∧ n ≤ c ∧ bytes * c.toNat ≤ mkRoom ∧ c.toNat ≤ maxLen then some (List.replicate n.toNat z) else none
theorem run_arrMakeC {α : Type} {E : FRel α} {t e : TypeId} {bytes : Nat} {l co : Operand} {n c : Int} {z : α} {xs : List α} {zv : Value} (hT : tyElem P t = some e) (hsz : tySize P e = some E.n) (hby : tyBytes P e = some bytes) (hzv : tyZero P e = some zv)
    (hz : E.p f zv.cells.toList z) (hl : ev ρ l = .int .i64 n) (hc : ev ρ co = .int .i64 c) (hm : gmakec bytes n c z = some xs) (h : Wd G w f L) :
    ∃ w' v, (execOp (ev ρ) ⟨dst, .makeSlice t l co, ty, pos, after, guard⟩).run P w = .ok (.value v) w' ∧ ∃ A' n' c' cur, v = .slice A' n' c' ∧
      ArrOk f E A' n' c' cur xs ∧ Wd G w' f (Arr A' c' cur :: L) := by
  obtain ⟨i, hi, hisz⟩ := tySize_spec hsz
  have ht := tyElem_spec hT
  have hzi : i.zero = some zv := by unfold tyZero at hzv; simpa [hi] using hzv
  have hbi : i.bytes = bytes := by unfold tyBytes at hby; simpa [hi] using hby
  unfold gmakec at hm
  split at hm
  case isFalse => cases hm
  rename_i hcond
  obtain ⟨h0, hnc, hb, h63⟩ := hcond
  injection hm with hm
  subst hm
  have h63' : c ≤ 9223372036854775807 := by simp only [maxLen] at h63; omega
  have hb' : (i.bytes : Int) * c ≤ 281474976710656 := by
    have h1 : ((i.bytes * c.toNat : Nat) : Int) ≤ 281474976710656 := by rw [hbi]; simp only [mkRoom] at hb; omega
    rw [Int.natCast_mul] at h1
    rwa [show ((c.toNat : Nat) : Int) = c by omega] at h1
  have hr := run_make (P := P) w t e i zv ht hi hzi .i64 .i64 n c h0 hnc hb' h63'
  have hzl : zv.cells.toList.length = E.n := E.len hz
  refine ⟨w.alloc (.cells (madeCells zv.cells (c.toNat * i.size)) e), _, ?_, some ⟨w.heap.size, 0, none⟩, n.toNat, c.toNat, madeCells zv.cells (c.toNat * i.size), rfl, ⟨by simp, by simp; omega, h63, .inr ⟨_, 0, rfl, ?_⟩, fun k y hk => ?_⟩, ?_⟩
  · have e1 : execOp (ev ρ) ⟨dst, .makeSlice t l co, ty, pos, after, guard⟩ = (Instr.makeSlice t (ev ρ l) (ev ρ co)).bind (fun v => .pure (.value v)) := rfl
    rw [e1, hl, hc, Sem.run_bind', hr]
    simp
  · simp [size_madeCells, hisz]
  · have hlt := (List.getElem?_eq_some_iff.1 hk).1
    have hy : z = y := by
      have := (List.getElem?_eq_some_iff.1 hk).2
      simpa using this
    subst hy
    refine ⟨zv.cells.toList, fun j v hv => ?_, hz⟩
    have hs : i.size = zv.cells.size := by rw [hisz, ← hzl]; simp
    rw [hs, ← hzl, Array.length_toList]
    simp only [aoff, Option.getD_some, Nat.zero_add]
    simp at hlt
    exact madeCells_get (by simpa using hv) (by omega)
  · have hnew := wd_new (cs := madeCells zv.cells (c.toNat * i.size)) (t := e) h
    obtain ⟨S, ⟨k0, k1⟩, k2, k3⟩ := hnew.sep
    exact ⟨hnew.os, hnew.tape, hnew.output, hnew.fro, S, .inr ⟨_, rfl, k0, e, k1⟩, k2, k3⟩
end
end Hk
