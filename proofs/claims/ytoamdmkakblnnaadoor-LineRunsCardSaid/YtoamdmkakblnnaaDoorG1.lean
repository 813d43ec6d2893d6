/- strings.Split at a separator of one byte: the library's contract as a contract of the walk. -/
import Derived.Test.YtoamdmkakblnnaaDoorD8
import Derived.Shelf.Strings.Split
set_option linter.unusedVariables false
set_option linter.unusedSimpArgs false
namespace Hd
open Go Hk Go.Proofs
def ssplit (b : UInt8) (s : ByteArray) : Option (List ByteArray) := if s.size < 4294967281 then some (Lib.splitB ⟨#[b]⟩ 0 (Lib.countB s ⟨#[b]⟩) s) else none
section
variable {P : Program} {ρ : Go.Shelf.Ren}
set_option maxHeartbeats 1000000 in
theorem split_calls (L : Go.Proofs.Lays.n146 P ρ) (hi9 : (P.info? (ρ.t 9)).map (fun i => (i.zero, i.size, i.bytes)) = some (some (.string ByteArray.empty), 1, 16)) (s : ByteArray) (b : UInt8) (w : World) (hs : s.size < 4294967281) :
    Calls P (ρ.f 146) #[.string s, .string ⟨#[b]⟩] w fun e w' =>
      e = .returned (.slice (some ⟨w.heap.size, 0, none⟩) (Lib.countB s ⟨#[b]⟩ + 1) (Lib.countB s ⟨#[b]⟩ + 1)) ∧ w' = w.alloc (.cells ((Lib.splitB ⟨#[b]⟩ 0 (Lib.countB s ⟨#[b]⟩) s).map Value.string).toArray (ρ.t 9)) := by
  have h1 : 1 ≤ (⟨#[b]⟩ : ByteArray).size := Nat.le_refl _
  have hle := Lib.countB_le ⟨#[b]⟩ h1 s.size s (Nat.le_refl _)
  have hlen := Lib.splitB_all ⟨#[b]⟩ h1 0 _ s rfl
  have c := Any.strings_genSplit_core { L with } hi9 s ⟨#[b]⟩ 0 (-1) (Lib.countB s ⟨#[b]⟩ + 1) w hs h1 (Nat.zero_le _)
    (fun x c hx => (Any.strings_Index_one { L with } x b _).mono fun e w' ⟨he, hw⟩ => ⟨by rw [he]; show _ = Ending.returned (Value.int .i64 (Lib.index x.data.toList [b])); rw [Lib.index_one], hw⟩)
    ((Any.strings_Count_one { L with } s b w).mono fun e w' ⟨he, hw⟩ => ⟨by rw [he]; show _ = Ending.returned (Value.int .i64 ((Lib.count s.data.toList [b] : Nat) : Int)); rw [Lib.count_one]; rfl, hw⟩)
    (by decide) (by decide) (by rw [if_pos (by decide)]; omega)
  rw [Nat.add_sub_cancel, hlen] at c
  have e2 : Lib.cellsOf (Lib.splitB ⟨#[b]⟩ 0 (Lib.countB s ⟨#[b]⟩) s) (Lib.countB s ⟨#[b]⟩ + 1) = ((Lib.splitB ⟨#[b]⟩ 0 (Lib.countB s ⟨#[b]⟩) s).map Value.string).toArray := by rw [← hlen]; exact Lib.cellsOf_full _
  rw [e2] at c
  have t3 := L.t3; have t9 := L.t9; have t31 := L.t31
  have a3 := L.a3; have a9 := L.a9; have a31 := L.a31
  have z3 := L.z3; have v3 := L.v3; have z9 := L.z9; have v9 := L.v9; have z31 := L.z31; have v31 := L.v31
  have e221 : ∀ args w, (callFunc (ρ.f 221) args).run P w = .ok (.enter (ρ.f 221) args) w := enters_of L.f221 (by kernel_rfl) rfl
  go_enter L.f146, Body.n146_ntmps ρ
  go_wp2_with (go_at_fn (ρ.f 221); refine c.mono ?_; rintro e w' ⟨rfl, hw⟩; rw [hw])
  go_ret
  exact ⟨rfl, rfl⟩
theorem upd_self (ρ : Env) (u : Nat) (v : Value) : Hk.upd ρ u v u = v := by
  unfold Hk.upd
  rw [show Nat.beq u u = true from Nat.beq_refl u]
  rfl
theorem relAll_str {f : HP} : ∀ l : List ByteArray, RelAll fStr f (l.map fun s => [Value.string s]) l
  | [] => trivial
  | s :: l => ⟨rfl, relAll_str l⟩
theorem flat_str : ∀ l : List ByteArray, (l.map fun s => [Value.string s]).flatten = l.map Value.string
  | [] => rfl
  | s :: l => by simp [flat_str l]
variable {B : Tab}
theorem split_good (L : Go.Proofs.Lays.n146 P ρ) (hi9 : (P.info? (ρ.t 9)).map (fun i => (i.zero, i.size, i.bytes)) = some (some (.string ByteArray.empty), 1, 16)) (hok : callOk P (ρ.f 146) = true) (b : UInt8) (u : Nat) :
    Good P (⟨ρ.f 146, ⟨[.slot 0 (.one (.d .str)), .slot 1 (.one (.ks ⟨#[b]⟩))], [], 0⟩, ⟨[.slot u (.one (.own 2 .str)), .arr 2 .str 2], [(2, .arr .str)], 3⟩, [u], fun (s : ByteArray) => ssplit b s⟩ : Spec B) := by
  refine ⟨?_, hok⟩
  intro G w L0 f σ s r args ht hz hs
  have ht : ssplit b s = some r := ht
  unfold ssplit at ht
  split at ht <;> try contradiction
  rename_i hlt
  injection ht with ht
  have h0 := hs.slots 0
  have h1 := hs.slots 1
  have h0 : args.getD 0 undef = .string s := h0
  have h1 : args.getD 1 undef = .string ⟨#[b]⟩ := h1
  have hargs : args = #[.string s, .string ⟨#[b]⟩] := by
    obtain ⟨l⟩ := args
    match l, hz with
    | [x, y], _ =>
      have e0 : x = _ := h0
      have e1 : y = _ := h1
      rw [e0, e1]
  subst hargs
  refine (split_calls L hi9 s b w hlt).mono fun e w' ⟨he, hw⟩ => ?_
  have hlen := Lib.splitB_all ⟨#[b]⟩ (Nat.le_refl _) 0 _ s rfl
  rw [ht] at hw hlen
  rw [← hlen] at he
  obtain ⟨E1, L1, k1, k2, k3, k4⟩ := hs.ents
  have hE1 : E1 = [] := by
    cases E1 with
    | nil => rfl
    | cons x l => exact absurd ((k2 x).1 (by simp)) (by simp)
  subst hE1
  cases L1 with
  | cons _ _ => exact k3.elim
  | nil =>
  have k4 : Wd G w f L0 := k4
  have hle := Lib.countB_le ⟨#[b]⟩ (Nat.le_refl _) s.size s (Nat.le_refl _)
  obtain ⟨cur, q1, q2⟩ := wd_arrL (E := fStr) (relAll_str r) (flat_str r).symm (Nat.ble_eq_true_of_le (by simp only [maxLen]; omega)) (wd_new (cs := (r.map Value.string).toArray) (t := ρ.t 9) k4)
  have hσ : ∀ i, ¬ i < 2 → σ i = none := fun i hi => hs.fresh i hi
  have n2 := hσ 2 (by omega)
  have n4 := hσ 4 (by omega)
  have hoff : sOff true (look (unM (B := B) ⟨[.slot 0 (.one (.d .str)), .slot 1 (.one (.ks ⟨#[b]⟩))], [], 0⟩ s)) = sOff true (fun _ => none) := by
    funext l
    cases l <;> rfl
  refine ⟨_, he, f, setR (setR σ 2 (.hdr (some ⟨w.heap.size, 0, none⟩) r.length r.length)) 4 (.con .str r), Hk.upd (fun _ => undef) u (.slice (some ⟨w.heap.size, 0, none⟩) r.length r.length), (upd_self (fun _ => undef) u (.slice (some ⟨w.heap.size, 0, none⟩) r.length r.length)).symm, ?_⟩
  have s2 : setR (setR σ 2 (.hdr (some ⟨w.heap.size, 0, none⟩) r.length r.length)) 4 (Real.con (B := B) .str r) 2 = some (.hdr (some ⟨w.heap.size, 0, none⟩) r.length r.length) := by rw [setR_ne (by decide), setR_self]
  have s4 : setR (setR σ 2 (.hdr (some ⟨w.heap.size, 0, none⟩) r.length r.length)) 4 (Real.con (B := B) .str r) 4 = some (.con .str r) := setR_self _ _ _
  show SimF G L0 f σ (ovl (unM (B := B) ⟨[.slot u (.one (.own 2 .str)), .arr 2 .str 2], [(2, .arr .str)], 3⟩ r) (sOff true (look (unM (B := B) ⟨[.slot 0 (.one (.d .str)), .slot 1 (.one (.ks ⟨#[b]⟩))], [], 0⟩ s)))) [(2, .arr .str)] (fun i => i < 3 + 2) f _ _ w'
  rw [hoff, ovl_off]
  have hM : look (unM (B := B) ⟨[.slot u (.one (.own 2 .str)), .arr 2 .str 2], [(2, .arr .str)], 3⟩ r) = look [(Loc.s u, Con.v (.one (Cel.own 2))), (Loc.a 2, Con.arr .str r 4 2)] := rfl
  rw [hM]
  have hl : ∀ (l : Loc) (c : Con B), look [(Loc.s u, Con.v (.one (Cel.own 2))), (Loc.a 2, Con.arr .str r 4 2)] l = some c → (l = .s u ∧ c = .v (.one (.own 2))) ∨ (l = .a 2 ∧ c = .arr .str r 4 2) := fun l c h => by
    by_cases hl : Loc.s u = l
    · subst hl; rw [look_cons_self] at h; injection h with h; exact .inl ⟨rfl, h.symm⟩
    · rw [look_cons_ne hl] at h
      by_cases hl : Loc.a 2 = l
      · subst hl; rw [look_cons_self] at h; injection h with h; exact .inr ⟨rfl, h.symm⟩
      · rw [look_cons_ne hl] at h; cases h
  have hne : r ≠ [] := fun e => by rw [e] at hlen; simp at hlen
  subst hw
  exact {
    gl := hs.gl
    le := HP.le_refl _
    sub := fun i x hx => by
      have : i < 2 := Nat.lt_of_not_le fun hi => by rw [hσ i (by omega)] at hx; cases hx
      rw [setR_ne (by omega), setR_ne (by omega)]
      exact hx
    fresh := fun i hi => by rw [setR_ne (by omega), setR_ne (by omega)]; exact hσ i (by omega)
    slots := fun t => by
      cases hq : look [(Loc.s u, Con.v (.one (Cel.own (B := B) 2))), (Loc.a 2, Con.arr .str r 4 2)] (.s t) with
      | none => trivial
      | some c =>
        rcases hl _ _ hq with ⟨h1, rfl⟩ | ⟨h1, _⟩
        · injection h1 with h1
          subst h1
          exact ⟨_, _, _, s2, upd_self _ _ _⟩
        · cases h1
    fzs := fun i e xs nn h => by rcases hl _ _ h with ⟨_, h⟩ | ⟨_, h⟩ <;> cases h
    fzbs := fun i e x h => by rcases hl _ _ h with ⟨_, h⟩ | ⟨_, h⟩ <;> cases h
    clos := fun c j x h => by rcases hl _ _ h with ⟨h, _⟩ | ⟨h, _⟩ <;> cases h
    arrs := fun i e xs s nn h => by
      rcases hl _ _ h with ⟨h1, h⟩ | ⟨h1, h⟩
      · cases h1
      · injection h1 with h1
        injection h with h2 h3
        subst h1 h2
        simp
    grds := fun i e rows s h hole nn h => by rcases hl _ _ h with ⟨_, h⟩ | ⟨_, h⟩ <;> cases h
    mps := fun i k v m h => by rcases hl _ _ h with ⟨_, h⟩ | ⟨_, h⟩ <;> cases h
    mphs := fun i k e m key pd h => by rcases hl _ _ h with ⟨_, h⟩ | ⟨_, h⟩ <;> cases h
    blks := fun i ty n h => by rcases hl _ _ h with ⟨_, h⟩ | ⟨_, h⟩ <;> cases h
    ents := ⟨[(2, .arr .str)], [Arr (some ⟨w.heap.size, 0, none⟩) r.length cur], by simp [Once], fun x => Iff.rfl,
      ⟨⟨_, _, _, cur, r, 4, 2, s2, rfl, by rw [look_cons_ne (by simp), look_cons_self], s4, q1, fun _ => rfl, fun _ => hne⟩, trivial⟩, q2⟩ }
end
end Hd
