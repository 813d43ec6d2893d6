/- Loops; cuts; small words for the printed proofs. -/
import Derived.Test.YtcidamhhffgipaaHkH
set_option linter.unusedVariables false
set_option linter.unusedSimpArgs false
namespace Hk
open Go

abbrev Ctl.on {σ X β : Type} (c : Ctl σ X) (F : σ → β) (H : X → β) : β :=
  match c with
  | .go s => F s
  | .out x => H x
theorem on_go {σ X β : Type} {s : σ} {F : σ → Option β} {H : X → Option β} {r : β} (h : Ctl.on (.go s) F H = some r) : F s = some r := h
theorem on_out {σ X β : Type} {x : X} {F : σ → Option β} {H : X → Option β} {r : β} (h : Ctl.on (.out x) F H = some r) : H x = some r := h
def Ctl.flat {σ X : Type} : Ctl σ (Ctl σ X) → Ctl σ X
  | .go s => .go s
  | .out y => y
/-- for each element of a list; a round may also end the loop ('.out (.go s)') or more ('.out (.out x)') -/
def forC {α σ X : Type} (body : Nat → α → σ → Option (Ctl σ (Ctl σ X))) (xs : List α) (s : σ) : Option (Ctl σ X) := (forO body 0 xs s).map Ctl.flat
abbrev EPred := Env → World → Prop
/-- what holds behind a part of the code: at its end, at a return, at the leaving of a block -/
def mex (N R : EPred) (X : Nat → EPred) : EPost
  | .normal, ρ, w => N ρ w
  | .ret, ρ, w => R ρ w
  | .exit id, ρ, w => X id ρ w
  | _, _, _ => False
def noE : EPred := fun _ _ => False
def noX : Nat → EPred := fun _ _ _ => False

/-- behind a round: it goes on, or is left with an answer -/
def outE {σ X : Type} (ct : Ctl σ X) (N : EPred) (O : X → EPost) : EPost
  | .normal, ρ, w => N ρ w
  | .exit id, ρ, w => ∃ y, ct = .out y ∧ O y (.exit id) ρ w
  | .ret, ρ, w => ∃ y, ct = .out y ∧ O y .ret ρ w
  | _, _, _ => False
section
variable {P : Program} {n : Nat} {c : Code} {Q : EPost} {ρ : Env} {w : World}
theorem ewp_forO {α σ X : Type} {body : Nat → α → σ → Option (Ctl σ X)} {xs : List α} {s0 : σ} {fin : Ctl σ X} (I : Nat → σ → EPred) (hres : forO body 0 xs s0 = some fin) (h0 : I 0 s0 ρ w)
    (hround : ∀ i x s ct ρ w, xs[i]? = some x → body i x s = some ct → I i s ρ w →
      EWp P n c (outE ct (fun ρ' w' => ∃ s', ct = .go s' ∧ I (i + 1) s' ρ' w') (fun y e ρ' w' => fin = .out y → Q e ρ' w')) ρ w)
    (hend : ∀ s ρ w, fin = .go s → I xs.length s ρ w → EWp P n c (thenE (fun _ _ => False) Q) ρ w) : EWp P n (.loop c) Q ρ w := by
  refine ewp_loop (fun k ρ w => ∃ i s, k = xs.length - i ∧ i ≤ xs.length ∧ forO body i (xs.drop i) s = some fin ∧ I i s ρ w) xs.length ⟨0, s0, by simp, by simp, by simpa using hres, h0⟩ ?_
  rintro k ρ w ⟨i, s, rfl, hi, hf, hI⟩
  by_cases hlt : i < xs.length
  · have hd : xs.drop i = xs[i] :: xs.drop (i + 1) := List.drop_eq_getElem_cons hlt
    rw [hd] at hf
    simp only [forO] at hf
    obtain ⟨ct, hb, hf⟩ := bind_some hf
    refine (hround i xs[i] s ct ρ w (List.getElem?_eq_getElem hlt) hb hI).mono fun e ρ' w' hq => ?_
    cases e with
    | normal =>
      obtain ⟨s', rfl, hI'⟩ := hq
      exact ⟨xs.length - (i + 1), by omega, i + 1, s', rfl, hlt, hf, hI'⟩
    | exit id => obtain ⟨y, rfl, hq⟩ := hq; exact hq (Option.some.inj hf).symm
    | goto l => exact hq.elim
    | ret => obtain ⟨y, rfl, hq⟩ := hq; exact hq (Option.some.inj hf).symm
    | panic ch => exact hq.elim
    | outgrown => exact hq.elim
  · have he : i = xs.length := by omega
    subst he
    rw [List.drop_length] at hf
    simp only [forO, Option.some.injEq] at hf
    refine (hend s ρ w hf.symm hI).mono fun e ρ' w' hq => ?_
    cases e <;> first | exact hq.elim | exact hq
theorem ewp_forC {α σ X : Type} {body : Nat → α → σ → Option (Ctl σ (Ctl σ X))} {xs : List α} {s0 : σ} {fin : Ctl σ X} (I : Nat → σ → EPred) (hres : forC body xs s0 = some fin) (h0 : I 0 s0 ρ w)
    (hround : ∀ i x s ct ρ w, xs[i]? = some x → body i x s = some ct → I i s ρ w →
      EWp P n c (outE ct (fun ρ' w' => ∃ s', ct = .go s' ∧ I (i + 1) s' ρ' w') (fun y e ρ' w' => fin = y → Q e ρ' w')) ρ w)
    (hend : ∀ s ρ w, fin = .go s → I xs.length s ρ w → EWp P n c (thenE (fun _ _ => False) Q) ρ w) : EWp P n (.loop c) Q ρ w := by
  unfold forC at hres
  obtain ⟨c0, h0', rfl⟩ := Option.map_eq_some_iff.1 hres
  refine ewp_forO I h0' h0 (fun i x s ct ρ w hx hb hI => (hround i x s ct ρ w hx hb hI).mono fun e ρ' w' hq => ?_) (fun s ρ w he hI => hend s ρ w (by rw [he]; rfl) hI)
  cases e <;> first | exact hq | exact (let ⟨y, h1, h2⟩ := hq; ⟨y, h1, fun he => h2 (by rw [he]; rfl)⟩)
theorem ewp_iter {σ X : Type} {body : σ → Option (Ctl σ X)} {s0 : σ} {fin : X} (I : σ → EPred) (hres : iter body s0 = some fin) (h0 : I s0 ρ w)
    (hround : ∀ s ct ρ w, body s = some ct → I s ρ w →
      EWp P n c (outE ct (fun ρ' w' => ∃ s', ct = .go s' ∧ I s' ρ' w') (fun y e ρ' w' => fin = y → Q e ρ' w')) ρ w) : EWp P n (.loop c) Q ρ w := by
  obtain ⟨k, hk⟩ := N_of_iter hres
  refine ewp_loop (fun k ρ w => ∃ s, iterN body k s = some fin ∧ I s ρ w) k ⟨s0, hk, h0⟩ ?_
  rintro k ρ w ⟨s, hs, hI⟩
  cases k with
  | zero => simp [iterN] at hs
  | succ k =>
    simp only [iterN] at hs
    obtain ⟨ct, hb, hs⟩ := bind_some hs
    refine (hround s ct ρ w hb hI).mono fun e ρ' w' hq => ?_
    cases e with
    | normal =>
      obtain ⟨s', rfl, hI'⟩ := hq
      exact ⟨k, by omega, s', hs, hI'⟩
    | exit id => obtain ⟨y, rfl, hq⟩ := hq; exact hq (Option.some.inj hs).symm
    | goto l => exact hq.elim
    | ret => obtain ⟨y, rfl, hq⟩ := hq; exact hq (Option.some.inj hs).symm
    | panic ch => exact hq.elim
    | outgrown => exact hq.elim

/-! ### cuts: only some slots are known behind -/
def upds (ρ : Env) : List (Nat × Value) → Env
  | [] => ρ
  | (t, v) :: l => upd (upds ρ l) t v
def Live (ρ : Env) : List (Nat × Value) → Prop
  | [] => True
  | (t, v) :: l => ρ t = v ∧ Live ρ l
theorem Live.eq {ρ : Env} : ∀ {l : List (Nat × Value)}, Live ρ l → upds ρ l = ρ
  | [], _ => rfl
  | (t, v) :: l, ⟨h1, h2⟩ => by
    show upd (upds ρ l) t v = ρ
    rw [Live.eq h2]; exact upd_self h1
theorem ewp_live {l : List (Nat × Value)} (hl : Live ρ l) (h : ∀ ρ0, EWp P n c Q (upds ρ0 l) w) : EWp P n c Q ρ w := by
  have := h ρ
  rwa [hl.eq] at this
theorem ewp_M {x : Code} (N R : EPred) (X : Nat → EPred) (h : EWp P n x (mex N R X) ρ w) (hN : ∀ ρ' w', N ρ' w' → Q .normal ρ' w') (hR : ∀ ρ' w', R ρ' w' → Q .ret ρ' w') (hX : ∀ id ρ' w', X id ρ' w' → Q (.exit id) ρ' w') :
    EWp P n x Q ρ w := h.mono fun e ρ' w' hq => by
  cases e with
  | normal => exact hN _ _ hq
  | ret => exact hR _ _ hq
  | exit id => exact hX _ _ _ hq
  | goto l => exact hq.elim
  | panic c => exact hq.elim
  | outgrown => exact hq.elim
theorem ewp_N {x : Code} (N : EPred) (h : EWp P n x (mex N noE noX) ρ w) (hN : ∀ ρ' w', N ρ' w' → Q .normal ρ' w') : EWp P n x Q ρ w :=
  ewp_M N noE noX h hN (fun _ _ h => h.elim) (fun _ _ _ h => h.elim)
theorem ewp_cond_t {c : Operand} {x y : Code} {b : Bool} (hc : ev ρ c = .bool b) (hb : b = true) (h : EWp P n x Q ρ w) : EWp P n (.cond c x y) Q ρ w :=
  ewp_cond b hc (fun _ => h) (fun hf => by rw [hb] at hf; cases hf)
theorem ewp_cond_f {c : Operand} {x y : Code} {b : Bool} (hc : ev ρ c = .bool b) (hb : b = false) (h : EWp P n y Q ρ w) : EWp P n (.cond c x y) Q ρ w :=
  ewp_cond b hc (fun ht => by rw [hb] at ht; cases ht) (fun _ => h)
/-- a part of the code, with what holds behind it -/
theorem ewp_cut {x y : Code} (M : EPost) (h : EWp P n x M ρ w) (hm : ∀ e ρ' w', M e ρ' w' → thenE (EWp P n y Q) Q e ρ' w') : EWp P n (.seq x y) Q ρ w := ewp_seq (h.mono hm)
end
theorem cond_t {α : Type} {b : Bool} {x y : α} (h : b = true) : cond b x y = x := by subst h; rfl
theorem cond_f {α : Type} {b : Bool} {x y : α} (h : b = false) : cond b x y = y := by subst h; rfl
/-- append, where there is room -/
def gapp {α : Type} (bytes : Nat) (xs ys : List α) : Option (List α) :=
  if (xs.length + ys.length) * bytes ≤ apRoom ∧ xs.length + ys.length ≤ maxLen then some (xs ++ ys) else none
theorem gapp_spec {α : Type} {bytes : Nat} {xs ys r : List α} (h : gapp bytes xs ys = some r) : r = xs ++ ys ∧ (xs.length + ys.length) * bytes ≤ apRoom ∧ xs.length + ys.length ≤ maxLen := by
  unfold gapp at h
  split at h
  · rename_i hc; injection h with h; exact ⟨h.symm, hc⟩
  · cases h
/-- xs[l:h], within the length -/
def gcut {α : Type} (xs : List α) (l h : Int) : Option (List α) :=
  if 0 ≤ l ∧ l ≤ h ∧ h ≤ xs.length then some ((xs.take h.toNat).drop l.toNat) else none
theorem gcut_spec {α : Type} {xs r : List α} {l h : Int} (e : gcut xs l h = some r) : r = (xs.take h.toNat).drop l.toNat ∧ 0 ≤ l ∧ l.toNat ≤ h.toNat ∧ h.toNat ≤ xs.length ∧ r.length = h.toNat - l.toNat := by
  unfold gcut at e
  split at e
  · rename_i hc; injection e with e; subst e; exact ⟨rfl, hc.1, by omega, by omega, by simp; omega⟩
  · cases e
end Hk
