/- A function without arguments that is known to answer true; types that hold slices of their own kind. -/
import Derived.Test.YtodbddhmfecbbaaGreatDoorD8
import Derived.Test.YtodbddhmfecbbaaGreatDoorK5
set_option linter.unusedVariables false
set_option linter.unusedSimpArgs false
namespace Hd
open Go Hk
section
variable {P : Program} {B : Tab}
theorem updS (ρ : Env) (t : Nat) (v : Value) : Hk.upd ρ t v t = v := by
  unfold Hk.upd
  rw [Nat.beq_refl t]
  rfl
theorem true_good {fid u : Nat} (hok : callOk P fid = true)
    (hc : ∀ (w : World), Calls P fid #[] w fun e w' => e = .returned (.bool true) ∧ w'.os = w.os ∧ w'.tape = w.tape ∧ w'.output = w.output ∧ HP.le (wh w) (wh w')) :
    Good P (⟨fid, ⟨[], [], 0⟩, ⟨[.slot u (.one (.d .bool))], [], 0⟩, [u], fun _ => some true⟩ : Spec B) := by
  refine ⟨?_, hok⟩
  intro G w L0 f σ s r args ht hz hs
  have ht : some true = some r := ht
  injection ht with ht
  subst ht
  have hargs : args = #[] := by
    obtain ⟨l⟩ := args
    match l, hz with
    | [], _ => rfl
  subst hargs
  obtain ⟨E1, L1, k1, k2, k3, k4⟩ := hs.ents
  refine (hc w).mono fun e w' ⟨he, ho, htp, hou, hle⟩ => ?_
  have hoff : sOff true (look (unM (B := B) ⟨[], [], 0⟩ s)) = sOff true (fun _ => none) := by
    funext l
    cases l <;> rfl
  refine ⟨_, he, f, σ, Hk.upd (fun _ => undef) u (.bool true), ?_, ?_⟩
  · show Value.bool true = Hk.upd (fun _ => undef) u (.bool true) u
    exact (updS _ _ _).symm
  · show SimF G L0 f σ (ovl (unM (B := B) ⟨[.slot u (.one (.d .bool))], [], 0⟩ true) (sOff true (look (unM (B := B) ⟨[], [], 0⟩ s)))) [] (fun i => i < 0 + 1) f σ _ w'
    rw [hoff, ovl_off]
    have hM : look (unM (B := B) ⟨[.slot u (.one (.d .bool))], [], 0⟩ true) = look [(Loc.s u, Con.v (.one (Cel.bool true)))] := rfl
    rw [hM]
    have hl : ∀ (l : Loc) (c : Con B), look [(Loc.s u, Con.v (.one (Cel.bool true)))] l = some c → l = .s u ∧ c = .v (.one (.bool true)) := fun l c h => by
      by_cases hl : Loc.s u = l
      · subst hl; rw [look_cons_self] at h; injection h with h; exact ⟨rfl, h.symm⟩
      · rw [look_cons_ne hl] at h; cases h
    exact {
      gl := hs.gl
      le := HP.le_refl _
      sub := Rz.le_refl _
      fresh := fun i hi => hs.fresh i (show ¬ i < 0 + 0 from by omega)
      slots := fun t => by
        cases hq : look [(Loc.s u, Con.v (.one (Cel.bool (B := B) true)))] (.s t) with
        | none => trivial
        | some c =>
          obtain ⟨h1, rfl⟩ := hl _ _ hq
          injection h1 with h1
          subst h1
          exact updS _ _ _
      fzs := fun i e xs nn h => by cases (hl _ _ h).1
      fzbs := fun i e x h => by cases (hl _ _ h).1
      clos := fun c j x h => by cases (hl _ _ h).1
      arrs := fun i e xs s nn h => by cases (hl _ _ h).1
      grds := fun i e rows s h hole nn h => by cases (hl _ _ h).1
      mps := fun i k v m h => by cases (hl _ _ h).1
      mphs := fun i k v m key pd h => by cases (hl _ _ h).1
      blks := fun i ty n h => by cases (hl _ _ h).1
      ents := by
        have hE1 : E1 = [] := by
          cases E1 with
          | nil => rfl
          | cons x l => exact absurd ((k2 x).1 (by simp)) (by simp)
        subst hE1
        cases L1 with
        | cons _ _ => exact k3.elim
        | nil =>
        refine ⟨[], [], k1, k2, trivial, ⟨ho.trans k4.os, htp.trans k4.tape, hou.trans k4.output, HP.le_trans k4.fro hle, ?_⟩⟩
        refine k4.sep.keep fun b _ hn => ?_
        cases hb : wh w b with
        | none => exact absurd hb hn
        | some o => exact hle b o hb }
end
end Hd
namespace Hk
open Go
def FRel.sub {α : Type} (E E' : FRel α) : Prop := ∀ f cs x, E.p f cs x → E'.p f cs x
end Hk
namespace Hd
open Go Hk
structure Cont {α β : Type} (Φ : FRel α → FRel β) : Prop where
  mono : ∀ E E', E.n = E'.n → E.sub E' → (Φ E).sub (Φ E')
  lim : ∀ (E : Nat → FRel α) (U : FRel α), (∀ k, (E k).n = U.n) → (∀ k, (E k).sub (E (k + 1))) → (∀ f cs x, U.p f cs x → ∃ k, (E k).p f cs x) → ∀ f cs x, (Φ U).p f cs x → ∃ k, (Φ (E k)).p f cs x
theorem chain_le {α : Type} {E : Nat → FRel α} (h : ∀ k, (E k).sub (E (k + 1))) {a b : Nat} (hab : a ≤ b) : (E a).sub (E b) := by
  induction b with
  | zero =>
    obtain rfl : a = 0 := by omega
    exact fun _ _ _ h => h
  | succ b ih =>
    by_cases e : a = b + 1
    · subst e; exact fun _ _ _ h => h
    · exact fun f cs x hx => h b f cs x (ih (by omega) f cs x hx)
theorem cont_const {α β : Type} (A : FRel β) : Cont (fun _ : FRel α => A) := ⟨fun _ _ _ _ _ _ _ h => h, fun _ _ _ _ _ _ _ _ h => ⟨0, h⟩⟩
theorem cont_pair {α β γ : Type} {Φ : FRel α → FRel β} {Ψ : FRel α → FRel γ} (h : Cont Φ) (k : Cont Ψ) : Cont (fun E => fPair (Φ E) (Ψ E)) :=
  ⟨fun E E' hn hs f cs x ⟨c1, c2, e, h1, h2⟩ => ⟨c1, c2, e, h.mono E E' hn hs f c1 x.1 h1, k.mono E E' hn hs f c2 x.2 h2⟩,
   fun E U hn hc hl f cs x ⟨c1, c2, e, h1, h2⟩ => by
    obtain ⟨k1, g1⟩ := h.lim E U hn hc hl f c1 x.1 h1
    obtain ⟨k2, g2⟩ := k.lim E U hn hc hl f c2 x.2 h2
    refine ⟨max k1 k2, c1, c2, e, ?_, ?_⟩
    · exact h.mono _ _ (by rw [hn, hn]) (chain_le hc (Nat.le_max_left k1 k2)) f c1 x.1 g1
    · exact k.mono _ _ (by rw [hn, hn]) (chain_le hc (Nat.le_max_right k1 k2)) f c2 x.2 g2⟩
theorem cont_map {α β γ : Type} (g : γ → β) {Φ : FRel α → FRel β} (h : Cont Φ) : Cont (fun E => fMap g (Φ E)) :=
  ⟨fun E E' hn hs f cs x hx => h.mono E E' hn hs f cs (g x) hx, fun E U hn hc hl f cs x hx => h.lim E U hn hc hl f cs (g x) hx⟩
theorem slf_sub {α : Type} {E E' : FRel α} {f : HP} {A : Option Addr} {n c : Nat} {xs : List α} (hn : E.n = E'.n) (hs : E.sub E') (h : SlF f E A n c xs) : SlF f E' A n c xs :=
  ⟨h.len, h.le, h.max, fun i x hx => by
    obtain ⟨b, o, es, e, hc, he⟩ := h.get i x hx
    exact ⟨b, o, es, e, fun j v hv => by rw [← hn]; exact hc j v hv, hs _ _ _ he⟩⟩
theorem cont_sl {α : Type} : Cont (fun E : FRel α => fSl E) :=
  ⟨fun E E' hn hs f cs xs ⟨A, n, c, e, h⟩ => ⟨A, n, c, e, slf_sub hn hs h⟩,
   fun E U hn hc hl f cs xs ⟨A, n, c, e, h⟩ => by
    have key : ∀ m : Nat, m ≤ xs.length → ∃ k, ∀ i x, i < m → xs[i]? = some x → ∃ b o es, A = some ⟨b, o, none⟩ ∧ (∀ j v, es[j]? = some v → hcell f ⟨b, o + i * (E k).n + j, none⟩ = some v) ∧ (E k).p f es x := by
      intro m
      induction m with
      | zero => exact fun _ => ⟨0, fun i x hi => by omega⟩
      | succ m ih =>
        intro hm
        obtain ⟨k, hk⟩ := ih (by omega)
        obtain ⟨b, o, es, eA, hc', he⟩ := h.get m xs[m] (List.getElem?_eq_getElem (by omega))
        obtain ⟨k', hk'⟩ := hl _ _ _ he
        refine ⟨max k k', fun i x hi hx => ?_⟩
        by_cases him : i = m
        · subst him
          rw [List.getElem?_eq_getElem (by omega)] at hx
          injection hx with hx
          subst hx
          exact ⟨b, o, es, eA, fun j v hv => by rw [hn]; exact hc' j v hv, chain_le hc (Nat.le_max_right k k') _ _ _ hk'⟩
        · obtain ⟨b, o, es, eA, hc', he⟩ := hk i x (by omega) hx
          exact ⟨b, o, es, eA, fun j v hv => by rw [hn, ← hn k]; exact hc' j v hv, chain_le hc (Nat.le_max_left k k') _ _ _ he⟩
    obtain ⟨k, hk⟩ := key xs.length (Nat.le_refl _)
    exact ⟨k, A, n, c, e, h.len, h.le, h.max, fun i x hx => hk i x (List.getElem?_eq_some_iff.1 hx).1 hx⟩⟩
section
variable {α : Type} (Φ : FRel α → FRel α) (n : Nat)
def recL : Nat → FRel α
  | 0 => ⟨n, fun _ _ _ => False, fun h => h.elim, fun h => h.elim, fun _ h => h⟩
  | k + 1 => Φ (recL k)
variable {Φ n}
theorem recL_n (hn : ∀ E : FRel α, (Φ E).n = n) : ∀ k, (recL Φ n k).n = n
  | 0 => rfl
  | k + 1 => hn _
theorem recL_sub (hn : ∀ E : FRel α, (Φ E).n = n) (h : Cont Φ) : ∀ k, (recL Φ n k).sub (recL Φ n (k + 1))
  | 0 => fun _ _ _ h => h.elim
  | k + 1 => h.mono _ _ (by rw [recL_n hn, recL_n hn]) (recL_sub hn h k)
def recR (hn : ∀ E : FRel α, (Φ E).n = n) : FRel α :=
  ⟨n, fun f cs x => ∃ k, (recL Φ n k).p f cs x, fun ⟨k, h⟩ => ((recL Φ n k).len h).trans (recL_n hn k), fun ⟨k, h⟩ => (recL Φ n k).one h, fun hl ⟨k, h⟩ => ⟨k, (recL Φ n k).mono hl h⟩⟩
theorem recR_eq (hn : ∀ E : FRel α, (Φ E).n = n) (h : Cont Φ) (f : HP) (cs : List Value) (x : α) : (recR hn).p f cs x ↔ (Φ (recR hn)).p f cs x := by
  constructor
  · rintro ⟨k, hk⟩
    cases k with
    | zero => exact hk.elim
    | succ k => exact h.mono (recL Φ n k) (recR hn) (recL_n hn k) (fun f cs x hx => ⟨k, hx⟩) f cs x hk
  · intro hx
    obtain ⟨k, hk⟩ := h.lim (recL Φ n) (recR hn) (fun k => recL_n hn k) (recL_sub hn h) (fun f cs x hx => hx) f cs x hx
    exact ⟨k + 1, hk⟩
end
end Hd
set_option linter.unusedVariables false
set_option linter.unusedSimpArgs false
namespace Hd
open Go Hk
section
variable {H : Type} {enc : TypeId × Value → H} {P : Program} {w : World} {base : Nat} {sp : Nat → Bool} {held : Bool}
theorem wt_len {t e : TypeId} {bytes fuel n c : Nat} {cs : List Value} {d : DataW H} {p : List MemPlace} {A : Option Addr} (ht : P.underlying t = some (.slice e)) (hb : P.bytesOf e = bytes) (h : DataW.trod enc P w base sp held fuel t cs = some (d, p))
    (hw : (d.weights P t).all (· ≤ reachBytes) = true) (hv : cs = [.slice A n c]) : n * bytes ≤ 140737488351232 := by
  rcases DataW.trod_slice ht h with ⟨e1, _⟩ | ⟨a, len, cap, elems, rest, k, _, e1, e2, _, _, _, hlen, _⟩
  · rw [hv] at e1
    injection e1 with e1
    injection e1 with _ e1 _
    subst e1
    simp
  · rw [hv] at e1
    injection e1 with e1
    injection e1 with _ e1 _
    subst e1
    injection e2 with e2 _
    subst e2
    simp only [DataW.weights, ht, List.all_cons, Bool.and_eq_true, decide_eq_true_eq, List.length_map] at hw
    have h1 := hw.1
    rw [hb, hlen] at h1
    have : n * bytes ≤ (n + rest.length) * bytes := Nat.mul_le_mul_right _ (by omega)
    have h2 : reachBytes = 140737488351232 := rfl
    omega
end
end Hd
set_option linter.unusedVariables false
set_option linter.unusedSimpArgs false
namespace Hk
open Go
section
variable {P : Program}
end
end Hk
