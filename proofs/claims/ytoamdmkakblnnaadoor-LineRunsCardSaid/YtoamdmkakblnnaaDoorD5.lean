/- Frames: what is known of what a part of the code may not change. -/
import Derived.Test.YtoamdmkakblnnaaDoorD4
set_option linter.unusedVariables false
set_option linter.unusedSimpArgs false
namespace Hd
open Go Hk
section
variable {B : Tab} {P : Program} {M Mf : Loc → Option (Con B)} {G w : World} {L0 : List HProp} {f0 f f' : HP} {σ0 σ σ' : Rz B} {E E0 : List (Nat × EH)} {N : Nat → Prop} {ρ : Env}
variable {base lim n0 : Nat} {rs : List Loc} {ρr : Type} {o : ρr}
def BndC (n : Nat) : Cel B → Prop
  | .own i => i < n
  | .ob i _ => i < n
  | .vw i _ _ _ => i < n
  | .pw i _ _ _ => i < n
  | .ptr i _ => i < n
  | .pa i _ => i < n
  | .mpr i => i < n
  | .oel a _ _ _ _ s => a < n ∧ s < n
  | .gop g _ _ => g < n
  | .grow g _ _ h => g < n ∧ h < n
  | .gel g _ _ _ _ _ s h => g < n ∧ s < n ∧ h < n
  | .fn _ c _ => c < n
  | .slk c _ => c < n
  | .yl i => i < n
  | _ => True
def BndL (n : Nat) (l : List (Cel B)) : Prop := ∀ c, c ∈ l → BndC n c
def BndD (n : Nat) : DV B → Prop
  | .one c => BndC n c
  | .agg l => BndL n l
  | .tup l => ∀ g cs, (g, cs) ∈ l → BndL n cs
  | .lst _ _ => True
  | .pas => True
theorem lt_of_some {n i : Nat} (hn : ∀ i, n ≤ i → σ i = none) (h : σ i ≠ none) : i < n := by
  rcases Nat.lt_or_ge i n with h' | h'
  · exact h'
  · exact absurd (hn i h') h
theorem CRel.bnd {n : Nat} (hn : ∀ i, n ≤ i → σ i = none) {c : Cel B} {v : Value} (h : CRel f σ c v) : BndC n c := by
  cases c with
  | yl i => obtain ⟨l, h, _⟩ := h; exact lt_of_some hn (by rw [h]; simp)
  | own i => obtain ⟨A, m, k, h, _⟩ := h; exact lt_of_some hn (by rw [h]; simp)
  | ob i b => obtain ⟨A, m, k, h, _⟩ := h; exact lt_of_some hn (by rw [h]; simp)
  | vw i e l z => obtain ⟨A, m, k, h, _⟩ := h; exact lt_of_some hn (by rw [h]; simp)
  | pw i e l z => obtain ⟨b, o, m, k, h, _⟩ := h; exact lt_of_some hn (by rw [h]; simp)
  | ptr i a => obtain ⟨b, h, _⟩ := h; exact lt_of_some hn (by rw [h]; simp)
  | pa i a => obtain ⟨b, o, m, k, h, _⟩ := h; exact lt_of_some hn (by rw [h]; simp)
  | mpr i => obtain ⟨r, h, _⟩ := h; exact lt_of_some hn (by rw [h]; simp)
  | oel a e i x k s => obtain ⟨b, oo, m, k, xs, h1, _, h2, _⟩ := h; exact ⟨lt_of_some hn (by rw [h1]; simp), lt_of_some hn (by rw [h2]; simp)⟩
  | gop g e i => obtain ⟨b, o, m, k, h, _⟩ := h; exact lt_of_some hn (by rw [h]; simp)
  | grow g e i k => obtain ⟨⟨r, h0⟩, l, hd, h1, _⟩ := h; exact ⟨lt_of_some hn (by rw [h0]; simp), lt_of_some hn (by rw [h1]; simp)⟩
  | gel g e i j x k s z => obtain ⟨⟨r, h0⟩, l, b, o, m, q, rows, row, h1, _, _, h2, _⟩ := h; exact ⟨lt_of_some hn (by rw [h0]; simp), lt_of_some hn (by rw [h2]; simp), lt_of_some hn (by rw [h1]; simp)⟩
  | fn g c m => obtain ⟨vals, h, _⟩ := h; exact lt_of_some hn (by rw [h]; simp)
  | slk c m => obtain ⟨b, vals, ty, fr, h, _⟩ := h; exact lt_of_some hn (by rw [h]; simp)
  | _ => trivial
theorem CRels.bnd {n : Nat} (hn : ∀ i, n ≤ i → σ i = none) : ∀ {cs : List (Cel B)} {vs : List Value}, CRels f σ cs vs → BndL n cs
  | [], [], _ => fun c h => by simp at h
  | c :: cs, v :: vs, ⟨h1, h2⟩ => fun x hx => (List.mem_cons.1 hx).elim (fun e => by subst e; exact h1.bnd hn) (CRels.bnd hn h2 x)
  | [], _ :: _, h => h.elim
  | _ :: _, [], h => h.elim
theorem TRels.bnd {n : Nat} (hn : ∀ i, n ≤ i → σ i = none) : ∀ {l : List (Bool × List (Cel B))} {vs : List Value}, TRels f σ l vs → ∀ g cs, (g, cs) ∈ l → BndL n cs
  | [], [], _ => fun g cs h => by simp at h
  | (g0, c0) :: l, v :: vs, ⟨⟨us, h1, _⟩, h2⟩ => fun g cs hx => by
    rcases List.mem_cons.1 hx with e | hx
    · injection e with _ e; subst e; exact h1.bnd hn
    · exact TRels.bnd hn h2 g cs hx
  | [], _ :: _, h => h.elim
  | _ :: _, [], h => h.elim
theorem DRel.bnd {n : Nat} (hn : ∀ i, n ≤ i → σ i = none) {d : DV B} {v : Value} (h : DRel f σ d v) : BndD n d := by
  cases d with
  | one c => exact CRel.bnd hn h
  | agg l => obtain ⟨vs, _, h⟩ := h; exact h.bnd hn
  | tup l => obtain ⟨vs, _, h⟩ := h; exact h.bnd hn
  | lst e xs => trivial
  | pas => trivial
theorem CRel.same {n : Nat} (he : ∀ i, i < n → σ' i = σ i) {c : Cel B} {v : Value} (hb : BndC n c) (h : CRel f σ c v) : CRel f σ' c v := by
  cases c with
  | own i => obtain ⟨A, m, k, h, h'⟩ := h; exact ⟨A, m, k, (he i hb).trans h, h'⟩
  | ob i b => obtain ⟨A, m, k, h, h'⟩ := h; exact ⟨A, m, k, (he i hb).trans h, h'⟩
  | vw i e l z => obtain ⟨A, m, k, h, h'⟩ := h; exact ⟨A, m, k, (he i hb).trans h, h'⟩
  | pw i e l z => obtain ⟨b, o, m, k, h, h'⟩ := h; exact ⟨b, o, m, k, (he i hb).trans h, h'⟩
  | ptr i a => obtain ⟨b, h, h'⟩ := h; exact ⟨b, (he i hb).trans h, h'⟩
  | pa i a => obtain ⟨b, o, m, k, h, h'⟩ := h; exact ⟨b, o, m, k, (he i hb).trans h, h'⟩
  | mpr i => obtain ⟨r, h, h'⟩ := h; exact ⟨r, (he i hb).trans h, h'⟩
  | yl i => obtain ⟨r, h, h'⟩ := h; exact ⟨r, (he i hb).trans h, h'⟩
  | oel a e i x k s => obtain ⟨b, oo, m, k, xs, h1, h2, h3, h4⟩ := h; exact ⟨b, oo, m, k, xs, (he a hb.1).trans h1, h2, (he s hb.2).trans h3, h4⟩
  | gop g e i => obtain ⟨b, o, m, k, h, h'⟩ := h; exact ⟨b, o, m, k, (he g hb).trans h, h'⟩
  | grow g e i k => obtain ⟨⟨r, h0⟩, l, hd, h1, h2⟩ := h; exact ⟨⟨r, (he g hb.1).trans h0⟩, l, hd, (he k hb.2).trans h1, h2⟩
  | gel g e i j x k s z => obtain ⟨⟨r, h0⟩, l, b, o, m, q, rows, row, h1, h2, h3, h4, h5⟩ := h; exact ⟨⟨r, (he g hb.1).trans h0⟩, l, b, o, m, q, rows, row, (he z hb.2.2).trans h1, h2, h3, (he s hb.2.1).trans h4, h5⟩
  | fn g c m => obtain ⟨vals, h, h'⟩ := h; exact ⟨vals, (he c hb).trans h, h'⟩
  | slk c m => obtain ⟨b, vals, ty, fr, h, h'⟩ := h; exact ⟨b, vals, ty, fr, (he c hb).trans h, h'⟩
  | _ => exact h
theorem CRels.same {n : Nat} (he : ∀ i, i < n → σ' i = σ i) : ∀ {cs : List (Cel B)} {vs : List Value}, BndL n cs → CRels f σ cs vs → CRels f σ' cs vs
  | [], [], _, _ => trivial
  | c :: cs, v :: vs, hb, ⟨h1, h2⟩ => ⟨CRel.same he (hb c (by simp)) h1, CRels.same he (fun x hx => hb x (by simp [hx])) h2⟩
  | [], _ :: _, _, h => h.elim
  | _ :: _, [], _, h => h.elim
theorem TRels.same {n : Nat} (he : ∀ i, i < n → σ' i = σ i) : ∀ {l : List (Bool × List (Cel B))} {vs : List Value}, (∀ g cs, (g, cs) ∈ l → BndL n cs) → TRels f σ l vs → TRels f σ' l vs
  | [], [], _, _ => trivial
  | (g0, c0) :: l, v :: vs, hb, ⟨⟨us, h1, h3⟩, h2⟩ => ⟨⟨us, CRels.same he (hb g0 c0 (by simp)) h1, h3⟩, TRels.same he (fun g cs hx => hb g cs (by simp [hx])) h2⟩
  | [], _ :: _, _, h => h.elim
  | _ :: _, [], _, h => h.elim
theorem DRel.same {n : Nat} (he : ∀ i, i < n → σ' i = σ i) {d : DV B} {v : Value} (hb : BndD n d) (h : DRel f σ d v) : DRel f σ' d v := by
  cases d with
  | one c => exact CRel.same he hb h
  | agg l => obtain ⟨vs, e, h⟩ := h; exact ⟨vs, e, CRels.same he hb h⟩
  | tup l => obtain ⟨vs, e, h⟩ := h; exact ⟨vs, e, TRels.same he hb h⟩
  | lst e xs => exact h
  | pas => exact h
structure FrameB (n : Nat) (E0 : List (Nat × EH)) (Mf : Loc → Option (Con B)) : Prop where
  slots : ∀ t d, Mf (.s t) = some (.v d) → BndD n d
  clos : ∀ c j x, Mf (.k c j) = some (.c x) → c < n ∧ BndC n x
  fzs : ∀ i e xs nn, Mf (.a i) = some (.fz e xs nn) → i < n
  fzbs : ∀ i e x, Mf (.b i) = some (.fzb e x) → i < n
  arrs : ∀ i e xs s nn, Mf (.a i) = some (.arr e xs s nn) → i < n ∧ s < n ∧ (i, EH.arr e) ∈ E0
  grds : ∀ i e rows s h hole nn, Mf (.a i) = some (.grid e rows s h hole nn) → i < n ∧ s < n ∧ h < n ∧ (i, EH.grid e) ∈ E0
  mps : ∀ i k v m, Mf (.a i) = some (.mp k v m) → i < n ∧ (i, EH.mp k v) ∈ E0
  mphs : ∀ i k e m key pd, Mf (.a i) = some (.mph k e m key pd) → i < n ∧ (∀ j, pd = some j → j < n) ∧ (i, EH.mp k (.sl e)) ∈ E0
  blks : ∀ i ty m, Mf (.b i) = some (.blk ty m) → i < n ∧ (i, EH.blk ty m) ∈ E0
  ents : ∀ i h, (i, h) ∈ E0 → i < n ∧ (match h with | .arr e => ∃ xs s nn, Mf (.a i) = some (.arr e xs s nn) | .grid e => ∃ rows s h hole nn, Mf (.a i) = some (.grid e rows s h hole nn) | .mp _ _ => True | .blk ty m => Mf (.b i) = some (.blk ty m) ∧ ∀ j, j < m → ∃ c, Mf (.c i j) = some (.c c) ∧ BndC n c)
theorem SimF.frame (hs : SimF G L0 f0 σ0 Mf E0 (fun i => i < n0) f σ ρ w) : FrameB n0 E0 Mf := by
  have hn : ∀ i, n0 ≤ i → σ i = none := fun i hi => hs.fresh i (by omega)
  have lt : ∀ i, σ i ≠ none → i < n0 := fun i h => lt_of_some hn h
  refine ⟨fun t d h => ?_, fun c j x h => ?_, fun i e xs nn h => ?_, fun i e x h => ?_, fun i e xs s nn h => ?_, fun i e rows s k hole nn h => ?_, fun i k v m h => ?_, fun i k e m key pd h => ?_, fun i ty m h => ?_, fun i h hi => ?_⟩
  · have := hs.slots t; rw [h] at this; exact DRel.bnd hn this
  · obtain ⟨vals, v, h1, h2, h3⟩ := hs.clos c j x h; exact ⟨lt _ (by rw [h1]; simp), h3.bnd hn⟩
  · obtain ⟨A, m, c, h1, _⟩ := hs.fzs i e xs nn h; exact lt _ (by rw [h1]; simp)
  · obtain ⟨b, ds, ty, fr, h1, _⟩ := hs.fzbs i e x h; exact lt _ (by rw [h1]; simp)
  · obtain ⟨E2, L2, A, m, c, cur, q1, q2, q3, q4, q5, q6, q7, q8, q9⟩ := take_arr hs h
    exact ⟨lt _ (by rw [q4]; simp), lt _ (by rw [q5]; simp), hs.arrs i e xs s nn h⟩
  · obtain ⟨E2, L2, A, m, c, cur, hdl, rl, q1, q2, q3, q4, q5, q5', q6, q7, q9⟩ := take_grid hs h
    exact ⟨lt _ (by rw [q4]; simp), lt _ (by rw [q5]; simp), lt _ (by rw [q5']; simp), hs.grds i e rows s k hole nn h⟩
  · exact ⟨lt _ (mp_some hs h), hs.mps i k v m h⟩
  · refine ⟨lt _ (mph_some hs h), fun j hj => ?_, hs.mphs i k e m key pd h⟩
    subst hj
    obtain ⟨E2, L2, r, es, clk, hl, rl, q1, q2, q3, q4, q5, q6⟩ := take_mph hs h
    exact lt _ (rowm_pend q5)
  · obtain ⟨E2, L2, b, vals, q1, q2, q3, q4, q5, q6, q7⟩ := take_blk hs h
    exact ⟨lt _ (by rw [q4]; simp), hs.blks i ty m h⟩
  · refine ⟨lt _ (ents_some hs hi), ?_⟩
    obtain ⟨E1, L1, k1, k2, k3, k4⟩ := hs.ents
    obtain ⟨A, L2, hr, he, hw⟩ := Ents.take (P := []) k1 ((k2 _).2 hi) k3 k4
    cases h with
    | arr e => obtain ⟨H, m, c, cur, xs, s, nn, h1, _, h3, _⟩ := hr; exact ⟨xs, s, nn, h3⟩
    | grid e => obtain ⟨H, m, c, cur, l, rl, rows, s, k, hole, nn, h1, _, h3, _⟩ := hr; exact ⟨rows, s, k, hole, nn, h3⟩
    | mp k v => trivial
    | blk ty m =>
      obtain ⟨b, vals, h1, _, h3, h4, h5⟩ := hr
      refine ⟨h4, fun j hj => ?_⟩
      obtain ⟨v, hv⟩ : ∃ v, vals[j]? = some v := ⟨vals[j]'(by omega), List.getElem?_eq_getElem (by omega)⟩
      obtain ⟨_, c, h6, h7⟩ := h5 j v hv
      exact ⟨c, h6, h7.bnd hn⟩
theorem memL_iff {l : Loc} : ∀ {ks : List Loc}, memL ks l = true ↔ l ∈ ks
  | [] => by simp [memL]
  | a :: r => by
    unfold memL
    cases hb : a.beq l with
    | true => simp [Loc.beq_iff.1 hb]
    | false =>
      simp only [List.mem_cons]
      rw [memL_iff (ks := r)]
      constructor
      · exact .inr
      · rintro (e | h)
        · subst e; rw [Loc.beq_self] at hb; cases hb
        · exact h
theorem covered_spec {n : Nat} {ret : Bool} {ks : List Loc} : ∀ {m : Mem B}, covered n ret ks m = true → ∀ l, look m l ≠ none → fresh n ret l = true ∨ l ∈ ks
  | [], _, l, h => by simp [look] at h
  | (a, c) :: r, h, l, hl => by
    unfold covered at h
    by_cases ha : a = l
    · subst ha
      cases hf : fresh n ret a with
      | true => exact .inl rfl
      | false =>
        rw [hf] at h
        right
        cases hm : memL ks a with
        | true => exact memL_iff.1 hm
        | false => rw [hm] at h; cases h
    · rw [look_cons_ne ha] at hl
      have hr : covered n ret ks r = true := by
        cases hf : fresh n ret a with
        | true => rw [hf] at h; exact h
        | false =>
          rw [hf] at h
          cases hm : memL ks a with
          | true => rw [hm] at h; exact h
          | false => rw [hm] at h; cases h
      exact covered_spec hr l hl
theorem hasId_iff {i : Nat} : ∀ {E : List (Nat × EH)}, hasId E i = true ↔ ∃ h, (i, h) ∈ E
  | [] => by simp [hasId]
  | (a, h) :: r => by
    unfold hasId
    cases hb : Nat.beq a i with
    | true => have := Nat.eq_of_beq_eq_true hb; subst this; simp
    | false =>
      have hne : a ≠ i := fun e => by subst e; simp at hb
      simp only
      rw [hasId_iff (E := r)]
      constructor
      · rintro ⟨k, hk⟩; exact ⟨k, List.mem_cons_of_mem _ hk⟩
      · rintro ⟨k, hk⟩
        rcases List.mem_cons.1 hk with e | hk
        · injection e with e _; exact absurd e.symm hne
        · exact ⟨k, hk⟩
theorem idsOnce_once : ∀ {E : List (Nat × EH)}, idsOnce E = true → Once E
  | [], _ => List.nodup_nil
  | (a, h) :: r, hi => by
    unfold idsOnce at hi
    cases hh : hasId r a with
    | true => rw [hh] at hi; cases hi
    | false =>
      rw [hh] at hi
      exact Once.cons (idsOnce_once hi) fun k hk => by rw [hasId_iff.2 ⟨k, hk⟩] at hh; cases hh
theorem entEq_eq {a b : EH} (h : entEq a b = true) : a = b := by
  cases a <;> cases b <;> simp only [entEq, Bool.and_eq_true] at h <;> try contradiction
  · rw [Ty.eqb_eq h]
  · rw [Ty.eqb_eq h]
  · rw [Ty.eqb_eq h.1, Ty.eqb_eq h.2]
  · rw [Nat.eq_of_beq_eq_true h.1, Nat.eq_of_beq_eq_true h.2]
theorem findE_mem {i : Nat} {h : EH} : ∀ {E : List (Nat × EH)}, findE E i = some h → (i, h) ∈ E
  | [], e => by cases e
  | (a, k) :: r, e => by
    unfold findE at e
    cases hb : Nat.beq a i with
    | true => rw [hb] at e; injection e with e; subst e; rw [Nat.eq_of_beq_eq_true hb]; simp
    | false => rw [hb] at e; exact List.mem_cons_of_mem _ (findE_mem e)
theorem entsIn_spec {mu : List (Nat × Nat)} {E : List (Nat × EH)} : ∀ {l : List (Nat × EH)}, entsIn n0 mu E l = true → ∀ i h, (i, h) ∈ l → ∃ j, Rol n0 mu i j ∧ (j, h) ∈ E
  | [], _, i, h, hm => by simp at hm
  | (a, k) :: r, he, i, h, hm => by
    unfold entsIn at he
    have key : ∃ j, Rol n0 mu a j ∧ (j, k) ∈ E ∧ entsIn n0 mu E r = true := by
      have body : ∀ j, Rol n0 mu a j → (match findE E j with | some h' => (match entEq k h' with | true => entsIn n0 mu E r | false => false) | none => false) = true → ∃ j, Rol n0 mu a j ∧ (j, k) ∈ E ∧ entsIn n0 mu E r = true := by
        intro j hj hb
        cases hf : findE E j with
        | none => rw [hf] at hb; cases hb
        | some h' =>
          rw [hf] at hb
          simp only at hb
          cases hq : entEq k h' with
          | false => rw [hq] at hb; cases hb
          | true => rw [hq] at hb; have := entEq_eq hq; subst this; exact ⟨j, hj, findE_mem hf, hb⟩
      cases hlt : Nat.blt a n0 with
      | true => rw [hlt] at he; rw [Nat.blt_eq] at hlt; exact body a (.inl ⟨hlt, rfl⟩) he
      | false =>
        rw [hlt] at he
        cases hx : assoc mu a with
        | none => simp only [hx] at he; cases he
        | some j =>
          simp only [hx] at he
          refine body j (.inr ⟨?_, hx⟩) he
          rcases Nat.lt_or_ge a n0 with h' | h'
          · rw [← Nat.blt_eq, hlt] at h'; cases h'
          · exact h'
    obtain ⟨j, h1, h2, h3⟩ := key
    rcases List.mem_cons.1 hm with e | hm
    · injection e with e1 e2; subst e1 e2; exact ⟨j, h1, h2⟩
    · exact entsIn_spec h3 i h hm
theorem rolesLow_spec {n : Nat} : ∀ {mu : List (Nat × Nat)}, rolesLow n mu = true → ∀ e j, assoc mu e = some j → e < n
  | [], _, e, j, h => by cases h
  | (a, b) :: r, h, e, j, he => by
    simp only [rolesLow, Bool.and_eq_true, Nat.blt_eq] at h
    simp only [assoc] at he
    cases ha : Nat.beq a e with
    | true => rw [← Nat.eq_of_beq_eq_true ha]; exact h.1
    | false => rw [ha] at he; exact rolesLow_spec h.2 e j he
theorem oldTold_spec {ks : List Loc} {now : List (Nat × EH)} : ∀ {l : List (Nat × EH)}, oldTold ks now l = true → ∀ i h, (i, h) ∈ l → hasId now i = true ∨ keyE i h ∈ ks
  | [], _, i, h, hm => by simp at hm
  | (a, k) :: r, he, i, h, hm => by
    unfold oldTold at he
    have key : (hasId now a = true ∨ keyE a k ∈ ks) ∧ oldTold ks now r = true := by
      cases hh : hasId now a with
      | true => rw [hh] at he; exact ⟨.inl rfl, he⟩
      | false =>
        rw [hh] at he
        cases k <;> simp only [Bool.and_eq_true] at he <;> exact ⟨.inr (memL_iff.1 he.1), he.2⟩
    rcases List.mem_cons.1 hm with e | hm
    · injection e with e1 e2; subst e1 e2; exact key.1
    · exact oldTold_spec key.2 i h hm
end
end Hd
set_option linter.unusedVariables false
set_option linter.unusedSimpArgs false
namespace Hd
open Go Hk
section
variable {B : Tab} {P : Program} {M Mf : Loc → Option (Con B)} {G w : World} {L0 : List HProp} {f0 f f' : HP} {σ0 σ σ' : Rz B} {E E0 : List (Nat × EH)} {N : Nat → Prop} {ρ : Env}
variable {base lim n0 : Nat} {rs : List Loc} {ρr : Type} {o : ρr}
theorem entIs_mem {i : Nat} {h : EH} (hh : entIs E i h = true) : (i, h) ∈ E := by
  unfold entIs at hh
  cases hf : findE E i with
  | none => rw [hf] at hh; cases hh
  | some h' => rw [hf] at hh; have := entEq_eq hh; subst this; exact findE_mem hf
def ITold (E : List (Nat × EH)) : Item → Prop
  | .arr i e _ => (i, EH.arr e) ∈ E
  | .grd i e _ _ => (i, EH.grid e) ∈ E
  | .mp i k v => (i, EH.mp k v) ∈ E
  | .blk i ty n => (i, EH.blk ty n) ∈ E
  | .frz i _ _ => hasId E i = false
  | .rm i => hasId E i = false
  | .rmb i => hasId E i = false
  | _ => True
theorem itemsTold_spec : ∀ {l : List Item}, itemsTold E l = true → ∀ x, x ∈ l → ITold E x
  | [], _, x, hx => by simp at hx
  | a :: r, h, x, hx => by
    have key : ITold E a ∧ itemsTold E r = true := by
      have hid : ∀ i, (match hasId E i with | true => false | false => itemsTold E r) = true → hasId E i = false ∧ itemsTold E r = true := fun i h => by
        cases hq : hasId E i with
        | true => rw [hq] at h; cases h
        | false => rw [hq] at h; exact ⟨rfl, h⟩
      have hen : ∀ i k, (match entIs E i k with | true => itemsTold E r | false => false) = true → (i, k) ∈ E ∧ itemsTold E r = true := fun i k h => by
        cases hq : entIs E i k with
        | true => rw [hq] at h; exact ⟨entIs_mem hq, h⟩
        | false => rw [hq] at h; cases h
      cases a with
      | arr i e nn => exact hen i _ h
      | grd i e nn k => exact hen i _ h
      | mp i k v => exact hen i _ h
      | blk i t n => exact hen i _ h
      | frz i e nn => exact hid i h
      | rm i => exact hid i h
      | rmb i => exact hid i h
      | slot t v => exact ⟨trivial, h⟩
      | cell i j s => exact ⟨trivial, h⟩
      | clo c j s => exact ⟨trivial, h⟩
      | kr t n => exact ⟨trivial, h⟩
    rcases List.mem_cons.1 hx with rfl | hx
    · exact key.1
    · exact itemsTold_spec key.2 x hx
theorem cellsTold_spec {ks : List Loc} {i : Nat} : ∀ {n : Nat}, cellsTold ks i n = true → ∀ j, j < n → Loc.c i j ∈ ks
  | 0, _, j, hj => by omega
  | n + 1, h, j, hj => by
    unfold cellsTold at h
    cases hm : memL ks (.c i n) with
    | false => rw [hm] at h; cases h
    | true =>
      rw [hm] at h
      by_cases hjn : j = n
      · subst hjn; exact memL_iff.1 hm
      · exact cellsTold_spec h j (by omega)
def ETold (ks : List Loc) (i : Nat) : EH → Prop
  | .arr _ => Loc.a i ∈ ks
  | .grid _ => Loc.a i ∈ ks
  | .mp _ _ => Loc.a i ∈ ks
  | .blk _ n => Loc.b i ∈ ks ∧ ∀ j, j < n → Loc.c i j ∈ ks
theorem entsTold_spec {ks : List Loc} : ∀ {l : List (Nat × EH)}, entsTold ks E0 l = true → ∀ i h, (i, h) ∈ l → (i, h) ∈ E0 ∨ ETold ks i h
  | [], _, i, h, hm => by simp at hm
  | (a, k) :: r, he, i, h, hm => by
    unfold entsTold at he
    have key : ((a, k) ∈ E0 ∨ ETold ks a k) ∧ entsTold ks E0 r = true := by
      cases hq : (entIs E0 a k || entTold ks a k) with
      | false => rw [hq] at he; cases he
      | true =>
        rw [hq] at he
        refine ⟨?_, he⟩
        rcases Bool.or_eq_true_iff.1 hq with h1 | h1
        · exact .inl (entIs_mem h1)
        · right
          cases k with
          | arr e => exact memL_iff.1 h1
          | grid e => exact memL_iff.1 h1
          | mp _ _ => exact memL_iff.1 h1
          | blk t n =>
            simp only [entTold, Bool.and_eq_true] at h1
            exact ⟨memL_iff.1 h1.1, cellsTold_spec h1.2⟩
    rcases List.mem_cons.1 hm with e | hm
    · injection e with e1 e2; subst e1 e2; exact key.1
    · exact entsTold_spec key.2 i h hm
theorem muApart_spec : ∀ {mu : List (Nat × Nat)}, muApart n0 E mu = true → ∀ e j, assoc mu e = some j → n0 ≤ j ∨ ∀ h, (j, h) ∉ E
  | [], _, e, j, h => by cases h
  | (a, b) :: r, h, e, j, he => by
    unfold muApart at h
    have key : (n0 ≤ b ∨ ∀ h, (b, h) ∉ E) ∧ muApart n0 E r = true := by
      cases hq : (Nat.ble n0 b || !(hasId E b)) with
      | false => rw [hq] at h; cases h
      | true =>
        rw [hq] at h
        refine ⟨?_, h⟩
        rcases Bool.or_eq_true_iff.1 hq with h1 | h1
        · exact .inl (Nat.le_of_ble_eq_true h1)
        · right
          intro k hk
          rw [hasId_iff.2 ⟨k, hk⟩] at h1; cases h1
    simp only [assoc] at he
    cases ha : Nat.beq a e with
    | true => rw [ha] at he; simp only [cond_true, Option.some.injEq] at he; subst he; exact key.1
    | false => rw [ha] at he; exact muApart_spec key.2 e j he
theorem killM_mem : ∀ {n t : Nat} {l : Loc} {c : Con B}, look (killM t n) l = some c → c = .v (.one .und) ∧ ∃ t', l = .s t'
  | 0, _, _, _, h => by cases h
  | n + 1, t, l, c, h => by
    by_cases hl : Loc.s t = l
    · subst hl
      rw [show killM (B := B) t (n + 1) = (.s t, .v (.one .und)) :: killM (t + 1) n from rfl, look_cons_self] at h
      injection h with h
      exact ⟨h.symm, t, rfl⟩
    · rw [show killM (B := B) t (n + 1) = (.s t, .v (.one .und)) :: killM (t + 1) n from rfl, look_cons_ne hl] at h
      exact killM_mem h
theorem killK_look : ∀ {n t : Nat} {l : Loc}, l ∈ killK t n → look (killM (B := B) t n) l ≠ none
  | 0, _, _, h => by simp [killK] at h
  | n + 1, t, l, h => by
    rw [show killM (B := B) t (n + 1) = (.s t, .v (.one .und)) :: killM (t + 1) n from rfl]
    by_cases hl : Loc.s t = l
    · subst hl; rw [look_cons_self]; simp
    · rw [look_cons_ne hl]
      rcases List.mem_cons.1 h with h | h
      · exact absurd h.symm hl
      · exact killK_look h
def itSt : (i : Item) → HL B.T i.comps → Option (Real B)
  | .arr _ t _, x => some (.con t x.1)
  | .grd _ t _ _, x => some (.con (.sl t) x.1)
  | _, _ => none
def stampR : (q : Nat) → (l : List Item) → HL B.T (itemsC l) → Rz B
  | _, [], _ => fun _ => none
  | q, i :: l, p => fun e => if e = q then itSt i (HL.fst i.comps (itemsC l) p) else stampR (q + 1) l (HL.snd i.comps (itemsC l) p) e
theorem stampR_none : ∀ {l : List Item} {q : Nat} {p : HL B.T (itemsC l)} {e : Nat}, e < q ∨ q + l.length ≤ e → stampR q l p e = none
  | [], _, _, _, _ => rfl
  | i :: l, q, p, e, h => by
    unfold stampR
    rw [if_neg (by simp only [List.length_cons] at h; omega)]
    exact stampR_none (by simp only [List.length_cons] at h; omega)
def UpIt (n0 : Nat) (sv : Nat → Value) (w : World) (M : Loc → Option (Con B)) (ov : Ov B) (f : HP) (σ : Rz B) (st : Rz B) (l : List Item) : Loc → Con B → Prop
  | .s t, c => ∃ d, c = .v d ∧ DRel f (ren n0 σ ov.mu) d (sv t)
  | .c i j, c => ∃ x, c = .c x ∧ ∃ i' b vals t v, Rol n0 ov.mu i i' ∧ σ i' = some (.blk b) ∧ w.heap[b]? = some (.cells (List.toArray vals) t (0, 0)) ∧ vals[j]? = some v ∧ CRel f (ren n0 σ ov.mu) x v
  | .a i, .arr e xs k nn => (∃ nn, Item.arr i e nn ∈ l) ∧ st k = some (.con e xs) ∧ ∃ i' s nn', Rol n0 ov.mu i i' ∧ nn ≤ nn' ∧ σ i' ≠ none ∧ (ovl ov.up M (.a i') = some (.arr e xs s nn') ∨ i' ∈ ov.del)
  | .a i, .grid e rows k kh hole nn => (∃ nn, Item.grd i e nn kh ∈ l) ∧ st k = some (.con (.sl e) rows) ∧ hole = none ∧ ∃ i' s h' nn', Rol n0 ov.mu i i' ∧ Rol n0 ov.mu kh h' ∧ nn ≤ nn' ∧ σ i' ≠ none ∧ (ovl ov.up M (.a i') = some (.grid e rows s h' none nn') ∨ i' ∈ ov.del)
  | .a i, .mp k v m => Item.mp i k v ∈ l ∧ ∃ i', Rol n0 ov.mu i i' ∧ σ i' ≠ none ∧ (ovl ov.up M (.a i') = some (.mp k v m) ∨ i' ∈ ov.del)
  | .a i, .fz e xs nn => (∃ e nn, Item.frz i e nn ∈ l) ∧ nn = 0 ∧ ∃ i' A n c, Rol n0 ov.mu i i' ∧ σ i' = some (.hdr A n c) ∧ SlF f (relB B e) A n c xs
  | .a i, .gone => Item.rm i ∈ l
  | .b i, .blk ty n => Item.blk i ty n ∈ l ∧ ∃ i', Rol n0 ov.mu i i' ∧ σ i' ≠ none ∧ (ovl ov.up M (.b i') = some (.blk ty n) ∨ i' ∈ ov.del)
  | .b i, .gone => Item.rmb i ∈ l
  | .k c j, x => ∃ y, x = .c y ∧ ∃ c' vals v, Rol n0 ov.mu c c' ∧ σ c' = some (.clo vals) ∧ vals[j]? = some v ∧ CRel f (ren n0 σ ov.mu) y v
  | _, _ => False
theorem UpIt.more {ov : Ov B} {sv : Nat → Value} {st st' : Rz B} {l l' : List Item} (hs : Rz.le st st') (hl : ∀ x, x ∈ l → x ∈ l') {a : Loc} {c : Con B} (h : UpIt n0 sv w M ov f σ st l a c) : UpIt n0 sv w M ov f σ st' l' a c := by
  cases a <;> cases c <;> try exact h
  · obtain ⟨⟨nn, h1⟩, h2, h3⟩ := h; exact ⟨⟨nn, hl _ h1⟩, hs _ _ h2, h3⟩
  · obtain ⟨⟨e, nn, h1⟩, h2⟩ := h; exact ⟨⟨e, nn, hl _ h1⟩, h2⟩
  · obtain ⟨⟨nn, h1⟩, h2, h3⟩ := h; exact ⟨⟨nn, hl _ h1⟩, hs _ _ h2, h3⟩
  · exact ⟨hl _ h.1, h.2⟩
  · exact hl _ h
  · exact ⟨hl _ h.1, h.2⟩
  · exact hl _ h
theorem one_cell {s : Sh} {p : HL B.T s.comps} {rn : Nat → Nat} {v : Value} (h : CRels f σ (unSh rn s p) [v]) : ∃ c, unSh rn s p = [c] ∧ CRel f σ c v := by
  cases hu : unSh rn s p with
  | nil => rw [hu] at h; exact h.elim
  | cons c l =>
    rw [hu] at h
    cases l with
    | nil => exact ⟨c, rfl, h.1⟩
    | cons _ _ => exact h.2.elim
theorem unItem_up {ov : Ov B} {sv : Nat → Value} {q : Nat} {i : Item} {p : HL B.T i.comps} (hi : ItemOk n0 sv w M ov f σ i p) {st : Rz B}
    (hst : ∀ r, itSt i p = some r → st q = some r) :
    (∀ a c, look (unItem (fun e => e) q i p) a = some c → UpIt n0 sv w M ov f σ st [i] a c) ∧ ∀ a, a ∈ itemKey i → look (unItem (fun e => e) q i p) a ≠ none := by
  have one : ∀ {k : Loc} {x : Con B} {a : Loc} {c : Con B}, look [(k, x)] a = some c → k = a ∧ x = c := fun {k x a c} h => by
    by_cases hk : k = a
    · subst hk; rw [look_cons_self] at h; injection h with h; exact ⟨rfl, h⟩
    · rw [look_cons_ne hk] at h; cases h
  have self : ∀ {k : Loc} {x : Con B} {a : Loc}, a ∈ [k] → look [(k, x)] a ≠ none := fun {k x a} h => by
    rw [List.mem_singleton.1 h, look_cons_self]; simp
  cases i with
  | slot t v =>
    refine ⟨fun a c h => ?_, fun a h => self h⟩
    obtain ⟨rfl, rfl⟩ := one h
    exact ⟨_, rfl, hi⟩
  | cell i j s =>
    obtain ⟨i', b, vals, t, v, h1, h2, h3, h4, h5⟩ := hi
    obtain ⟨x, hx, h6⟩ := one_cell h5
    have hu : unItem (B := B) (fun e => e) q (.cell i j s) p = [(.c i j, .c x)] := by
      show (match unSh (fun e => e) s p with | [c] => [(Loc.c i j, Con.c c)] | _ => []) = _
      rw [hx]
    rw [hu]
    refine ⟨fun a c h => ?_, fun a h => self h⟩
    obtain ⟨rfl, rfl⟩ := one h
    exact ⟨x, rfl, i', b, vals, t, v, h1, h2, h3, h4, h6⟩
  | arr i e nn =>
    obtain ⟨i', s, nn', h1, h2, h3, h4⟩ := hi
    refine ⟨fun a c h => ?_, fun a h => self h⟩
    obtain ⟨rfl, rfl⟩ := one h
    exact ⟨⟨nn, by simp⟩, hst _ rfl, i', s, nn', h1, h2, h3, h4⟩
  | grd i e nn kh =>
    obtain ⟨i', s, h', nn', h1, h1', h2, h3, h4⟩ := hi
    refine ⟨fun a c h => ?_, fun a h => self h⟩
    obtain ⟨rfl, rfl⟩ := one h
    exact ⟨⟨nn, by simp⟩, hst _ rfl, rfl, i', s, h', nn', h1, h1', h2, h3, h4⟩
  | mp i k v =>
    refine ⟨fun a c h => ?_, fun a h => self h⟩
    obtain ⟨rfl, rfl⟩ := one h
    exact ⟨List.mem_singleton.2 rfl, hi⟩
  | frz i e nn =>
    obtain ⟨i', A, n, c, h1, h2, h3, h4⟩ := hi
    refine ⟨fun a c h => ?_, fun a h => self h⟩
    obtain ⟨rfl, rfl⟩ := one h
    exact ⟨⟨e, nn, by simp⟩, h4, i', A, n, c, h1, h2, h3⟩
  | blk i ty n =>
    refine ⟨fun a c h => ?_, fun a h => self h⟩
    obtain ⟨rfl, rfl⟩ := one h
    exact ⟨List.mem_singleton.2 rfl, hi⟩
  | clo c j s =>
    obtain ⟨c', vals, v, h1, h2, h3, h4⟩ := hi
    obtain ⟨x, hx, h6⟩ := one_cell h4
    have hu : unItem (B := B) (fun e => e) q (.clo c j s) p = [(.k c j, .c x)] := by
      show (match unSh (fun e => e) s p with | [y] => [(Loc.k c j, Con.c y)] | _ => []) = _
      rw [hx]
    rw [hu]
    refine ⟨fun a y h => ?_, fun a h => self h⟩
    obtain ⟨rfl, rfl⟩ := one h
    exact ⟨x, rfl, c', vals, v, h1, h2, h3, h6⟩
  | kr t n =>
    refine ⟨fun a c h => ?_, fun a h => killK_look h⟩
    obtain ⟨rfl, t', rfl⟩ := killM_mem h
    exact ⟨_, rfl, trivial⟩
  | rm i =>
    refine ⟨fun a c h => ?_, fun a h => self h⟩
    obtain ⟨rfl, rfl⟩ := one h
    exact List.mem_singleton.2 rfl
  | rmb i =>
    refine ⟨fun a c h => ?_, fun a h => self h⟩
    obtain ⟨rfl, rfl⟩ := one h
    exact List.mem_singleton.2 rfl
theorem unItems_up {ov : Ov B} {sv : Nat → Value} : ∀ {l : List Item} {q : Nat} {p : HL B.T (itemsC l)}, ItemsOk n0 sv w M ov f σ l p →
    (∀ a c, look (unItems (fun e => e) q l p) a = some c → UpIt n0 sv w M ov f σ (stampR q l p) l a c) ∧ ∀ a, a ∈ itemKeys l → look (unItems (fun e => e) q l p) a ≠ none
  | [], _, _, _ => ⟨fun a c h => (by cases h), fun a h => (by simp [itemKeys] at h)⟩
  | i :: l, q, p, ⟨h1, h2⟩ => by
    obtain ⟨a1, a2⟩ := unItem_up (q := q) (st := stampR q (i :: l) p) h1 fun r hr => by
      unfold stampR
      rw [if_pos rfl]
      exact hr
    obtain ⟨b1, b2⟩ := unItems_up (l := l) (q := q + 1) h2
    have hu : ∀ a, look (unItems (fun e => e) q (i :: l) p) a = match look (unItem (fun e => e) q i (HL.fst i.comps (itemsC l) p)) a with | some c => some c | none => look (unItems (fun e => e) (q + 1) l (HL.snd i.comps (itemsC l) p)) a := fun a => look_app _ _ a
    have hle : Rz.le (stampR (q + 1) l (HL.snd i.comps (itemsC l) p)) (stampR q (i :: l) p) := fun e r he => by
      have : e ≠ q := fun hq => by subst hq; rw [stampR_none (.inl (by omega))] at he; cases he
      unfold stampR
      rw [if_neg this]
      exact he
    refine ⟨fun a c h => ?_, fun a h => ?_⟩
    · rw [hu] at h
      cases hl : look (unItem (fun e => e) q i (HL.fst i.comps (itemsC l) p)) a with
      | some c' =>
        rw [hl] at h
        injection h with h
        subst h
        exact (a1 _ _ hl).more (Rz.le_refl _) (fun x hx => by rw [List.mem_singleton.1 hx]; simp)
      | none =>
        rw [hl] at h
        exact (b1 _ _ h).more hle (fun x hx => List.mem_cons_of_mem _ hx)
    · rw [hu]
      cases hl : look (unItem (fun e => e) q i (HL.fst i.comps (itemsC l) p)) a with
      | some c' => simp
      | none =>
        rcases List.mem_append.1 (show a ∈ itemKey i ++ itemKeys l from h) with h | h
        · exact absurd hl (a2 a h)
        · exact b2 a h
end
end Hd
set_option linter.unusedVariables false
set_option linter.unusedSimpArgs false
namespace Hd
open Go Hk
section
variable {B : Tab} {P : Program} {M M' Mf : Loc → Option (Con B)} {G w : World} {L0 : List HProp} {f0 f f' : HP} {σ0 σ σ' : Rz B} {E E0 : List (Nat × EH)} {N : Nat → Prop} {ρ : Env}
variable {base lim n0 : Nat} {rs : List Loc} {ρr : Type} {o : ρr}
def sOff (ret : Bool) (M : Loc → Option (Con B)) : Loc → Option (Con B) := fun l => match ret, l with | true, .s _ => none | _, l => M l
theorem sOff_s (M : Loc → Option (Con B)) (t : Nat) : sOff true M (.s t) = none := rfl
theorem sOff_f (M : Loc → Option (Con B)) : sOff false M = M := by funext l; cases l <;> rfl
theorem sOff_a (ret : Bool) (M : Loc → Option (Con B)) (i : Nat) : sOff ret M (.a i) = M (.a i) := by cases ret <;> rfl
theorem sOff_b (ret : Bool) (M : Loc → Option (Con B)) (i : Nat) : sOff ret M (.b i) = M (.b i) := by cases ret <;> rfl
theorem sOff_c (ret : Bool) (M : Loc → Option (Con B)) (i j : Nat) : sOff ret M (.c i j) = M (.c i j) := by cases ret <;> rfl
theorem sOff_k (ret : Bool) (M : Loc → Option (Con B)) (i j : Nat) : sOff ret M (.k i j) = M (.k i j) := by cases ret <;> rfl
theorem pick {R : Nat → Nat → Prop} (hR : ∀ i j j', R i j → R i j' → j = j') : ∀ {T D E1 : List (Nat × EH)} {L1 P LR : List HProp}, Once E1 → Once T → Once D → (∀ i h, (i, h) ∈ T → ∀ k, (i, k) ∉ D) →
    (∀ i h, (i, h) ∈ T → ∃ j, R i j ∧ (j, h) ∈ E1) → (∀ i h i' h' j, (i, h) ∈ T → (i', h') ∈ T → R i j → R i' j → i = i') →
    (∀ i h j A L, (i, h) ∈ T → R i j → (j, h) ∈ E1 → EntRel f σ M j h A → Wd G w f (A :: L) → EntRel f σ' M' i h A) →
    Ents f σ M E1 L1 → Ents f σ' M' D P → Wd G w f (P ++ (L1 ++ LR)) →
    ∃ E2 L2 Er Lr, Once E2 ∧ (∀ x, x ∈ E2 ↔ x ∈ D ∨ x ∈ T) ∧ Ents f σ' M' E2 L2 ∧ Once Er ∧ (∀ x, x ∈ Er ↔ x ∈ E1 ∧ ∀ i h, (i, h) ∈ T → ¬ R i x.1) ∧ Ents f σ M Er Lr ∧ Wd G w f (L2 ++ (Lr ++ LR))
  | [], D, E1, L1, P, LR, o1, _, o3, _, _, _, _, h1, h2, hw => ⟨D, P, E1, L1, o3, fun x => (by simp), h2, o1, fun x => (by simp), h1, hw⟩
  | (i, h) :: T, D, E1, L1, P, LR, o1, o2, o3, hd, hm, hinj, htr, h1, h2, hw => by
    obtain ⟨j, hj, hjE⟩ := hm i h (by simp)
    obtain ⟨A, L2, hr, he, hw2⟩ := Ents.take (P := P) o1 hjE h1 hw
    have o2' := o2
    unfold Once at o2'
    simp only [List.map_cons, List.nodup_cons] at o2'
    have hne : ∀ i' h', (i', h') ∈ T → i' ≠ i := fun i' h' hm' e => o2'.1 (by rw [← e]; exact List.mem_map.2 ⟨(i', h'), hm', rfl⟩)
    have hni : ∀ k, (i, k) ∉ D := hd i h (by simp)
    obtain ⟨E2, L3, Er, Lr, q1, q2, q3, q4, q5, q6, q7⟩ := pick hR (T := T) (D := (i, h) :: D) (E1 := delE E1 j) (L1 := L2) (P := A :: P) (LR := LR) o1.delE o2'.2 (o3.cons hni)
      (fun i' h' hm' k hk => by
        rcases List.mem_cons.1 hk with e | hk
        · injection e with e _; exact hne i' h' hm' e
        · exact hd i' h' (by simp [hm']) k hk)
      (fun i' h' hm' => by
        obtain ⟨j', k1, k2⟩ := hm i' h' (by simp [hm'])
        refine ⟨j', k1, mem_delE.2 ⟨k2, fun e => ?_⟩⟩
        simp only at e
        subst e
        exact hne i' h' hm' (hinj i' h' i h j' (by simp [hm']) (by simp) k1 hj))
      (fun i1 h1 i2 h2 j' m1 m2 => hinj i1 h1 i2 h2 j' (by simp [m1]) (by simp [m2]))
      (fun i1 h1 j' A' L m1 r1 e1 => htr i1 h1 j' A' L (by simp [m1]) r1 (mem_delE.1 e1).1)
      he ⟨htr i h j A _ (by simp) hj hjE hr hw2, h2⟩ hw2
    refine ⟨E2, L3, Er, Lr, q1, fun x => ?_, q3, q4, fun x => ?_, q6, q7⟩
    · rw [q2]; simp only [List.mem_cons]; constructor
      · rintro ((h | h) | h)
        · exact .inr (.inl h)
        · exact .inl h
        · exact .inr (.inr h)
      · rintro (h | h | h)
        · exact .inl (.inr h)
        · exact .inl (.inl h)
        · exact .inr h
    · rw [q5, mem_delE]
      constructor
      · rintro ⟨⟨a, b⟩, c⟩
        refine ⟨a, fun i' h' hm' hr' => ?_⟩
        rcases List.mem_cons.1 hm' with e | hm'
        · injection e with e _; subst e; exact b (hR _ _ _ hr' hj)
        · exact c i' h' hm' hr'
      · rintro ⟨a, c⟩
        exact ⟨⟨a, fun e => c i h (by simp) (by rw [e]; exact hj)⟩, fun i' h' hm' => c i' h' (by simp [hm'])⟩
theorem Rol.fn {mu : List (Nat × Nat)} {e i j : Nat} (h1 : Rol n0 mu e i) (h2 : Rol n0 mu e j) : i = j := by
  rcases h1 with ⟨a, rfl⟩ | ⟨a, b⟩ <;> rcases h2 with ⟨c, rfl⟩ | ⟨c, d⟩
  · rfl
  · omega
  · omega
  · rw [b] at d; injection d
theorem Rol.ren {mu : List (Nat × Nat)} {e i : Nat} (h : Rol n0 mu e i) : Hd.ren n0 σ mu e = σ i := by
  unfold Hd.ren
  rcases h with ⟨a, rfl⟩ | ⟨a, b⟩
  · rw [if_pos a]
  · rw [if_neg (by omega), b]
theorem repack {T : Tpl} {p : HL B.T (itemsC T.items)} {ov : Ov B} {ret : Bool} {sv : Env}
    (hs : Stage G L0 f0 σ0 M E N base f σ ρ w ov) (hf : FrameB n0 E0 Mf) (hi : ItemsOk n0 sv w M ov f σ T.items p)
    (c1 : ∀ l, fresh n0 ret l = false → l ∉ itemKeys T.items → M l = Mf l) (c2 : ∀ l, look ov.up l ≠ none → fresh n0 ret l = true ∨ l ∈ itemKeys T.items)
    (cE : ∀ i h, (i, h) ∈ T.ents → ∃ j, Rol n0 ov.mu i j ∧ (j, h) ∈ delsE (ov.add ++ E) ov.del) (cL : ∀ e j, assoc ov.mu e = some j → e < T.nx) (cn : n0 ≤ T.nx)
    (cO : ∀ i h, (i, h) ∈ E0 → hasId T.ents i = true ∨ keyE i h ∈ itemKeys T.items) (cT : tplOk E0 T = true)
    (cA : ∀ e j, assoc ov.mu e = some j → n0 ≤ j ∨ ∀ h, (j, h) ∉ T.ents) (csv : ret = false → ∀ t, sv t = ρ t) :
    ∃ σ' Er Lr, (∀ i, i < n0 → σ' i = σ i) ∧ Rz.le (ren n0 σ ov.mu) σ' ∧
      SimF G (Lr ++ L0) f σ' (ovl (unItems (fun e => e) T.nx T.items p) (sOff ret Mf)) T.ents (fun i => i < T.nx + T.items.length) f σ' sv w ∧
      Ents f σ (ovl ov.up M) Er Lr ∧ Once Er ∧ (∀ x, x ∈ Er ↔ x ∈ delsE (ov.add ++ E) ov.del ∧ ∀ i h, (i, h) ∈ T.ents → ¬ Rol n0 ov.mu i x.1) := by
  unfold tplOk at cT
  simp only [Bool.and_eq_true] at cT
  have tO := idsOnce_once cT.1.1
  have tI := itemsTold_spec cT.1.2
  have tE := entsTold_spec cT.2
  obtain ⟨u1, u2⟩ := unItems_up (q := T.nx) hi
  generalize hU : unItems (fun e => e) T.nx T.items p = U at *
  generalize hS : stampR T.nx T.items p = S at *
  have hren : ∀ e, T.nx ≤ e → ren n0 σ ov.mu e = none := fun e he => by
    unfold ren
    rw [if_neg (by omega)]
    cases ha : assoc ov.mu e with
    | none => rfl
    | some j => have := cL e j ha; omega
  have hSn : ∀ e, e < T.nx ∨ T.nx + T.items.length ≤ e → S e = none := fun e he => by rw [← hS]; exact stampR_none he
  have hσd : ∃ σ' : Rz B, (∀ e, σ' e = match ren n0 σ ov.mu e with | some r => some r | none => S e) := ⟨_, fun _ => rfl⟩
  obtain ⟨σ', hσ'⟩ := hσd
  have hle : Rz.le (ren n0 σ ov.mu) σ' := fun e r he => by rw [hσ', he]
  have hlow : ∀ i, i < n0 → σ' i = σ i := fun i hi => by
    rw [hσ']
    have : ren n0 σ ov.mu i = σ i := by unfold ren; rw [if_pos hi]
    rw [this]
    cases hq : σ i with
    | some r => rfl
    | none => exact hSn i (.inl (by omega))
  have hRol : ∀ {e i r}, Rol n0 ov.mu e i → σ i = some r → σ' e = some r := fun h1 h2 => hle _ _ (by rw [h1.ren]; exact h2)
  have hSt : ∀ k r, S k = some r → σ' k = some r := fun k r h => by
    rw [hσ', hren k]
    · exact h
    · rcases Nat.lt_or_ge k T.nx with h' | h'
      · rw [hSn k (.inl h')] at h; cases h
      · exact h'
  have same : ∀ l, look U l = none → fresh n0 ret l = false → ovl ov.up M l = Mf l := fun l hl hfr => by
    have hk : l ∉ itemKeys T.items := fun hk => u2 l hk hl
    have h1 : look ov.up l = none := by
      cases hq : look ov.up l with
      | none => rfl
      | some c =>
        rcases c2 l (by rw [hq]; simp) with h | h
        · rw [hfr] at h; cases h
        · exact absurd h hk
    rw [ovl_none h1]
    exact c1 l hfr hk
  have hfa : ∀ {i}, i < n0 → Nat.ble n0 i = false := fun {i} hi => by
    cases hq : Nat.ble n0 i with
    | false => rfl
    | true => have := Nat.le_of_ble_eq_true hq; omega
  have hsame : ∀ i, i < n0 → σ' i = σ i := hlow
  have notId : ∀ {i h}, (i, h) ∈ T.ents → hasId T.ents i = true := fun h => hasId_iff.2 ⟨_, h⟩
  obtain ⟨E1, L1, k1, k2, k3, k4⟩ := hs.sim.ents
  have trans : ∀ i h j A L, (i, h) ∈ T.ents → Rol n0 ov.mu i j → (j, h) ∈ E1 → EntRel f σ (ovl ov.up M) j h A → Wd G w f (A :: L) → EntRel f σ' (ovl U (sOff ret Mf)) i h A := by
    intro i h j A L hT hr hj hR hw
    have low : ∀ {l}, look U l = none → ((i, h) ∈ E0 → i < n0 ∧ j = i) ∧ (keyE i h = l → (i, h) ∈ E0) := fun {l} hl => by
      refine ⟨fun h0 => ?_, fun hk => ?_⟩
      · have hlt := (hf.ents i h h0).1
        refine ⟨hlt, ?_⟩
        rcases hr with ⟨_, e⟩ | ⟨hge, _⟩
        · exact e.symm
        · omega
      · rcases tE i h hT with h0 | h0
        · exact h0
        · have : keyE i h ∈ itemKeys T.items := by cases h with | arr e => exact h0 | grid e => exact h0 | mp k v => exact h0 | blk t n => exact h0.1
          rw [hk] at this
          exact absurd hl (u2 _ this)
    cases h with
    | arr e =>
      obtain ⟨H, n, c, cur, xs, s, nn, h1, h2, h3, h4, h5, h6, h7⟩ := hR
      cases hq : look U (.a i) with
      | none =>
        have h0 := (low hq).2 rfl
        obtain ⟨hlt, rfl⟩ := (low hq).1 h0
        have hMf := same (.a j) hq (hfa hlt)
        rw [hMf] at h3
        have hb := hf.arrs j e xs s nn h3
        exact ⟨H, n, c, cur, xs, s, nn, (hlow j hlt).trans h1, h2, by rw [ovl_none hq, sOff_a]; exact h3, (hlow s hb.2.1).trans h4, h5, h6, h7⟩
      | some q =>
        have hu := u1 _ _ hq
        cases q <;> try exact hu.elim
        case arr e' xs' k nn1 =>
          obtain ⟨⟨nn2, g1⟩, g2, i', s', nn', g3, g4, g5, g6⟩ := hu
          have := g3.fn hr
          subst this
          have hnd := (mem_delsE.1 ((k2 _).1 hj)).2
          rcases g6 with g6 | g6
          · rw [h3] at g6
            injection g6 with g6
            injection g6 with e1 e2 e3 e4
            subst e1
            have e2 := eq_of_heq e2
            subst e2 e3 e4
            exact ⟨H, n, c, cur, xs, k, nn1, hRol hr h1, h2, ovl_some hq, hSt _ _ g2, h5, fun hn => h6 (Nat.le_trans hn g4), fun hn => h7 (Nat.le_trans hn g4)⟩
          · exact absurd g6 hnd
        case fz e' xs' nn1 =>
          obtain ⟨⟨e2, nn2, g1⟩, _⟩ := hu
          have : hasId T.ents i = false := tI _ g1
          rw [show hasId T.ents i = true from notId hT] at this
          cases this
        case grid e' rows k kh hole nn1 =>
          obtain ⟨⟨nn2, g1⟩, _⟩ := hu
          have := tO.eq (show (i, EH.grid e') ∈ T.ents from tI _ g1) hT
          cases this
        case mp k' v' m' =>
          have := tO.eq (show (i, EH.mp k' v') ∈ T.ents from tI (Item.mp i k' v') hu.1) hT
          cases this
        case gone =>
          have : hasId T.ents i = false := tI (Item.rm i) hu
          rw [show hasId T.ents i = true from notId hT] at this
          cases this
    | grid e =>
      obtain ⟨H, n, c, cur, hdl, rl, rows, s, kh, hole, nn, h1, h2, h3, h4, h5', h5, h6⟩ := hR
      cases hq : look U (.a i) with
      | none =>
        have h0 := (low hq).2 rfl
        obtain ⟨hlt, rfl⟩ := (low hq).1 h0
        have hMf := same (.a j) hq (hfa hlt)
        rw [hMf] at h3
        have hb := hf.grds j e rows s kh hole nn h3
        exact ⟨H, n, c, cur, hdl, rl, rows, s, kh, hole, nn, (hlow j hlt).trans h1, h2, by rw [ovl_none hq, sOff_a]; exact h3, (hlow s hb.2.1).trans h4, (hlow kh hb.2.2.1).trans h5', h5, h6⟩
      | some q =>
        have hu := u1 _ _ hq
        cases q <;> try exact hu.elim
        case grid e' rows' k kh' hole' nn1 =>
          obtain ⟨⟨nn2, g1⟩, g2, rfl, i', s', h', nn', g3, g3', g4, g5, g6⟩ := hu
          have := g3.fn hr
          subst this
          have hnd := (mem_delsE.1 ((k2 _).1 hj)).2
          rcases g6 with g6 | g6
          · rw [h3] at g6
            injection g6 with g6
            injection g6 with e1 e2 e3 e4 e5 e6
            subst e1
            have e2 := eq_of_heq e2
            subst e2 e3 e4 e5 e6
            exact ⟨H, n, c, cur, hdl, rl, rows, k, kh', none, nn1, hRol hr h1, h2, ovl_some hq, hSt _ _ g2, hRol g3' h5', h5, fun hn => h6 (Nat.le_trans hn g4)⟩
          · exact absurd g6 hnd
        case arr e' xs' k nn1 =>
          obtain ⟨⟨nn2, g1⟩, _⟩ := hu
          have := tO.eq (show (i, EH.arr e') ∈ T.ents from tI _ g1) hT
          cases this
        case fz e' xs' nn1 =>
          obtain ⟨⟨e2, nn2, g1⟩, _⟩ := hu
          have : hasId T.ents i = false := tI _ g1
          rw [show hasId T.ents i = true from notId hT] at this
          cases this
        case mp k' v' m' =>
          have := tO.eq (show (i, EH.mp k' v') ∈ T.ents from tI (Item.mp i k' v') hu.1) hT
          cases this
        case gone =>
          have : hasId T.ents i = false := tI (Item.rm i) hu
          rw [show hasId T.ents i = true from notId hT] at this
          cases this
    | mp kt vt =>
      cases hq : look U (.a i) with
      | none =>
        have h0 := (low hq).2 rfl
        obtain ⟨hlt, rfl⟩ := (low hq).1 h0
        have hMf := same (.a j) hq (hfa hlt)
        rcases hR with ⟨g0, r, es, clk, m, h1, h2, h3, h4⟩ | ⟨e, r, es, clk, hl, rl, g0, h1, h2, h3⟩
        · rw [hMf] at h3
          exact .inl ⟨g0, r, es, clk, m, (hlow j hlt).trans h1, h2, by rw [ovl_none hq, sOff_a]; exact h3, h4⟩
        · refine .inr ⟨e, r, es, clk, hl, rl, g0, (hlow j hlt).trans h1, h2, ?_⟩
          rcases h3 with ⟨m, h3, h4⟩ | ⟨m, key, pd, h3, h4⟩
          · rw [hMf] at h3
            exact .inl ⟨m, by rw [ovl_none hq, sOff_a]; exact h3, rowm_same (fun _ _ h => by cases h) h4⟩
          · rw [hMf] at h3
            have hb := hf.mphs j _ _ _ _ _ h3
            refine .inr ⟨m, key, pd, by rw [ovl_none hq, sOff_a]; exact h3, rowm_same (fun x j' h => ?_) h4⟩
            injection h with h
            injection h with _ h
            exact hlow j' (hb.2.1 j' h)
      | some q =>
        have hu := u1 _ _ hq
        cases q <;> try exact hu.elim
        case mp k' v' m' =>
          obtain ⟨g1, i', g3, g5, g6⟩ := hu
          have := g3.fn hr
          subst this
          have hnd := (mem_delsE.1 ((k2 _).1 hj)).2
          have g6 := g6.resolve_right hnd
          rcases hR with ⟨g0, r, es, clk, m, h1, h2, h3, h4⟩ | ⟨e, r, es, clk, hl, rl, g0, h1, h2, h3⟩
          · rw [h3] at g6
            injection g6 with g6
            injection g6 with e1 e2 e3
            subst e1 e2
            have e3 := eq_of_heq e3
            subst e3
            exact .inl ⟨g0, r, es, clk, m, hRol hr h1, h2, ovl_some hq, h4⟩
          · subst g0
            rcases h3 with ⟨m, h3, h4⟩ | ⟨m, key, pd, h3, h4⟩
            · rw [h3] at g6
              injection g6 with g6
              injection g6 with e1 e2 e3
              subst e1 e2
              have e3 := eq_of_heq e3
              subst e3
              exact .inr ⟨e, r, es, clk, hl, rl, rfl, hRol hr h1, h2, .inl ⟨m, ovl_some hq, rowm_same (fun _ _ h => by cases h) h4⟩⟩
            · rw [h3] at g6; cases g6
        case grid e' rows k kh hole nn1 =>
          obtain ⟨⟨nn2, g1⟩, _⟩ := hu
          have := tO.eq (show (i, EH.grid e') ∈ T.ents from tI _ g1) hT
          cases this
        case arr e' xs' k nn1 =>
          obtain ⟨⟨nn2, g1⟩, _⟩ := hu
          have := tO.eq (show (i, EH.arr e') ∈ T.ents from tI _ g1) hT
          cases this
        case fz e' xs' nn1 =>
          obtain ⟨⟨e2, nn2, g1⟩, _⟩ := hu
          have : hasId T.ents i = false := tI _ g1
          rw [show hasId T.ents i = true from notId hT] at this
          cases this
        case gone =>
          have : hasId T.ents i = false := tI (Item.rm i) hu
          rw [show hasId T.ents i = true from notId hT] at this
          cases this
    | blk t n =>
      obtain ⟨b, vals, h1, h2, h3, h4, h5⟩ := hR
      have hwb : w.heap[b]? = some (.cells (List.toArray vals) t (0, 0)) := by subst h2; exact wd_blk 0 hw rfl
      refine ⟨b, vals, hRol hr h1, h2, h3, ?_, fun j' v hv => ?_⟩
      · cases hq : look U (.b i) with
        | none =>
          have h0 := (low hq).2 rfl
          obtain ⟨hlt, rfl⟩ := (low hq).1 h0
          rw [ovl_none hq, sOff_b, ← same (.b j) hq (hfa hlt)]
          exact h4
        | some q =>
          have hu := u1 _ _ hq
          cases q <;> try exact hu.elim
          case blk t' n' =>
            have := tI _ hu.1
            have := tO.eq this hT
            injection this with e1 e2
            subst e1 e2
            exact ovl_some hq
          case gone =>
            have : hasId T.ents i = false := tI (Item.rmb i) hu
            rw [show hasId T.ents i = true from notId hT] at this
            cases this
      · obtain ⟨g1, c, g2, g3⟩ := h5 j' v hv
        refine ⟨g1, ?_⟩
        cases hq : look U (.c i j') with
        | none =>
          have hj' : j' < n := by rw [← h3]; exact (List.getElem?_eq_some_iff.1 hv).1
          rcases tE i _ hT with h0 | h0
          · obtain ⟨hlt, rfl⟩ := (low hq).1 h0
            obtain ⟨c', hc', hb⟩ := (hf.ents j _ h0).2.2 j' hj'
            rw [same (.c j j') hq (hfa hlt), hc'] at g2
            injection g2 with g2
            injection g2 with g2
            subst g2
            exact ⟨c', by rw [ovl_none hq, sOff_c]; exact hc', CRel.same hsame hb g3⟩
          · exact absurd hq (u2 _ (h0.2 j' hj'))
        | some q =>
          obtain ⟨x, rfl, i', b', vals', t', v', r1, r2, r3, r4, r5⟩ := u1 _ _ hq
          have := r1.fn hr
          subst this
          rw [h1] at r2
          injection r2 with r2
          injection r2 with r2
          subst r2
          rw [hwb] at r3
          injection r3 with r3
          injection r3 with r3 _ _
          have := List.toArray_inj r3
          subst this
          rw [hv] at r4
          injection r4 with r4
          subst r4
          exact ⟨x, ovl_some hq, r5.mono (HP.le_refl _) hle⟩
  obtain ⟨E2, L2, Er, Lr, q1, q2, q3, q4, q5, q6, q7⟩ := pick (R := Rol n0 ov.mu) (M' := ovl U (sOff ret Mf)) (σ' := σ') (fun i j j' => Rol.fn) (T := T.ents) (D := []) (P := []) (LR := L0) k1 tO List.nodup_nil (fun _ _ _ _ => by simp)
    (fun i h hm => by obtain ⟨j, a, b⟩ := cE i h hm; exact ⟨j, a, (k2 _).2 b⟩)
    (fun i h i' h' j m1 m2 r1 r2 => by
      rcases r1 with ⟨a1, e1⟩ | ⟨a1, e1⟩ <;> rcases r2 with ⟨a2, e2⟩ | ⟨a2, e2⟩
      · rw [e1, e2]
      · subst e1
        rcases cA _ _ e2 with h | h
        · omega
        · exact absurd m1 (h _)
      · subst e2
        rcases cA _ _ e1 with h | h
        · omega
        · exact absurd m2 (h _)
      · exact hs.inj _ _ _ e1 e2) trans k3 trivial k4
  refine ⟨σ', Er, Lr, hlow, hle, ⟨hs.sim.gl, HP.le_refl _, Rz.le_refl _, fun i hi => ?_, fun t => ?_, fun i e xs nn h => ?_, fun i e x h => ?_, fun c j x h => ?_, fun i e xs s nn h => ?_, fun i e rows s k hole nn h => ?_, fun i k v m h => ?_, fun i k e m key pd h => ?_, fun i ty n h => ?_, E2, L2, q1, fun x => by rw [q2]; simp, q3, q7⟩, q6, q4, fun x => by rw [q5, k2]⟩
  · have : T.nx + T.items.length ≤ i := by
      rcases Nat.lt_or_ge i (T.nx + T.items.length) with h | h
      · exact absurd h hi
      · exact h
    rw [hσ', hren i (by omega)]
    exact hSn i (.inr this)
  · cases hq : look U (.s t) with
    | some q =>
      obtain ⟨d, rfl, hd⟩ := u1 _ _ hq
      rw [ovl_some hq]
      exact DRel.mono (HP.le_refl _) hle hd
    | none =>
      rw [ovl_none hq]
      cases ret with
      | true => rw [sOff_s]; trivial
      | false =>
        rw [sOff_f, csv rfl]
        have h1 := hs.sim.slots t
        rw [same (.s t) hq rfl] at h1
        cases hM : Mf (.s t) with
        | none => trivial
        | some q =>
          cases q <;> try trivial
          rename_i d
          rw [hM] at h1
          exact DRel.same hsame (hf.slots t d hM) h1
  · cases hq : look U (.a i) with
    | some q =>
      rw [ovl_some hq] at h
      injection h with h
      subst h
      obtain ⟨_, g1, i', A, n, c, g2, g3, g4⟩ := u1 _ _ hq
      exact ⟨A, n, c, hRol g2 g3, g4, fun hn => by omega⟩
    | none =>
      rw [ovl_none hq, sOff_a] at h
      have hlt := hf.fzs i e xs nn h
      rw [← same (.a i) hq (hfa hlt)] at h
      obtain ⟨A, n, c, g1, g2⟩ := hs.sim.fzs i e xs nn h
      exact ⟨A, n, c, (hlow i hlt).trans g1, g2⟩
  · cases hq : look U (.b i) with
    | some q =>
      rw [ovl_some hq] at h
      injection h with h
      subst h
      exact (u1 _ _ hq).elim
    | none =>
      rw [ovl_none hq, sOff_b] at h
      have hlt := hf.fzbs i e x h
      rw [← same (.b i) hq (hfa hlt)] at h
      obtain ⟨b, ds, ty, fr, g1, g2⟩ := hs.sim.fzbs i e x h
      exact ⟨b, ds, ty, fr, (hlow i hlt).trans g1, g2⟩
  · cases hq : look U (.k c j) with
    | some q =>
      rw [ovl_some hq] at h
      injection h with h
      subst h
      obtain ⟨y, hy, c', vals, v, g1, g2, g3, g4⟩ := u1 _ _ hq
      injection hy with hy
      subst hy
      exact ⟨vals, v, hRol g1 g2, g3, g4.mono (HP.le_refl _) hle⟩
    | none =>
      rw [ovl_none hq, sOff_k] at h
      have hlt := hf.clos c j x h
      rw [← same (.k c j) hq (hfa hlt.1)] at h
      obtain ⟨vals, v, g1, g2, g3⟩ := hs.sim.clos c j x h
      exact ⟨vals, v, (hlow c hlt.1).trans g1, g2, CRel.same hsame hlt.2 g3⟩
  · cases hq : look U (.a i) with
    | some q =>
      rw [ovl_some hq] at h
      injection h with h
      subst h
      obtain ⟨⟨nn2, g1⟩, _⟩ := u1 _ _ hq
      exact tI _ g1
    | none =>
      rw [ovl_none hq, sOff_a] at h
      obtain ⟨hlt, _, h0⟩ := hf.arrs i e xs s nn h
      rw [← same (.a i) hq (hfa hlt)] at h
      have h1 := hs.sim.arrs i e xs s nn h
      rcases cO i _ h0 with h2 | h2
      · obtain ⟨h', h3⟩ := hasId_iff.1 h2
        obtain ⟨j, r, h4⟩ := cE i h' h3
        have : i = j := Rol.fn (.inl ⟨hlt, rfl⟩) r
        subst this
        rw [only_one hs.sim h1 h4]
        exact h3
      · exact absurd hq (u2 _ h2)
  · cases hq : look U (.a i) with
    | some q =>
      rw [ovl_some hq] at h
      injection h with h
      subst h
      obtain ⟨⟨nn2, g1⟩, _⟩ := u1 _ _ hq
      exact tI _ g1
    | none =>
      rw [ovl_none hq, sOff_a] at h
      obtain ⟨hlt, _, _, h0⟩ := hf.grds i e rows s k hole nn h
      rw [← same (.a i) hq (hfa hlt)] at h
      have h1 := hs.sim.grds i e rows s k hole nn h
      rcases cO i _ h0 with h2 | h2
      · obtain ⟨h', h3⟩ := hasId_iff.1 h2
        obtain ⟨j, r, h4⟩ := cE i h' h3
        have : i = j := Rol.fn (.inl ⟨hlt, rfl⟩) r
        subst this
        rw [only_one hs.sim h1 h4]
        exact h3
      · exact absurd hq (u2 _ h2)
  · cases hq : look U (.a i) with
    | some q =>
      rw [ovl_some hq] at h
      injection h with h
      subst h
      exact tI (Item.mp i k v) (u1 _ _ hq).1
    | none =>
      rw [ovl_none hq, sOff_a] at h
      obtain ⟨hlt, h0⟩ := hf.mps i k v m h
      rw [← same (.a i) hq (hfa hlt)] at h
      have h1 := hs.sim.mps i k v m h
      rcases cO i _ h0 with h2 | h2
      · obtain ⟨h', h3⟩ := hasId_iff.1 h2
        obtain ⟨j, r, h4⟩ := cE i h' h3
        have : i = j := Rol.fn (.inl ⟨hlt, rfl⟩) r
        subst this
        rw [only_one hs.sim h1 h4]
        exact h3
      · exact absurd hq (u2 _ h2)
  · cases hq : look U (.a i) with
    | some q =>
      rw [ovl_some hq] at h
      injection h with h
      subst h
      exact (u1 _ _ hq).elim
    | none =>
      rw [ovl_none hq, sOff_a] at h
      obtain ⟨hlt, _, h0⟩ := hf.mphs i k e m key pd h
      rw [← same (.a i) hq (hfa hlt)] at h
      have h1 := hs.sim.mphs i k e m key pd h
      rcases cO i _ h0 with h2 | h2
      · obtain ⟨h', h3⟩ := hasId_iff.1 h2
        obtain ⟨j, r, h4⟩ := cE i h' h3
        have : i = j := Rol.fn (.inl ⟨hlt, rfl⟩) r
        subst this
        rw [only_one hs.sim h1 h4]
        exact h3
      · exact absurd hq (u2 _ h2)
  · cases hq : look U (.b i) with
    | some q =>
      rw [ovl_some hq] at h
      injection h with h
      subst h
      exact tI (Item.blk i ty n) (u1 _ _ hq).1
    | none =>
      rw [ovl_none hq, sOff_b] at h
      obtain ⟨hlt, h0⟩ := hf.blks i ty n h
      rw [← same (.b i) hq (hfa hlt)] at h
      have h1 := hs.sim.blks i ty n h
      rcases cO i _ h0 with h2 | h2
      · obtain ⟨h', h3⟩ := hasId_iff.1 h2
        obtain ⟨j, r, h4⟩ := cE i h' h3
        have : i = j := Rol.fn (.inl ⟨hlt, rfl⟩) r
        subst this
        rw [only_one hs.sim h1 h4]
        exact h3
      · exact absurd hq (u2 _ h2)
end
end Hd
set_option linter.unusedVariables false
set_option linter.unusedSimpArgs false
namespace Hd
open Go Hk
section
variable {B : Tab} {P : Program} {M M' Mf : Loc → Option (Con B)} {G w : World} {L0 : List HProp} {f0 f f' : HP} {σ0 σ σ' : Rz B} {E E0 : List (Nat × EH)} {N : Nat → Prop} {ρ : Env}
variable {base lim n0 nx : Nat} {α : Type}
theorem wd_dropR : ∀ {Lr L2 L0 : List HProp}, Wd G w f (L2 ++ (Lr ++ L0)) → Wd G w f (L2 ++ L0)
  | [], _, _, h => h
  | A :: Lr, L2, L0, h => by
    have h1 := h.drop L2.length (A := A) (by simp)
    rw [List.cons_append, erase_mid] at h1
    exact wd_dropR h1
theorem SimF.dropR {Lr : List HProp} (hs : SimF G (Lr ++ L0) f0 σ0 M E N f σ ρ w) : SimF G L0 f0 σ0 M E N f σ ρ w :=
  { hs with
    ents := by
      obtain ⟨E1, L1, k1, k2, k3, k4⟩ := hs.ents
      exact ⟨E1, L1, k1, k2, k3, wd_dropR k4⟩ }
theorem stage0 (hs : SimF G L0 f0 σ0 M E (fun i => i < nx) f σ ρ w) : Stage G L0 f0 σ0 M E (fun i => i < nx) nx f σ ρ w ⟨[], [], [], nx, []⟩ :=
  ⟨simO_nil (hs.same fun i h => .inl h), fun e e' j h => (by cases h), Nat.le_refl _, fun i h => (by simp at h), fun e j h => (by cases h)⟩
theorem pk_sound {T : Tpl} {ret : Bool} {k : TplT B T → Option α} {r : α} {a0 fr m : Mem B} (hlk : lkS a0 fr [] = ovl m Mf)
    (hs : SimF G L0 f0 σ0 (ovl m Mf) E (fun i => i < nx) f σ ρ w) (h0 : ∀ i, n0 ≤ i → σ0 i = none) (hf : FrameB n0 E0 Mf) (hc : covered n0 ret (itemKeys T.items) m = true)
    (h : pk a0 fr n0 E0 ret T [] E nx k = some r) :
    ∃ t f' σ', k t = some r ∧ SimF G L0 f0 σ0 (ovl (unM T t) (sOff ret Mf)) T.ents (fun i => i < T.nx + T.items.length) f' σ' ρ w ∧ HP.le f f' ∧ n0 ≤ T.nx := by
  unfold pk at h
  rw [hlk] at h
  obtain ⟨⟨p, ov⟩, rs', hr, h1⟩ := RM.go_ran h
  clear h
  obtain ⟨p', ov', f1, σ1, rs1, s1, x1, h2, h3⟩ := mItems_stage (base := nx) (lim := nx + 1000000) (N := fun i => i < nx) (sv := ρ) (fun j a b c => by omega) (stage0 hs) (fun t k rs hk => by
    obtain ⟨rs', e, h1⟩ := hk
    have h2 := hs.slots t
    cases hM : ovl m Mf (.s t) with
    | none => rw [hM] at h1; exact h1.elim
    | some q =>
      rw [hM] at h1 h2
      cases q <;> try exact h1.elim
      exact ⟨_, rs', h2, h1⟩) hr
  obtain ⟨h2, _⟩ := h2
  injection h2 with e1 e2
  subst e1 e2
  simp only at h1
  split at h1
  · rename_i hq
    simp only [Bool.and_eq_true] at hq
    obtain ⟨⟨⟨⟨⟨⟨q1, q2⟩, q3⟩, q4⟩, q5⟩, q6⟩, q7⟩ := hq
    obtain ⟨σ', Er, Lr, g1, g2, g3, _⟩ := repack (ret := ret) (sv := ρ) s1 hf h3 (fun l hl hk => ovl_none (by
      cases hq : look m l with
      | none => rfl
      | some c =>
        rcases covered_spec hc l (by rw [hq]; simp) with h | h
        · rw [hl] at h; cases h
        · exact absurd h hk)) (covered_spec q1) (entsIn_spec q2) (rolesLow_spec q3) (Nat.le_of_ble_eq_true q6) (oldTold_spec q7) q5 (muApart_spec q4) (fun _ _ => rfl)
    refine ⟨_, f1, σ', h1, ?_, x1.le, Nat.le_of_ble_eq_true q6⟩
    have g4 := g3.dropR
    have hu : unM T (ofHL _ p') = unItems (fun e => e) T.nx T.items p' := by unfold unM; rw [toHL_ofHL]
    rw [hu]
    exact { g4 with
      le := HP.le_trans hs.le x1.le
      sub := fun i r hi => by
        have hlt : i < n0 := by
          rcases Nat.lt_or_ge i n0 with h | h
          · exact h
          · rw [h0 i h] at hi; cases hi
        rw [g1 i hlt]
        exact x1.sub _ _ (hs.sub _ _ hi) }
  · cases h1
end
end Hd
set_option linter.unusedVariables false
set_option linter.unusedSimpArgs false
namespace Hd
open Go Hk
section
variable {B : Tab} {f : HP} {σ σ' : Rz B} {rn : Nat → Nat}
def Loc.ren (rn : Nat → Nat) : Loc → Loc
  | .s t => .s t
  | .c i j => .c (rn i) j
  | .a i => .a (rn i)
  | .b i => .b (rn i)
  | .k i j => .k (rn i) j
def Cel.ren (rn : Nat → Nat) : Cel B → Cel B
  | .own i => .own (rn i)
  | .ob i b => .ob (rn i) b
  | .vw i e l h => .vw (rn i) e l h
  | .pw i e l h => .pw (rn i) e l h
  | .ptr i o => .ptr (rn i) o
  | .pa i o => .pa (rn i) o
  | .mpr i => .mpr (rn i)
  | .fn g c n => .fn g (rn c) n
  | .slk c n => .slk (rn c) n
  | .yl i => .yl (rn i)
  | .oel a e i x o s => .oel (rn a) e i x o (rn s)
  | .gop g e i => .gop (rn g) e i
  | .grow g e i h => .grow (rn g) e i (rn h)
  | .gel g e i j x o s h => .gel (rn g) e i j x o (rn s) (rn h)
  | c => c
def renCs (rn : Nat → Nat) (l : List (Cel B)) : List (Cel B) := l.map (Cel.ren rn)
def DV.ren (rn : Nat → Nat) : DV B → DV B
  | .one c => .one (c.ren rn)
  | .agg l => .agg (renCs rn l)
  | .tup l => .tup (l.map fun x => (x.1, renCs rn x.2))
  | .lst e xs => .lst e xs
  | .pas => .pas
def Con.ren (rn : Nat → Nat) : Con B → Con B
  | .v d => .v (d.ren rn)
  | .c y => .c (y.ren rn)
  | .arr e xs s nn => .arr e xs (rn s) nn
  | .grid e rows s h hole nn => .grid e rows (rn s) (rn h) hole nn
  | x => x
def renM (rn : Nat → Nat) (m : Mem B) : Mem B := m.map fun x => (x.1.ren rn, x.2.ren rn)
theorem CRel.ren (hr : ∀ e r, σ e = some r → σ' (rn e) = some r) {c : Cel B} {v : Value} (h : CRel f σ c v) : CRel f σ' (c.ren rn) v := by
  cases c with
  | own i => obtain ⟨A, n, k, h1, h2⟩ := h; exact ⟨A, n, k, hr _ _ h1, h2⟩
  | ob i b => obtain ⟨A, n, k, h1, h2⟩ := h; exact ⟨A, n, k, hr _ _ h1, h2⟩
  | vw i e l z => obtain ⟨A, n, k, h1, h2⟩ := h; exact ⟨A, n, k, hr _ _ h1, h2⟩
  | pw i e l z => obtain ⟨b, o, n, k, h1, h2⟩ := h; exact ⟨b, o, n, k, hr _ _ h1, h2⟩
  | ptr i o => obtain ⟨b, h1, h2⟩ := h; exact ⟨b, hr _ _ h1, h2⟩
  | pa i o => obtain ⟨b, oo, n, k, h1, h2⟩ := h; exact ⟨b, oo, n, k, hr _ _ h1, h2⟩
  | mpr i => obtain ⟨r, h1, h2⟩ := h; exact ⟨r, hr _ _ h1, h2⟩
  | yl i => obtain ⟨l, h1, h2⟩ := h; exact ⟨l, hr _ _ h1, h2⟩
  | fn g c n => obtain ⟨vals, h1, h2⟩ := h; exact ⟨vals, hr _ _ h1, h2⟩
  | slk c n => obtain ⟨b, vals, ty, fr, h1, h2⟩ := h; exact ⟨b, vals, ty, fr, hr _ _ h1, h2⟩
  | oel a e i x o s => obtain ⟨b, oo, n, k, xs, h1, h2, h3, h4⟩ := h; exact ⟨b, oo, n, k, xs, hr _ _ h1, h2, hr _ _ h3, h4⟩
  | gop g e i => obtain ⟨b, oo, n, k, h1, h2⟩ := h; exact ⟨b, oo, n, k, hr _ _ h1, h2⟩
  | grow g e i k => obtain ⟨⟨r, h0⟩, l, hd, h1, h2⟩ := h; exact ⟨⟨r, hr _ _ h0⟩, l, hd, hr _ _ h1, h2⟩
  | gel g e i j x o s k => obtain ⟨⟨r, h0⟩, l, b, oo, m, q, rows, row, h1, h2, h3, h4, h5⟩ := h; exact ⟨⟨r, hr _ _ h0⟩, l, b, oo, m, q, rows, row, hr _ _ h1, h2, h3, hr _ _ h4, h5⟩
  | _ => exact h
theorem CRels.ren (hr : ∀ e r, σ e = some r → σ' (rn e) = some r) : ∀ {cs : List (Cel B)} {vs : List Value}, CRels f σ cs vs → CRels f σ' (renCs rn cs) vs
  | [], [], _ => trivial
  | _ :: _, _ :: _, ⟨h1, h2⟩ => ⟨h1.ren hr, CRels.ren hr h2⟩
  | [], _ :: _, h => h.elim
  | _ :: _, [], h => h.elim
theorem TRels.ren (hr : ∀ e r, σ e = some r → σ' (rn e) = some r) : ∀ {l : List (Bool × List (Cel B))} {vs : List Value}, TRels f σ l vs → TRels f σ' (l.map fun x => (x.1, renCs rn x.2)) vs
  | [], [], _ => trivial
  | (_, _) :: _, _ :: _, ⟨⟨us, h1, h3⟩, h2⟩ => ⟨⟨us, h1.ren hr, h3⟩, TRels.ren hr h2⟩
  | [], _ :: _, h => h.elim
  | _ :: _, [], h => h.elim
theorem DRel.ren (hr : ∀ e r, σ e = some r → σ' (rn e) = some r) {d : DV B} {v : Value} (h : DRel f σ d v) : DRel f σ' (d.ren rn) v := by
  cases d with
  | one c => exact CRel.ren hr h
  | agg l => obtain ⟨vs, e, h⟩ := h; exact ⟨vs, e, h.ren hr⟩
  | tup l => obtain ⟨vs, e, h⟩ := h; exact ⟨vs, e, h.ren hr⟩
  | lst e xs => exact h
  | pas => exact h
theorem renCs_app (a b : List (Cel B)) : renCs rn (a ++ b) = renCs rn a ++ renCs rn b := List.map_append
theorem cellsL_ren {F : (t : Ty) → den B.T t → List (Cel B)} (hF : ∀ t x, renCs rn (F t x) = F t x) : ∀ {l : List Ty} {p : HL B.T l}, renCs rn (cellsL B F l p) = cellsL B F l p
  | [], _ => rfl
  | t :: l, p => by
    show renCs rn (F t p.1 ++ cellsL B F l p.2) = F t p.1 ++ cellsL B F l p.2
    rw [renCs_app, hF, cellsL_ren hF]
theorem cellsD_ren : ∀ {d : Nat} {t : Ty} {x : den B.T t}, renCs rn (cellsD B d t x) = cellsD B d t x
  | 0, t, x => by cases t <;> rfl
  | d + 1, t, x => by
    cases t with
    | st i => exact cellsL_ren (F := cellsD B d) (fun t x => cellsD_ren)
    | _ => rfl
theorem unSh_ren {s : Sh} {p : HL B.T s.comps} : unSh rn s p = renCs rn (unSh (fun e => e) s p) := by
  cases s with
  | d t => exact cellsD_ren.symm
  | _ => rfl
theorem unShs_ren : ∀ {l : List Sh} {p : HL B.T (shsC l)}, unShs rn l p = renCs rn (unShs (fun e => e) l p)
  | [], _ => rfl
  | s :: l, p => by
    show unSh rn s _ ++ unShs rn l _ = renCs rn (unSh (fun e => e) s _ ++ unShs (fun e => e) l _)
    rw [renCs_app, unSh_ren, unShs_ren]
theorem one_ren : ∀ {L L' : List (Cel B)}, L = renCs rn L' → (match L with | [c] => DV.one c | l => .agg l) = DV.ren rn (match L' with | [c] => .one c | l => .agg l)
  | _, [], rfl => rfl
  | _, [c], rfl => rfl
  | _, _ :: _ :: _, rfl => rfl
theorem at_ren {k : Loc} : ∀ {L L' : List (Cel B)}, L = renCs rn L' → (match L with | [c] => [(k.ren rn, Con.c c)] | _ => []) = renM rn (match L' with | [c] => [(k, Con.c c)] | _ => [])
  | _, [], rfl => rfl
  | _, [c], rfl => rfl
  | _, _ :: _ :: _, rfl => rfl
theorem unV_ren {v : VSh} {p : HL B.T v.comps} : unV rn v p = (unV (fun e => e) v p).ren rn := by
  cases v with
  | one s => exact one_ren unSh_ren
  | agg l => exact congrArg DV.agg unShs_ren
  | dat t => exact congrArg DV.agg cellsD_ren.symm
theorem killM_ren : ∀ {n t : Nat}, renM rn (killM (B := B) t n) = killM t n
  | 0, _ => rfl
  | n + 1, t => congrArg (List.cons (Loc.s t, Con.v (.one .und))) (killM_ren (n := n) (t := t + 1))
theorem unItem_ren {q q' : Nat} (hq : rn q = q') {i : Item} {p : HL B.T i.comps} : unItem rn q' i p = renM rn (unItem (fun e => e) q i p) := by
  subst hq
  cases i with
  | slot t v => exact congrArg (fun d => [(Loc.s t, Con.v d)]) (unV_ren (v := v) (p := p))
  | cell i j s => exact at_ren (k := .c i j) unSh_ren
  | clo i j s => exact at_ren (k := .k i j) unSh_ren
  | kr t n => exact killM_ren.symm
  | _ => rfl
theorem renM_app (a b : Mem B) : renM rn (a ++ b) = renM rn a ++ renM rn b := List.map_append
theorem unItems_ren : ∀ {l : List Item} {q q' : Nat} (hq : ∀ k, k < l.length → rn (q + k) = q' + k) {p : HL B.T (itemsC l)}, unItems rn q' l p = renM rn (unItems (fun e => e) q l p)
  | [], _, _, _, _ => rfl
  | i :: l, q, q', hq, p => by
    show unItem rn q' i _ ++ unItems rn (q' + 1) l _ = renM rn (unItem (fun e => e) q i _ ++ unItems (fun e => e) (q + 1) l _)
    rw [renM_app, unItem_ren (q := q) (q' := q') (hq 0 (by simp)), unItems_ren (q := q + 1) (fun k hk => by have := hq (k + 1) (by simpa using hk); rw [show q + 1 + k = q + (k + 1) by omega, this]; omega)]
theorem look_ren_some : ∀ {m : Mem B} {l' : Loc} {c' : Con B}, look (renM rn m) l' = some c' → ∃ l c, look m l = some c ∧ l.ren rn = l' ∧ c.ren rn = c'
  | [], _, _, h => by cases h
  | (k, c) :: m, l', c', h => by
    by_cases hk : k.ren rn = l'
    · subst hk
      rw [show renM rn ((k, c) :: m) = (k.ren rn, c.ren rn) :: renM rn m from rfl, look_cons_self] at h
      injection h with h
      exact ⟨k, c, look_cons_self _ _ _, rfl, h⟩
    · rw [show renM rn ((k, c) :: m) = (k.ren rn, c.ren rn) :: renM rn m from rfl, look_cons_ne hk] at h
      obtain ⟨l, c0, h1, h2, h3⟩ := look_ren_some h
      refine ⟨l, c0, ?_, h2, h3⟩
      rw [look_cons_ne (fun e => hk (by rw [e]; exact h2))]
      exact h1
theorem look_ren {l : Loc} : ∀ {m : Mem B}, (∀ k c, (k, c) ∈ m → k.ren rn = l.ren rn → k = l) → look (renM rn m) (l.ren rn) = (look m l).map (Con.ren rn)
  | [], _ => rfl
  | (k, c) :: m, hi => by
    by_cases hk : k = l
    · subst hk
      rw [show renM rn ((k, c) :: m) = (k.ren rn, c.ren rn) :: renM rn m from rfl, look_cons_self, look_cons_self]; rfl
    · have : k.ren rn ≠ l.ren rn := fun e => hk (hi k c (by simp) e)
      rw [show renM rn ((k, c) :: m) = (k.ren rn, c.ren rn) :: renM rn m from rfl, look_cons_ne this, look_cons_ne hk]
      exact look_ren fun k c hm => hi k c (by simp [hm])
theorem look_noSlots : ∀ {m : Mem B} {l : Loc}, look (noSlots m) l = match l with | .s _ => none | l => look m l
  | [], l => by cases l <;> rfl
  | (k, c) :: m, l => by
    cases k with
    | s t =>
      show look (noSlots m) l = _
      rw [look_noSlots]
      cases l with
      | s t' => rfl
      | _ => exact (look_cons_ne (by simp) _ _).symm
    | _ =>
      cases l <;> first
        | (show look ((_, _) :: noSlots m) _ = _; rw [look_cons_ne (by simp)]; exact look_noSlots)
        | (show (cond _ _ (look (noSlots m) _)) = cond _ _ (look m _); rw [look_noSlots])
end
end Hd
