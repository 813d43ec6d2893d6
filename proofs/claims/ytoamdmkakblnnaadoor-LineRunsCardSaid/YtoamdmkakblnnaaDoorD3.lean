/- The operations that make arrays: that their programs tell what the model's operations do. -/
import Derived.Test.YtoamdmkakblnnaaDoorD2
set_option linter.unusedVariables false
set_option linter.unusedSimpArgs false
namespace Hd
open Go Hk
section
variable {B : Tab} {P : Program} {tt : List (TI B)} {M : Loc → Option (Con B)} {G w : World} {L0 : List HProp} {f0 f : HP} {σ0 σ : Rz B} {E : List (Nat × EH)} {N : Nat → Prop} {ρ : Env}
variable {base : Nat} {dst : Option Tmp} {ty : TypeId} {pos : String} {after : Array Edge} {guard : Option (Nat × Bool)} {out : Out B} {rs : List Loc}
theorem base_none (hs : SimF G L0 f0 σ0 M E N f σ ρ w) (hb : ∀ j, base ≤ j → j < base + stepV → ¬ N j) (k : Nat) (hk : k < stepV) : σ (base + k) = none := hs.fresh _ (hb _ (by omega) (by omega))
theorem ents_some (hs : SimF G L0 f0 σ0 M E N f σ ρ w) {i : Nat} {h : EH} (hm : (i, h) ∈ E) : σ i ≠ none := by
  obtain ⟨E1, L1, _, k2, k3, _⟩ := hs.ents
  exact Ents.isS k3 i h ((k2 _).2 hm)
theorem build_arrG {cc : Cel B} {v : Value} (hs : SimF G L0 f0 σ0 M E N f σ ρ w) (hb : ∀ j, base ≤ j → j < base + stepV → ¬ N j) {upr : Mem B} {del : List Nat} {E2 : List (Nat × EH)} {L2 : List HProp}
    {A : Option Addr} {n c nn : Nat} {cur : Array Value} {e : Ty} {xs : List (den B.T e)} {w' : World}
    (hgone : ∀ l q, look upr l = some q → q = .gone ∧ ∃ i, l = .a i ∧ i ∈ del) (hdel : ∀ i, i ∈ del → look upr (.a i) ≠ none ∧ (∃ e, (i, EH.arr e) ∈ E) ∧ ∀ h, (i, h) ∈ E → ∃ e, h = EH.arr e)
    (ho : Once E2) (hm : ∀ x, x ∈ E2 ↔ x ∈ E ∧ x.1 ∉ del) (he : Ents f σ M E2 L2) (hw : Wd G w' f (Arr A c cur :: (L2 ++ L0))) (hok : ArrOk f (relB B e) A n c cur xs) (h1 : 1 ≤ nn → A.isSome = true) (h2 : 2 ≤ nn → xs ≠ []) (hv : ∀ τ : Rz B, τ base = some (.hdr A n c) → CRel f τ cc v) :
    Goal G L0 f0 σ0 M E N base f σ ρ ⟨some (.one cc), (.a base, .arr e xs (base + 1) nn) :: upr, [(base, .arr e)], del⟩ (some v) w' := by
  have b0 : σ base = none := by simpa using base_none hs hb 0 (by decide)
  have b1 : σ (base + 1) = none := base_none hs hb 1 (by decide)
  have hne : ∀ i h, (i, h) ∈ E → i ≠ base := fun i h hi e => by subst e; exact ents_some hs hi b0
  have hbd : base ∉ del := fun hd => by obtain ⟨_, ⟨e', he'⟩, _⟩ := hdel _ hd; exact hne _ _ he' rfl
  have hσ1 : Rz.le σ (setR σ base (.hdr A n c)) := setR_le b0
  have hσ : Rz.le σ (setR (setR σ base (.hdr A n c)) (base + 1) (.con e xs)) := Rz.le_trans hσ1 (setR_le (by rw [setR_ne (by omega)]; exact b1))
  have s0 : setR (setR σ base (.hdr A n c)) (base + 1) (.con e xs) base = some (.hdr A n c) := by rw [setR_ne (by omega)]; exact setR_self _ _ _
  have s1 : setR (setR σ base (.hdr A n c)) (base + 1) (.con e xs) (base + 1) = some (.con e xs) := setR_self _ _ _
  have hmem : ∀ x, x ∈ delsE ([(base, EH.arr e)] ++ E) del ↔ x = (base, EH.arr e) ∨ (x ∈ E ∧ x.1 ∉ del) := fun x => by
    rw [mem_delsE, List.singleton_append, List.mem_cons]
    constructor
    · rintro ⟨rfl | hx, hd⟩
      · exact .inl rfl
      · exact .inr ⟨hx, hd⟩
    · rintro (rfl | ⟨hx, hd⟩)
      · exact ⟨.inl rfl, hbd⟩
      · exact ⟨.inr hx, hd⟩
  refine ⟨f, _, HP.le_refl _, hσ, hs.updS (HP.le_refl _) hσ (fun i hi => ?_) (fun l q hl => ?_) (fun i h hi => ?_) ⟨(base, .arr e) :: E2, Arr A c cur :: L2, ho.cons fun k hk => hne _ _ ((hm _).1 hk).1 rfl, fun x => ?_, ⟨?_, ?_⟩, hw⟩, hv _ s0⟩
  · have : i ≠ base ∧ i ≠ base + 1 := ⟨fun e => hi (.inr ⟨by omega, by simp only [stepW]; omega⟩), fun e => hi (.inr ⟨by omega, by simp only [stepW]; omega⟩)⟩
    rw [setR_ne this.2, setR_ne this.1]
    exact hs.fresh _ fun h => hi (.inl h)
  · by_cases hlb : (Loc.a base) = l
    · subst hlb
      rw [look_cons_self] at hl
      injection hl with hl; subst hl
      exact (hmem _).2 (.inl rfl)
    · rw [look_cons_ne hlb] at hl
      obtain ⟨rfl, i, rfl, _⟩ := hgone l q hl
      trivial
  · by_cases hd : i ∈ del
    · right
      obtain ⟨k1, _, k3⟩ := hdel i hd
      obtain ⟨e', rfl⟩ := k3 h hi
      rw [show keyE i (EH.arr e') = Loc.a i from rfl, look_cons_ne (by simpa using (hne _ _ hi).symm)]
      exact k1
    · exact .inl ((hmem _).2 (.inr ⟨hi, hd⟩))
  · rw [hmem, List.mem_cons, hm]
  · exact ⟨A, n, c, cur, xs, base + 1, nn, s0, rfl, ovl_some (look_cons_self _ _ _), s1, hok, h1, h2⟩
  · refine Ents.mono (HP.le_refl _) hσ (fun i h hi => ?_) he
    have hi' := (hm _).1 hi
    have hib := hne _ _ hi'.1
    have hup : ∀ l : Loc, (∀ j, l = .a j → j ≠ base ∧ j ∉ del) → look ((.a base, Con.arr e xs (base + 1) nn) :: upr) l = none := fun l hl => by
      rw [look_cons_ne (fun e => (hl base e.symm).1 rfl)]
      cases hlk : look upr l with
      | none => rfl
      | some q => obtain ⟨_, j, rfl, hj⟩ := hgone l q hlk; exact absurd hj (hl j rfl).2
    cases h with
    | arr e' => exact hup _ fun j e => by injection e with e; subst e; exact ⟨hib, hi'.2⟩
    | grid e' => exact hup _ fun j e => by injection e with e; subst e; exact ⟨hib, hi'.2⟩
    | mp _ _ => exact hup _ fun j e => by injection e with e; subst e; exact ⟨hib, hi'.2⟩
    | blk t m => exact ⟨hup _ (fun j e => by cases e), fun k => hup _ (fun j e => by cases e)⟩
theorem build_arr (hs : SimF G L0 f0 σ0 M E N f σ ρ w) (hb : ∀ j, base ≤ j → j < base + stepV → ¬ N j) {upr : Mem B} {del : List Nat} {E2 : List (Nat × EH)} {L2 : List HProp}
    {A : Option Addr} {n c nn : Nat} {cur : Array Value} {e : Ty} {xs : List (den B.T e)} {w' : World}
    (hgone : ∀ l q, look upr l = some q → q = .gone ∧ ∃ i, l = .a i ∧ i ∈ del) (hdel : ∀ i, i ∈ del → look upr (.a i) ≠ none ∧ (∃ e, (i, EH.arr e) ∈ E) ∧ ∀ h, (i, h) ∈ E → ∃ e, h = EH.arr e)
    (ho : Once E2) (hm : ∀ x, x ∈ E2 ↔ x ∈ E ∧ x.1 ∉ del) (he : Ents f σ M E2 L2) (hw : Wd G w' f (Arr A c cur :: (L2 ++ L0))) (hok : ArrOk f (relB B e) A n c cur xs) (h1 : 1 ≤ nn → A.isSome = true) (h2 : 2 ≤ nn → xs ≠ []) :
    Goal G L0 f0 σ0 M E N base f σ ρ ⟨some (.one (.own base)), (.a base, .arr e xs (base + 1) nn) :: upr, [(base, .arr e)], del⟩ (some (.slice A n c)) w' :=
  build_arrG hs hb hgone hdel ho hm he hw hok h1 h2 fun τ h => ⟨A, n, c, h, rfl⟩
theorem new_pa (hs : SimF G L0 f0 σ0 M E N f σ ρ w) (hb : ∀ j, base ≤ j → j < base + stepV → ¬ N j) {o : Oper} {e : Ty} {xs : List (den B.T e)}
    (hr : ∀ L, Wd G w f L → ∃ w' v, (execOp (ev ρ) o).run P w = .ok (.value v) w' ∧ ∃ b n c cur, v = .pointer (some ⟨b, 0, none⟩) ∧ ArrOk f (relB B e) (some ⟨b, 0, none⟩) n c cur xs ∧ Wd G w' f (Arr (some ⟨b, 0, none⟩) c cur :: L)) :
    Does P o ρ w (Goal G L0 f0 σ0 M E N base f σ ρ ⟨some (.one (.pa base 0)), [(.a base, .arr e xs (base + 1) 1)], [(base, .arr e)], []⟩) := by
  obtain ⟨E1, L1, k1, k2, k3, k4⟩ := hs.ents
  obtain ⟨w', v, h3, b, n, c, cur, rfl, h4, h6⟩ := hr _ k4
  exact .inl ⟨_, w', h3, build_arrG hs hb (upr := []) (del := []) (fun l q h => by simp [look] at h) (fun i h => by simp at h) k1 (fun x => by simp [k2]) k3 h6 h4 (fun _ => rfl) (fun h => by omega) fun τ h => ⟨b, 0, n, c, h, rfl, by omega⟩⟩
theorem new_arr (hs : SimF G L0 f0 σ0 M E N f σ ρ w) (hb : ∀ j, base ≤ j → j < base + stepV → ¬ N j) {o : Oper}
    {nn : Nat} {e : Ty} {xs : List (den B.T e)} (h2 : 2 ≤ nn → xs ≠ [])
    (hr : ∀ L, Wd G w f L → ∃ w' v, (execOp (ev ρ) o).run P w = .ok (.value v) w' ∧ ∃ A n c cur, v = .slice A n c ∧ ArrOk f (relB B e) A n c cur xs ∧ (1 ≤ nn → A.isSome = true) ∧ Wd G w' f (Arr A c cur :: L)) :
    Does P o ρ w (Goal G L0 f0 σ0 M E N base f σ ρ ⟨some (.one (.own base)), [(.a base, .arr e xs (base + 1) nn)], [(base, .arr e)], []⟩) := by
  obtain ⟨E1, L1, k1, k2, k3, k4⟩ := hs.ents
  obtain ⟨w', v, h3, A, n, c, cur, rfl, h4, h5, h6⟩ := hr _ k4
  exact .inl ⟨_, w', h3, build_arr hs hb (upr := []) (del := []) (fun l q h => by simp [look] at h) (fun i h => by simp at h) k1 (fun x => by simp [k2]) k3 h6 h4 h5 h2⟩
theorem arr_isSome {α : Type} {E : FRel α} {f : HP} {A : Option Addr} {n c : Nat} {cur : Array Value} {xs : List α} (h : ArrOk f E A n c cur xs) (hx : xs ≠ []) : A.isSome = true := by
  rcases h.or with h0 | ⟨b, o, rfl, _⟩
  · have := h.le
    have : xs.length = 0 := by omega
    exact absurd (List.eq_nil_of_length_eq_zero this) hx
  · rfl
theorem take_arr (hs : SimF G L0 f0 σ0 M E N f σ ρ w) {i : Nat} {e : Ty} {xs : List (den B.T e)} {s nn : Nat} (hM : M (.a i) = some (.arr e xs s nn)) :
    ∃ E2 L2 A n c cur, Once E2 ∧ (∀ x, x ∈ E2 ↔ x ∈ E ∧ x.1 ∉ [i]) ∧ Ents f σ M E2 L2 ∧ σ i = some (.hdr A n c) ∧ σ s = some (.con e xs) ∧ ArrOk f (relB B e) A n c cur xs ∧ (1 ≤ nn → A.isSome = true) ∧ (2 ≤ nn → xs ≠ []) ∧
      Wd G w f (Arr A c cur :: (L2 ++ L0)) := by
  obtain ⟨E1, L1, k1, k2, k3, k4⟩ := hs.ents
  obtain ⟨A, L2, hr, he, hw⟩ := Ents.take (P := []) k1 ((k2 _).2 (hs.arrs i e xs s nn hM)) k3 k4
  obtain ⟨H, n, c, cur, xs', s', nn', h1, rfl, h3, h4, h5, h6, h7⟩ := hr
  rw [hM] at h3
  injection h3 with h3
  injection h3 with e1 e2 e3 e4
  subst e3 e4
  subst e2
  exact ⟨_, L2, H, n, c, cur, k1.delE, fun x => by rw [mem_delE, k2]; simp, he, h1, h4, h5, h6, h7, hw⟩
theorem Once.eq : ∀ {E : List (Nat × EH)} {i : Nat} {h h' : EH}, Once E → (i, h) ∈ E → (i, h') ∈ E → h = h'
  | [], _, _, _, _, h1, _ => by simp at h1
  | x :: E, i, h, h', ho, h1, h2 => by
    unfold Once at ho
    simp only [List.map_cons, List.nodup_cons] at ho
    rcases List.mem_cons.1 h1 with e1 | k1 <;> rcases List.mem_cons.1 h2 with e2 | k2
    · rw [← e1] at e2; injection e2 with _ e2; exact e2.symm
    · subst e1; exact absurd (List.mem_map_of_mem (f := (·.1)) k2) ho.1
    · subst e2; exact absurd (List.mem_map_of_mem (f := (·.1)) k1) ho.1
    · exact Once.eq ho.2 k1 k2
theorem only_one (hs : SimF G L0 f0 σ0 M E N f σ ρ w) {i : Nat} {h h' : EH} (h1 : (i, h) ∈ E) (h2 : (i, h') ∈ E) : h = h' := by
  obtain ⟨E1, L1, k1, k2, k3, k4⟩ := hs.ents
  exact k1.eq ((k2 _).2 h1) ((k2 _).2 h2)
theorem only_arr (hs : SimF G L0 f0 σ0 M E N f σ ρ w) {i : Nat} {e : Ty} {xs : List (den B.T e)} {s nn : Nat} (hM : M (.a i) = some (.arr e xs s nn)) : (∃ e, (i, EH.arr e) ∈ E) ∧ ∀ h, (i, h) ∈ E → ∃ e, h = EH.arr e :=
  ⟨⟨e, hs.arrs i e xs s nn hM⟩, fun h hi => ⟨e, only_one hs hi (hs.arrs i e xs s nn hM)⟩⟩
theorem take_grid (hs : SimF G L0 f0 σ0 M E N f σ ρ w) {i : Nat} {e : Ty} {rows : List (List (den B.T e))} {s h : Nat} {hole : Option Int} {nn : Nat} (hM : M (.a i) = some (.grid e rows s h hole nn)) :
    ∃ E2 L2 A n c cur hs rs, Once E2 ∧ (∀ x, x ∈ E2 ↔ x ∈ E ∧ x.1 ∉ [i]) ∧ Ents f σ M E2 L2 ∧ σ i = some (.hdr A n c) ∧ σ s = some (.con (.sl e) rows) ∧ σ h = some (.hdrs hs) ∧ GridOk f (relB B e) A n c cur hs rs rows (holeP hole) ∧ (1 ≤ nn → A.isSome = true) ∧
      Wd G w f (GridH A c cur hs rs :: (L2 ++ L0)) := by
  obtain ⟨E1, L1, k1, k2, k3, k4⟩ := hs.ents
  obtain ⟨A, L2, hr, he, hw⟩ := Ents.take (P := []) k1 ((k2 _).2 (hs.grds i e rows s h hole nn hM)) k3 k4
  obtain ⟨H, n, c, cur, l, rl, rows', s', k', hole', nn', h1, rfl, h3, h4, h5, h6, h7⟩ := hr
  rw [hM] at h3
  injection h3 with h3
  injection h3 with e1 e2 e3 e4 e5 e6
  subst e2 e3 e4 e5 e6
  exact ⟨_, L2, H, n, c, cur, l, rl, k1.delE, fun x => by rw [mem_delE, k2]; simp, he, h1, h4, h5, h6, h7, hw⟩
theorem only_grid (hs : SimF G L0 f0 σ0 M E N f σ ρ w) {i : Nat} {e : Ty} {rows : List (List (den B.T e))} {s k : Nat} {hole : Option Int} {nn : Nat} (hM : M (.a i) = some (.grid e rows s k hole nn)) : ∀ h, (i, h) ∈ E → h = EH.grid e :=
  fun h hi => only_one hs hi (hs.grds i e rows s k hole nn hM)
theorem take_mp (hs : SimF G L0 f0 σ0 M E N f σ ρ w) {i : Nat} {k v : Ty} {m : List (den B.T k × den B.T v)} (hM : M (.a i) = some (.mp k v m)) (hv : rowT v = none) :
    ∃ E2 L2 r es clk, Once E2 ∧ (∀ x, x ∈ E2 ↔ x ∈ E ∧ x.1 ∉ [i]) ∧ Ents f σ M E2 L2 ∧ σ i = some (.mob r) ∧ MRel f k v es.toList m ∧ Wd G w f (Blk r (.map es clk) :: (L2 ++ L0)) := by
  obtain ⟨E1, L1, k1, k2, k3, k4⟩ := hs.ents
  obtain ⟨A, L2, hr, he, hw⟩ := Ents.take (P := []) k1 ((k2 _).2 (hs.mps i k v m hM)) k3 k4
  rcases hr with ⟨_, r, es, clk, m', h1, rfl, h3, h4⟩ | ⟨e, r, es, clk, hl, rl, h0, _⟩
  · rw [hM] at h3
    injection h3 with h3
    injection h3 with e1 e2 e3
    subst e3
    exact ⟨_, L2, r, es, clk, k1.delE, fun x => by rw [mem_delE, k2]; simp, he, h1, h4, hw⟩
  · subst h0; cases hv
theorem take_mpR (hs : SimF G L0 f0 σ0 M E N f σ ρ w) {i : Nat} {k e : Ty} {m : List (den B.T k × List (den B.T e))} (hM : M (.a i) = some (.mp k (.sl e) m)) :
    ∃ E2 L2 r es clk hl rl, Once E2 ∧ (∀ x, x ∈ E2 ↔ x ∈ E ∧ x.1 ∉ [i]) ∧ Ents f σ M E2 L2 ∧ σ i = some (.mob r) ∧ RowM f σ k e none es.toList hl rl m ∧ Wd G w f (MapH r (.map es clk) hl rl :: (L2 ++ L0)) := by
  obtain ⟨E1, L1, k1, k2, k3, k4⟩ := hs.ents
  obtain ⟨A, L2, hr, he, hw⟩ := Ents.take (P := []) k1 ((k2 _).2 (hs.mps i k (.sl e) m hM)) k3 k4
  rcases hr with ⟨h0, _⟩ | ⟨e', r, es, clk, hl, rl, h0, h1, rfl, h3⟩
  · cases h0
  · injection h0 with h0
    subst h0
    rcases h3 with ⟨m', h3, h4⟩ | ⟨m', key, pd, h3, h4⟩
    · rw [hM] at h3
      injection h3 with h3
      injection h3 with e1 e2 e3
      subst e3
      exact ⟨_, L2, r, es, clk, hl, rl, k1.delE, fun x => by rw [mem_delE, k2]; simp, he, h1, h4, hw⟩
    · rw [hM] at h3; cases h3
theorem take_mph (hs : SimF G L0 f0 σ0 M E N f σ ρ w) {i : Nat} {k e : Ty} {m : List (den B.T k × List (den B.T e))} {key : den B.T k} {pd : Option Nat} (hM : M (.a i) = some (.mph k e m key pd)) :
    ∃ E2 L2 r es clk hl rl, Once E2 ∧ (∀ x, x ∈ E2 ↔ x ∈ E ∧ x.1 ∉ [i]) ∧ Ents f σ M E2 L2 ∧ σ i = some (.mob r) ∧ RowM f σ k e (some (key, pd)) es.toList hl rl m ∧ Wd G w f (MapH r (.map es clk) hl rl :: (L2 ++ L0)) := by
  obtain ⟨E1, L1, k1, k2, k3, k4⟩ := hs.ents
  obtain ⟨A, L2, hr, he, hw⟩ := Ents.take (P := []) k1 ((k2 _).2 (hs.mphs i k e m key pd hM)) k3 k4
  rcases hr with ⟨h0, _⟩ | ⟨e', r, es, clk, hl, rl, h0, h1, rfl, h3⟩
  · cases h0
  · injection h0 with h0
    subst h0
    rcases h3 with ⟨m', h3, h4⟩ | ⟨m', key', pd', h3, h4⟩
    · rw [hM] at h3; cases h3
    · rw [hM] at h3
      injection h3 with h3
      injection h3 with e1 e2 e3 e4 e5
      subst e3 e4 e5
      exact ⟨_, L2, r, es, clk, hl, rl, k1.delE, fun x => by rw [mem_delE, k2]; simp, he, h1, h4, hw⟩
theorem mp_some (hs : SimF G L0 f0 σ0 M E N f σ ρ w) {i : Nat} {k v : Ty} {m : List (den B.T k × den B.T v)} (hM : M (.a i) = some (.mp k v m)) : σ i ≠ none := ents_some hs (hs.mps i k v m hM)
theorem mph_some (hs : SimF G L0 f0 σ0 M E N f σ ρ w) {i : Nat} {k e : Ty} {m : List (den B.T k × List (den B.T e))} {key : den B.T k} {pd : Option Nat} (hM : M (.a i) = some (.mph k e m key pd)) : σ i ≠ none := ents_some hs (hs.mphs i k e m key pd hM)
theorem repl_arr (hs : SimF G L0 f0 σ0 M E N f σ ρ w) (hb : ∀ j, base ≤ j → j < base + stepV → ¬ N j) {i : Nat} {e0 : Ty} {zs : List (den B.T e0)} {s m : Nat} (hM : M (.a i) = some (.arr e0 zs s m)) {E2 : List (Nat × EH)} {L2 : List HProp}
    {A : Option Addr} {n c nn : Nat} {cur : Array Value} {e : Ty} {xs : List (den B.T e)} {w' : World} (ho : Once E2) (hm : ∀ x, x ∈ E2 ↔ x ∈ E ∧ x.1 ∉ [i]) (he : Ents f σ M E2 L2) (hw : Wd G w' f (Arr A c cur :: (L2 ++ L0)))
    (hok : ArrOk f (relB B e) A n c cur xs) (h1 : 1 ≤ nn → A.isSome = true) (h2 : 2 ≤ nn → xs ≠ []) :
    Goal G L0 f0 σ0 M E N base f σ ρ ⟨some (.one (.own base)), [(.a base, .arr e xs (base + 1) nn), (.a i, .gone)], [(base, .arr e)], [i]⟩ (some (.slice A n c)) w' := by
  refine build_arr hs hb (upr := [(.a i, .gone)]) (del := [i]) (fun l q hl => ?_) (fun j hj => ?_) ho hm he hw hok h1 h2
  · by_cases hli : (Loc.a i) = l
    · subst hli
      rw [look_cons_self] at hl
      injection hl with hl; subst hl
      exact ⟨rfl, i, rfl, by simp⟩
    · rw [look_cons_ne hli] at hl; cases hl
  · have : j = i := by simpa using hj
    subst this
    exact ⟨by rw [look_cons_self]; simp, only_arr hs hM⟩
theorem make_does (htt : ttOk P tt = true) (hs : SimF G L0 f0 σ0 M E N f σ ρ w) (hb : ∀ j, base ≤ j → j < base + stepV → ¬ N j) {t : TypeId} {l c : Operand} (h : (opProg tt base (.makeSlice t l c)).Ran M out rs) :
    Does P ⟨dst, .makeSlice t l c, ty, pos, after, guard⟩ ρ w (Goal G L0 f0 σ0 M E N base f σ ρ out) := by
  obtain ⟨cl, rs', hl, h⟩ := opd1_ran hs h
  obtain ⟨cc, rs', hc, h⟩ := opd1_ran hs h
  obtain ⟨⟨te, e⟩, h1, h⟩ := opt_ran h
  obtain ⟨z, hz, h⟩ := opt_ran h
  obtain ⟨⟨kl, nl⟩, h2, h⟩ := opt_ran h
  obtain ⟨⟨kc, nc⟩, h3, h⟩ := opt_ran h
  obtain ⟨hk, h⟩ := chk_ran h
  simp only [Bool.and_eq_true, decide_eq_true_eq] at hk
  obtain ⟨rfl, rfl⟩ := hk
  obtain ⟨et, fe⟩ := elTy_ok htt h1
  obtain ⟨zv, z1, z2, z3⟩ := fe.zero
  have hzr : (relB B e).p f zv.cells.toList z := dataOf_ok (σ := σ) hz (celsAre_rel z2).1
  have el := asI_rel h2 hl
  have ec := asI_rel h3 hc
  have key : ∀ (rs'' : List Loc), (RM.bind (gmakec te.bytes nl nc z) fun xs => RM.ret ⟨some (.one (.own base)), [(.a base, .arr e xs (base + 1) 1)], [(base, .arr e)], []⟩ : RM B (Out B)).Ran M out rs'' →
      Does P ⟨dst, .makeSlice t l c, ty, pos, after, guard⟩ ρ w (Goal G L0 f0 σ0 M E N base f σ ρ out) := by
    intro rs'' h
    obtain ⟨xs, hx, h⟩ := bind_ran h
    obtain rfl := ret_ran h
    refine new_arr hs hb (fun h => by omega) fun L hw => ?_
    obtain ⟨w', v, k1, A, n, c', cur, rfl, k2, k3, k4⟩ := run_arrMakeC fe.elem fe.size fe.bytes z1 hzr el ec hx hw
    exact ⟨w', _, k1, A, n, c', cur, rfl, k2, fun _ => k4, k3⟩
  cases hab : sameOp l c with
  | true =>
    rw [hab] at h
    have hlc : ev ρ l = ev ρ c := by
      unfold sameOp at hab
      split at hab
      · rw [Nat.eq_of_beq_eq_true hab]
      · cases hab
    rw [← hlc, el] at ec
    injection ec with _ ec
    subst ec
    obtain ⟨xs, hx, h⟩ := bind_ran h
    obtain rfl := ret_ran h
    refine new_arr hs hb (fun h => by omega) fun L hw => ?_
    obtain ⟨w', v, k1, A, n, c', cur, rfl, k2, k3, k4⟩ := run_arrMake fe.elem fe.size fe.bytes z1 hzr el (hlc.symm.trans el) hx hw
    exact ⟨w', _, k1, A, n, c', cur, rfl, k2, fun _ => k4, k3⟩
  | false => rw [hab] at h; exact key _ h
end
end Hd
set_option linter.unusedVariables false
set_option linter.unusedSimpArgs false
namespace Hd
open Go Hk
section
variable {B : Tab} {P : Program} {tt : List (TI B)} {M : Loc → Option (Con B)} {G w : World} {L0 : List HProp} {f0 f : HP} {σ0 σ : Rz B} {E : List (Nat × EH)} {N : Nat → Prop} {ρ : Env}
variable {base : Nat} {dst : Option Tmp} {ty : TypeId} {pos : String} {after : Array Edge} {guard : Option (Nat × Bool)} {out : Out B} {rs : List Loc} {ρr : Type} {o : ρr}
abbrev SimO (G : World) (L0 : List HProp) (f0 : HP) (σ0 : Rz B) (M : Loc → Option (Con B)) (E : List (Nat × EH)) (N : Nat → Prop) (f : HP) (σ : Rz B) (ρ : Env) (w : World) (ov : Ov B) : Prop :=
  SimF G L0 f0 σ0 (ovl ov.up M) (delsE (ov.add ++ E) ov.del) N f σ ρ w
theorem simO_nil {n : Nat} {mu : List (Nat × Nat)} (hs : SimF G L0 f0 σ0 M E N f σ ρ w) : SimO G L0 f0 σ0 M E N f σ ρ w ⟨[], [], [], n, mu⟩ := hs
structure FzS (M : Loc → Option (Con B)) (σ : Rz B) (ov ov' : Ov B) : Prop where
  dl : ∀ j, j ∈ ov'.del → j ∈ ov.del ∨ σ j ≠ none
  del : ∀ i, i ∈ ov.del → i ∈ ov'.del
  keep : ∀ l c, ovl ov.up M l = some c → ovl ov'.up M l = some c ∨ ∃ i, i ∈ ov'.del ∧ l = .a i
  fzk : ∀ i e xs nn, ovl ov.up M (.a i) = some (.fz e xs nn) → ovl ov'.up M (.a i) = some (.fz e xs nn)
theorem FzS.refl (M : Loc → Option (Con B)) (σ : Rz B) (ov : Ov B) : FzS M σ ov ov := ⟨fun j hj => .inl hj, fun _ h => h, fun _ _ h => .inl h, fun _ _ _ _ h => h⟩
theorem FzS.trans {ov1 ov2 ov3 : Ov B} (a : FzS M σ ov1 ov2) (b : FzS M σ ov2 ov3) : FzS M σ ov1 ov3 :=
  ⟨fun j hj => (b.dl j hj).elim (a.dl j) .inr, fun i h => b.del i (a.del i h), fun l c h => (a.keep l c h).elim (fun h => b.keep l c h) (fun ⟨i, h1, h2⟩ => .inr ⟨i, b.del i h1, h2⟩), fun i e xs nn h => b.fzk i e xs nn (a.fzk i e xs nn h)⟩
theorem frzA_ran {ov : Ov B} (hs : SimO G L0 f0 σ0 M E N f σ ρ w ov) {i : Nat} {k : (e : Ty) → List (den B.T e) → Nat → Ov B → RM B ρr} (h : (frzA ov i k).Ran M o rs) :
    ∃ e xs nn ov' f' rs', HP.le f f' ∧ SimO G L0 f0 σ0 M E N f' σ ρ w ov' ∧ ov'.add = ov.add ∧ ov'.nx = ov.nx ∧ ov'.mu = ov.mu ∧ (k e xs nn ov').Ran M o rs' ∧ (FzS M σ ov ov' ∧ ovl ov'.up M (.a i) = some (.fz e xs nn)) ∧ ∃ A n c, σ i = some (.hdr A n c) ∧ SlF f' (relB B e) A n c xs ∧ (1 ≤ nn → A.isSome = true) := by
  obtain ⟨rs', h⟩ := rdo_ran h
  cases hM : ovl ov.up M (.a i) with
  | none => rw [hM] at h; exact h.elim
  | some q =>
    rw [hM] at h
    cases q <;> try exact h.elim
    case fz e xs nn =>
      obtain ⟨A, n, c, h1, h2, h3⟩ := hs.fzs i e xs nn hM
      exact ⟨e, xs, nn, ov, f, rs', HP.le_refl _, hs, rfl, rfl, rfl, (show RM.Ran M (k e xs nn ov) o rs' from h), ⟨FzS.refl _ _ _, hM⟩, A, n, c, h1, h2, h3⟩
    case arr e xs s nn =>
      obtain ⟨E2, L2, A, n, c, cur, k1, k2, k3, k4, k5, k6, k7, k8, k9⟩ := take_arr hs hM
      obtain ⟨f', hl, hsl, hw'⟩ := arr_freeze k6 k9
      refine ⟨e, xs, nn, ⟨(.a i, .fz e xs nn) :: ov.up, ov.add, i :: ov.del, ov.nx, ov.mu⟩, f', rs', hl, ?_, rfl, rfl, rfl, h, ⟨⟨fun j hj => (List.mem_cons.1 hj).elim (fun e => .inr (by rw [e, k4]; simp)) .inl, fun j hj => List.mem_cons_of_mem _ hj, fun l c hl => ?_, fun j e' xs' nn' hj => ?_⟩, ovl_some (look_cons_self _ _ _)⟩, A, n, c, k4, hsl, k7⟩
      rotate_left
      · by_cases hli : Loc.a i = l
        · exact .inr ⟨i, by simp, hli.symm⟩
        · left
          rw [show ((Loc.a i, Con.fz e xs nn) :: ov.up) = [(Loc.a i, Con.fz e xs nn)] ++ ov.up from rfl, ovl_app, ovl_none (by rw [look_cons_ne hli]; rfl)]
          exact hl
      · have hne : Loc.a i ≠ Loc.a j := fun e => by injection e with e; subst e; rw [hM] at hj; injection hj with hj; cases hj
        rw [show ((Loc.a i, Con.fz e xs nn) :: ov.up) = [(Loc.a i, Con.fz e xs nn)] ++ ov.up from rfl, ovl_app, ovl_none (by rw [look_cons_ne hne]; rfl)]
        exact hj
      have hup : ∀ l q, look [(Loc.a i, Con.fz e xs nn)] l = some q → l = .a i ∧ q = .fz e xs nn := fun l q hl => by
        by_cases hli : Loc.a i = l
        · subst hli; rw [look_cons_self] at hl; injection hl with hl; exact ⟨rfl, hl.symm⟩
        · rw [look_cons_ne hli] at hl; cases hl
      have hne : ∀ l, l ≠ .a i → look [(Loc.a i, Con.fz e xs nn)] l = none := fun l hl => by
        cases hq : look [(Loc.a i, Con.fz e xs nn)] l with
        | none => rfl
        | some q => exact absurd (hup l q hq).1 hl
      have hres : SimF G L0 f0 σ0 (ovl [(Loc.a i, Con.fz e xs nn)] (ovl ov.up M)) (delsE (ov.add ++ E) (i :: ov.del)) N f' σ ρ w := by
        have hmem : ∀ x, x ∈ delsE (ov.add ++ E) (i :: ov.del) ↔ x ∈ delsE (ov.add ++ E) ov.del ∧ x.1 ≠ i := fun x => by
          simp only [mem_delsE, List.mem_cons, not_or]
          constructor
          · rintro ⟨a, b, c⟩; exact ⟨⟨a, c⟩, b⟩
          · rintro ⟨⟨a, c⟩, b⟩; exact ⟨a, b, c⟩
        refine hs.updS hl (Rz.le_refl _) hs.fresh (fun l q hq => ?_) (fun j h' hj => ?_) ⟨E2, L2, k1, fun x => by rw [k2, hmem]; simp, Ents.mono hl (Rz.le_refl _) (fun j h' hj => ?_) k3, hw'⟩
        · obtain ⟨rfl, rfl⟩ := hup l q hq
          exact ⟨A, n, c, k4, hsl, k7⟩
        · by_cases hji : j = i
          · subst hji
            right
            obtain ⟨e', rfl⟩ := (only_arr hs hM).2 h' hj
            rw [show keyE j (EH.arr e') = Loc.a j from rfl, look_cons_self]; simp
          · exact .inl ((hmem _).2 ⟨hj, hji⟩)
        · have hji : j ≠ i := by have := ((k2 _).1 hj).2; simpa using this
          cases h' with
          | arr e' => exact hne _ (by simpa using hji)
          | grid e' => exact hne _ (by simpa using hji)
          | mp _ _ => exact hne _ (by simpa using hji)
          | blk t m => exact ⟨hne _ (by simp), fun j' => hne _ (by simp)⟩
      rw [← ovl_app] at hres
      exact hres
    case grid e xs s hh hole nn =>
      cases hole with
      | some j => exact h.elim
      | none =>
      obtain ⟨E2, L2, A, n, c, cur, hdl, rl, k1, k2, k3, k4, k5, k5', k6, k7, k9⟩ := take_grid hs hM
      obtain ⟨f', hl, hsl, hw'⟩ := grid_freeze k6 k9
      refine ⟨.sl e, xs, nn, ⟨(.a i, .fz (.sl e) xs nn) :: ov.up, ov.add, i :: ov.del, ov.nx, ov.mu⟩, f', rs', hl, ?_, rfl, rfl, rfl, h, ⟨⟨fun j hj => (List.mem_cons.1 hj).elim (fun e => .inr (by rw [e, k4]; simp)) .inl, fun j hj => List.mem_cons_of_mem _ hj, fun l c hl => ?_, fun j e' xs' nn' hj => ?_⟩, ovl_some (look_cons_self _ _ _)⟩, A, n, c, k4, hsl, k7⟩
      rotate_left
      · by_cases hli : Loc.a i = l
        · exact .inr ⟨i, by simp, hli.symm⟩
        · left
          rw [show ((Loc.a i, Con.fz (.sl e) xs nn) :: ov.up) = [(Loc.a i, Con.fz (.sl e) xs nn)] ++ ov.up from rfl, ovl_app, ovl_none (by rw [look_cons_ne hli]; rfl)]
          exact hl
      · have hne : Loc.a i ≠ Loc.a j := fun e => by injection e with e; subst e; rw [hM] at hj; injection hj with hj; cases hj
        rw [show ((Loc.a i, Con.fz (.sl e) xs nn) :: ov.up) = [(Loc.a i, Con.fz (.sl e) xs nn)] ++ ov.up from rfl, ovl_app, ovl_none (by rw [look_cons_ne hne]; rfl)]
        exact hj
      have hup : ∀ l q, look [(Loc.a i, Con.fz (.sl e) xs nn)] l = some q → l = .a i ∧ q = .fz (.sl e) xs nn := fun l q hl => by
        by_cases hli : Loc.a i = l
        · subst hli; rw [look_cons_self] at hl; injection hl with hl; exact ⟨rfl, hl.symm⟩
        · rw [look_cons_ne hli] at hl; cases hl
      have hne : ∀ l, l ≠ .a i → look [(Loc.a i, Con.fz (.sl e) xs nn)] l = none := fun l hl => by
        cases hq : look [(Loc.a i, Con.fz (.sl e) xs nn)] l with
        | none => rfl
        | some q => exact absurd (hup l q hq).1 hl
      have hres : SimF G L0 f0 σ0 (ovl [(Loc.a i, Con.fz (.sl e) xs nn)] (ovl ov.up M)) (delsE (ov.add ++ E) (i :: ov.del)) N f' σ ρ w := by
        have hmem : ∀ x, x ∈ delsE (ov.add ++ E) (i :: ov.del) ↔ x ∈ delsE (ov.add ++ E) ov.del ∧ x.1 ≠ i := fun x => by
          simp only [mem_delsE, List.mem_cons, not_or]
          constructor
          · rintro ⟨a, b, c⟩; exact ⟨⟨a, c⟩, b⟩
          · rintro ⟨⟨a, c⟩, b⟩; exact ⟨a, b, c⟩
        refine hs.updS hl (Rz.le_refl _) hs.fresh (fun l q hq => ?_) (fun j h' hj => ?_) ⟨E2, L2, k1, fun x => by rw [k2, hmem]; simp, Ents.mono hl (Rz.le_refl _) (fun j h' hj => ?_) k3, hw'⟩
        · obtain ⟨rfl, rfl⟩ := hup l q hq
          exact ⟨A, n, c, k4, hsl, k7⟩
        · by_cases hji : j = i
          · subst hji
            right
            obtain rfl := only_grid hs hM h' hj
            rw [show keyE j (EH.grid e) = Loc.a j from rfl, look_cons_self]; simp
          · exact .inl ((hmem _).2 ⟨hj, hji⟩)
        · have hji : j ≠ i := by have := ((k2 _).1 hj).2; simpa using this
          cases h' with
          | arr e' => exact hne _ (by simpa using hji)
          | grid e' => exact hne _ (by simpa using hji)
          | mp _ _ => exact hne _ (by simpa using hji)
          | blk t m => exact ⟨hne _ (by simp), fun j' => hne _ (by simp)⟩
      rw [← ovl_app] at hres
      exact hres
theorem dataC_ran : ∀ {cs : List (Cel B)} {ov : Ov B} {f : HP} {k : List (Cel B) → Ov B → RM B ρr} {vs : List Value} {rs : List Loc}, SimO G L0 f0 σ0 M E N f σ ρ w ov → CRels f σ cs vs → (dataC ov cs k).Ran M o rs →
    ∃ cs' ov' f' rs', HP.le f f' ∧ SimO G L0 f0 σ0 M E N f' σ ρ w ov' ∧ ov'.add = ov.add ∧ ov'.nx = ov.nx ∧ ov'.mu = ov.mu ∧ CRels f' σ cs' vs ∧ FzS M σ ov ov' ∧ (k cs' ov').Ran M o rs'
  | [], ov, f, k, [], rs, hs, _, h => ⟨[], ov, f, rs, HP.le_refl _, hs, rfl, rfl, rfl, trivial, FzS.refl _ _ _, h⟩
  | c :: cs, ov, f, k, v :: vs, rs, hs, ⟨h1, h2⟩, h => by
    have other : ∀ c', CRel f σ c' v → ∀ rs, (dataC ov cs fun cs' ov => k (c' :: cs') ov).Ran M o rs → ∃ cs' ov' f' rs', HP.le f f' ∧ SimO G L0 f0 σ0 M E N f' σ ρ w ov' ∧ ov'.add = ov.add ∧ ov'.nx = ov.nx ∧ ov'.mu = ov.mu ∧ CRels f' σ cs' (v :: vs) ∧ FzS M σ ov ov' ∧ (k cs' ov').Ran M o rs' := by
      intro c' hc' rs h
      obtain ⟨cs', ov', f', rs', k1, k2, k3, k4, k5, k6, kd, k7⟩ := dataC_ran hs h2 h
      exact ⟨c' :: cs', ov', f', rs', k1, k2, k3, k4, k5, ⟨hc'.mono k1 (Rz.le_refl _), k6⟩, kd, k7⟩
    cases c with
    | own i =>
      obtain ⟨e, xs, nn, ov1, f1, rs1, q1, q2, q3, q4, q5, h, qd, A, n, c, q6, q7, q8⟩ := frzA_ran hs h
      obtain ⟨A', n', c', r1, rfl⟩ := h1
      rw [q6] at r1
      injection r1 with r1
      injection r1 with e1 e2 e3
      subst e1 e2 e3
      obtain ⟨cs', ov', f', rs', k1, k2, k3, k4, k5, k6, kd, k7⟩ := dataC_ran q2 (h2.mono q1 (Rz.le_refl _)) h
      refine ⟨slC e xs nn :: cs', ov', f', rs', HP.le_trans q1 k1, k2, k3.trans q3, k4.trans q4, k5.trans q5, ⟨?_, k6⟩, qd.1.trans kd, k7⟩
      cases nn with
      | zero => exact ⟨A, n, c, rfl, q7.mono k1⟩
      | succ m =>
        cases A with
        | none => have := q8 (by omega); cases this
        | some a => exact ⟨a, n, c, rfl, q7.mono k1⟩
    | ob i b =>
      obtain ⟨e, xs, nn, ov1, f1, rs1, q1, q2, q3, q4, q5, h, qd, A, n, c, q6, q7, q8⟩ := frzA_ran hs h
      obtain ⟨A', n', c', r1, rfl, r2⟩ := h1
      rw [q6] at r1
      injection r1 with r1
      injection r1 with e1 e2 e3
      subst e1 e2 e3
      obtain ⟨cs', ov', f', rs', k1, k2, k3, k4, k5, k6, kd, k7⟩ := dataC_ran q2 (h2.mono q1 (Rz.le_refl _)) h
      exact ⟨.nsl e (cond b none (some xs)) :: cs', ov', f', rs', HP.le_trans q1 k1, k2, k3.trans q3, k4.trans q4, k5.trans q5, ⟨nslB (q7.mono k1) r2, k6⟩, qd.1.trans kd, k7⟩
    | pa i off =>
      unfold dataC at h
      split at h
      · obtain ⟨e, xs, nn, ov1, f1, rs1, q1, q2, q3, q4, q5, h, qd, A, n, c, q6, q7, q8⟩ := frzA_ran hs h
        obtain ⟨b, o', n', c', r1, rfl, r2⟩ := h1
        rw [q6] at r1
        injection r1 with r1
        injection r1 with e1 e2 e3
        subst e1 e2 e3
        obtain ⟨cs', ov', f', rs', k1, k2, k3, k4, k5, k6, kd, k7⟩ := dataC_ran q2 (h2.mono q1 (Rz.le_refl _)) h
        exact ⟨.ap e (some xs) :: cs', ov', f', rs', HP.le_trans q1 k1, k2, k3.trans q3, k4.trans q4, k5.trans q5, ⟨⟨b, o', rfl, slF_tight (q7.mono k1)⟩, k6⟩, qd.1.trans kd, k7⟩
      · exact h.elim
    | pw i e0 l z =>
      obtain ⟨e, xs, nn, ov1, f1, rs1, q1, q2, q3, q4, q5, h, qd, A, n, c, q6, q7, q8⟩ := frzA_ran hs h
      obtain ⟨hq, h3⟩ := chk_ran h
      clear h
      have hq := Ty.eqb_eq hq
      subst hq
      obtain ⟨r, hr, h⟩ := bind_ran h3
      obtain ⟨b, o', n', c', r1, rfl⟩ := h1
      rw [q6] at r1
      injection r1 with r1
      injection r1 with e1 e2 e3
      subst e1 e2 e3
      obtain ⟨cs', ov', f', rs', k1, k2, k3, k4, k5, k6, kd, k7⟩ := dataC_ran q2 (h2.mono q1 (Rz.le_refl _)) h
      have ht := slF_tight (q7.mono k1)
      rw [← q7.len] at ht
      exact ⟨.sl e r :: cs', ov', f', rs', HP.le_trans q1 k1, k2, k3.trans q3, k4.trans q4, k5.trans q5, ⟨⟨_, _, _, rfl, slf_cut ht hr⟩, k6⟩, qd.1.trans kd, k7⟩
    | ptr i off =>
      cases off with
      | zero =>
        obtain ⟨rs1, h⟩ := rdo_ran h
        cases hM : ovl ov.up M (.b i) with
        | none => rw [hM] at h; exact h.elim
        | some q =>
          rw [hM] at h
          cases q <;> try exact h.elim
          rename_i e x
          obtain ⟨b, ds, ty, fr, r1, r2, r3⟩ := hs.fzbs i e x hM
          obtain ⟨b', r4, rfl⟩ := h1
          rw [r1] at r4
          injection r4 with r4
          injection r4 with r4
          subst r4
          exact other (.fpt e x) ⟨b, ds, ty, fr, rfl, r2, r3⟩ _ h
      | succ n => exact other _ h1 _ h
    | _ => exact other _ h1 _ h
  | [], _, _, _, _ :: _, _, _, hc, _ => hc.elim
  | _ :: _, _, _, _, [], _, _, hc, _ => hc.elim
theorem gapp_ne {α : Type} {bytes : Nat} {zs ws r : List α} (hr : gapp bytes zs ws = some r) (h : zs ≠ [] ∨ ws ≠ []) : r ≠ [] := by
  obtain ⟨rfl, _⟩ := gapp_spec hr
  simp only [ne_eq, List.append_eq_nil_iff, not_and]
  intro h1 h2
  exact h.elim (fun h => h h1) (fun h => h h2)
theorem two_spec {nw nn : Nat} (h : 2 ≤ two nw nn) : nw = 2 ∨ nn = 2 := by
  unfold two at h
  split at h
  · exact .inl rfl
  · exact .inr rfl
  · omega
  · omega
theorem two_one {nw nn : Nat} (h : 1 ≤ two nw nn) : nw = 2 ∨ 1 ≤ nn := by
  unfold two at h
  split at h
  · exact .inl rfl
  · exact .inr (by omega)
  · omega
  · rename_i h1 h2 h3
    exact .inr (by cases nn <;> simp_all)
theorem app_same {t et : TypeId} {x y : Operand} {sz bytes : Nat} (hT : ApTy P t et sz bytes) {A A' Bq : Option Addr} {n c n' c' cb : Nat} {w' : World} (hxv : ev ρ x = .slice A n c) (hyv : ev ρ y = .slice Bq 0 cb) (hnc : n ≤ c)
    (k1 : (execOp (ev ρ) ⟨dst, .call { callee := .builtin .append, args := #[x, y], argTypes := #[t, t] }, ty, pos, after, guard⟩).run P w = .ok (.value (.slice A' n' c')) w') : A' = A := by
  obtain ⟨i, hi, hisz⟩ := tySize_spec hT.size
  have ht := tyElem_spec hT.elem
  have := run_append_op (P := P) (w := w) (dst := dst) (ty := ty) (t := t) (pos := pos) (after := after) (guard := guard) hxv hyv (run_append_zero (w := w) t ty et i ht hi A Bq n c cb hnc)
  rw [this] at k1
  injection k1 with k1
  injection k1 with k1
  injection k1 with k1
  exact k1.symm
theorem appFin_does (hs : SimF G L0 f0 σ0 M E N f σ ρ w) (hb : ∀ j, base ≤ j → j < base + stepV → ¬ N j) {op : Oper} {e : Ty} {i : Option Nat} {r : List (den B.T e)} {nn : Nat} {E2 : List (Nat × EH)} {L2 : List HProp} {A : Option Addr} {n c : Nat} {cur : Array Value} {w' : World}
    (hMi : ∀ j, i = some j → ∃ zs' s m, M (.a j) = some (.arr e zs' s m)) (ho : Once E2) (hm : ∀ x, x ∈ E2 ↔ x ∈ E ∧ x.1 ∉ i.toList) (he : Ents f σ M E2 L2)
    (hr : (execOp (ev ρ) op).run P w = .ok (.value (.slice A n c)) w') (hok : ArrOk f (relB B e) A n c cur r) (hw : Wd G w' f (Arr A c cur :: (L2 ++ L0))) (hsome : 1 ≤ nn → A.isSome = true) (hne : 2 ≤ nn → r ≠ []) :
    Does P op ρ w (Goal G L0 f0 σ0 M E N base f σ ρ (appOut base e i r nn)) := by
  cases i with
  | some j =>
    obtain ⟨zs', s, m, hM⟩ := hMi j rfl
    exact .inl ⟨_, w', hr, repl_arr hs hb hM ho hm he hw hok hsome hne⟩
  | none => exact .inl ⟨_, w', hr, build_arr hs hb (upr := []) (del := []) (fun l q h => by simp [look] at h) (fun i h => by simp at h) ho hm he hw hok hsome hne⟩
theorem appSnd_does (hs : SimF G L0 f0 σ0 M E N f σ ρ w) (hb : ∀ j, base ≤ j → j < base + stepV → ¬ N j) {t et : TypeId} {x y : Operand} {cy : Cel B} (hy : CRel f σ cy (ev ρ y)) {bytes : Nat} {e : Ty} (hT : ApTy P t et (relB B e).n bytes)
    {i : Option Nat} {zs : List (den B.T e)} {nn : Nat} {E2 : List (Nat × EH)} {L2 : List HProp} {A : Option Addr} {n c : Nat} {cur : Array Value}
    (ho : Once E2) (hm : ∀ x, x ∈ E2 ↔ x ∈ E ∧ x.1 ∉ i.toList) (he : Ents f σ M E2 L2) (hw : Wd G w f (Arr A c cur :: (L2 ++ L0))) (hok : ArrOk f (relB B e) A n c cur zs) (hxv : ev ρ x = .slice A n c) (hn1 : 1 ≤ nn → A.isSome = true) (hn2 : 2 ≤ nn → zs ≠ [])
    (hMi : ∀ j, i = some j → ∃ zs' s m, M (.a j) = some (.arr e zs' s m)) (h : (appSnd bytes base e i zs nn cy).Ran M out rs) :
    Does P ⟨dst, .call { callee := .builtin .append, args := #[x, y], argTypes := #[t, t] }, ty, pos, after, guard⟩ ρ w (Goal G L0 f0 σ0 M E N base f σ ρ out) := by
  have some1 : ∀ {ws : List (den B.T e)} {Bq A' : Option Addr} {nb cb n' c' nw : Nat} {cur' : Array Value} {w' : World} {r : List (den B.T e)}, ev ρ y = .slice Bq nb cb → nb = ws.length → (nw = 2 → ws ≠ []) → gapp bytes zs ws = some r →
      (execOp (ev ρ) ⟨dst, .call { callee := .builtin .append, args := #[x, y], argTypes := #[t, t] }, ty, pos, after, guard⟩).run P w = .ok (.value (.slice A' n' c')) w' → ArrOk f (relB B e) A' n' c' cur' r → 1 ≤ two nw nn → A'.isSome = true := by
    intro ws Bq A' nb cb n' c' nw cur' w' r hyv hl hq hr k1 k2 hn
    by_cases hr0 : r = []
    · obtain ⟨h1, _⟩ := gapp_spec hr
      have h1 := h1.symm.trans hr0
      rw [List.append_eq_nil_iff] at h1
      rcases two_one hn with h | h
      · exact absurd h1.2 (hq h)
      · rw [h1.2] at hl
        have hl : nb = 0 := hl
        subst hl
        rw [app_same hT hxv hyv (by have := hok.len; have := hok.le; omega) k1]
        exact hn1 h
    · exact arr_isSome k2 hr0
  have frozen : ∀ (ws : List (den B.T e)) (Bq : Option Addr) (nb cb : Nat) (rs : List Loc), ev ρ y = .slice Bq nb cb → SlF f (relB B e) Bq nb cb ws → (appFin bytes base e i zs nn ws 0).Ran M out rs →
      Does P ⟨dst, .call { callee := .builtin .append, args := #[x, y], argTypes := #[t, t] }, ty, pos, after, guard⟩ ρ w (Goal G L0 f0 σ0 M E N base f σ ρ out) := by
    intro ws Bq nb cb rs hyv hsl h
    obtain ⟨r, hr, h⟩ := bind_ran h
    obtain rfl := ret_ran h
    obtain ⟨w', v, k1, A', n', c', cur', rfl, k2, k3⟩ := run_arrAppF hT hw hok hxv hyv hsl.len hsl hr
    refine appFin_does hs hb hMi ho hm he k1 k2 k3 (fun hn => some1 (nw := 0) hyv hsl.len (fun h => by omega) hr k1 k2 hn) fun hn => gapp_ne hr ?_
    rcases two_spec hn with h | h
    · omega
    · exact .inl (hn2 (by omega))
  unfold appSnd at h
  cases cy <;> try exact h.elim
  case sl e' ws =>
    obtain ⟨ws', hc, h2⟩ := opt_ran h
    clear h
    obtain ⟨rfl, rfl⟩ := castSl hc
    obtain ⟨Bq, nb, cb, hv, hsl⟩ := hy
    exact frozen _ Bq nb cb _ hv hsl h2
  case nsl e' x =>
    obtain ⟨ws', hc, h2⟩ := opt_ran h
    clear h
    obtain ⟨rfl, rfl⟩ := castSl hc
    cases x with
    | none =>
      obtain ⟨cb, hv, hm⟩ := hy
      simp only [List.cons.injEq, and_true] at hv
      exact frozen [] none 0 cb _ hv (slF_nilc _ _ hm) h2
    | some ws =>
      obtain ⟨a, nb, cb, hv, hsl⟩ := hy
      simp only [List.cons.injEq, and_true] at hv
      exact frozen _ (some a) nb cb _ hv hsl h2
  case nils => exact frozen [] none 0 0 _ hy (SlF.nil _ _) h
  case own j =>
    obtain ⟨hij, h⟩ := chk_ran h
    obtain ⟨rs', h⟩ := read_ran h
    cases hM : M (.a j) with
    | none => rw [hM] at h; exact h.elim
    | some q =>
      rw [hM] at h
      cases q <;> try exact h.elim
      rename_i e' ws s nw
      obtain ⟨ws', hc, h2⟩ := opt_ran h
      clear h
      obtain ⟨rfl, rfl⟩ := castSl hc
      obtain ⟨r, hr, h3⟩ := bind_ran h2
      clear h2
      obtain rfl := ret_ran h3
      have hjE : (j, EH.arr e') ∈ E2 := (hm _).2 ⟨hs.arrs j e' _ s nw hM, by
        cases i with
        | none => simp
        | some i =>
          intro hmem
          have : j = i := by simpa using hmem
          subst this
          simp [notI] at hij⟩
      have hw2 : Wd G w f ([Arr A c cur] ++ (L2 ++ L0)) := hw
      obtain ⟨Aj, L3, hrj, he3, hw3⟩ := Ents.take (P := [Arr A c cur]) ho hjE he hw2
      obtain ⟨H, nj, cj, curj, xs', s', nn', q1, rfl, q3, q4, q5, q6, q7⟩ := hrj
      rw [hM] at q3
      injection q3 with q3
      injection q3 with _ e2 e3 e4
      subst e2 e3 e4
      obtain ⟨H', n', c', r1, hyv⟩ := hy
      rw [q1] at r1
      injection r1 with r1
      injection r1 with a1 a2 a3
      subst a1 a2 a3
      have hw4 : Wd G w f (Arr A c cur :: Arr H cj curj :: (L3 ++ L0)) := hw3.swap
      obtain ⟨w', v, k1, A', n', c', cur', rfl, k2, k3⟩ := run_arrAppA hT hw4 hok hxv hyv q5 hr
      have hone : Once ((j, EH.arr e') :: delE E2 j) := (ho.delE).cons fun k hk => (mem_delE.1 hk).2 rfl
      refine appFin_does hs hb hMi (E2 := (j, EH.arr e') :: delE E2 j) (L2 := Arr H cj curj :: L3) hone (fun z => ?_) ⟨⟨H, nj, cj, curj, _, s, nw, q1, rfl, hM, q4, q5, q6, q7⟩, he3⟩ k1 k2 k3 (fun hn => some1 hyv q5.len (fun h => q7 (by omega)) hr k1 k2 hn) fun hn => gapp_ne hr ?_
      · rw [List.mem_cons, mem_delE, hm]
        constructor
        · rintro (rfl | ⟨h, _⟩)
          · exact (hm _).1 hjE
          · exact h
        · intro h
          by_cases hz : z.1 = j
          · left
            have := ho.eq ((hm (j, z.2)).2 (by rw [← hz]; exact h)) hjE
            rw [← this, ← hz]
          · exact .inr ⟨h, hz⟩
      · rcases two_spec hn with h | h
        · exact .inr (q7 (by omega))
        · exact .inl (hn2 (by omega))
theorem app_does (htt : ttOk P tt = true) (hs : SimF G L0 f0 σ0 M E N f σ ρ w) (hb : ∀ j, base ≤ j → j < base + stepV → ¬ N j) {t : TypeId} {x y : Operand} {cx cy : Cel B} (hx : CRel f σ cx (ev ρ x)) (hy : CRel f σ cy (ev ρ y))
    (h : (appR tt base t cx cy).Ran M out rs) :
    Does P ⟨dst, .call { callee := .builtin .append, args := #[x, y], argTypes := #[t, t] }, ty, pos, after, guard⟩ ρ w (Goal G L0 f0 σ0 M E N base f σ ρ out) := by
  obtain ⟨⟨te, e⟩, h1, h⟩ := opt_ran h
  obtain ⟨et, fe⟩ := elTy_ok htt h1
  have hT := fe.ap
  rename_i h0
  clear h0
  cases cx <;> try exact h.elim
  case own i =>
    obtain ⟨rs', h'⟩ := read_ran h
    clear h
    cases hM : M (.a i) with
    | none => rw [hM] at h'; exact h'.elim
    | some q =>
      rw [hM] at h'
      cases q <;> try exact h'.elim
      rename_i e' zs s nn
      obtain ⟨zs', hc, h⟩ := opt_ran h'
      clear h'
      obtain ⟨rfl, rfl⟩ := castSl hc
      obtain ⟨E2, L2, A, n, c, cur, k1, k2, k3, k4, k5, k6, k7, k8, k9⟩ := take_arr hs hM
      obtain ⟨A', n', c', r1, hxv⟩ := hx
      rw [k4] at r1
      injection r1 with r1
      injection r1 with a1 a2 a3
      subst a1 a2 a3
      exact appSnd_does hs hb hy hT (i := some i) k1 k2 k3 k9 k6 hxv k7 k8 (fun j hj => by injection hj with hj; subst hj; exact ⟨_, _, _, hM⟩) h
  case nils =>
    obtain ⟨E1, L1, k1, k2, k3, k4⟩ := hs.ents
    obtain ⟨hok, hw⟩ := wd_arrNil (E := relB B e) k4
    exact appSnd_does hs hb hy hT (i := none) (zs := []) k1 (fun x => by simp [k2]) k3 hw hok hx (fun h => by omega) (fun h => by omega) (fun j hj => by cases hj) h
end
end Hd
set_option linter.unusedVariables false
set_option linter.unusedSimpArgs false
namespace Hd
open Go Hk
section
variable {B : Tab} {P : Program} {tt : List (TI B)} {M : Loc → Option (Con B)} {G w : World} {L0 : List HProp} {f0 f : HP} {σ0 σ : Rz B} {E : List (Nat × EH)} {N : Nat → Prop} {ρ : Env}
variable {base : Nat} {dst : Option Tmp} {ty : TypeId} {pos : String} {after : Array Edge} {guard : Option (Nat × Bool)} {out : Out B} {rs : List Loc} {ρr : Type} {o : ρr}
theorem optOpd_ran (hs : SimF G L0 f0 σ0 M E N f σ ρ w) {x : Option Operand} {d : Int} {k : Int → RM B ρr} (h : (optOpd x d k).Ran M o rs) :
    ∃ n rs', ((x = none ∧ n = d) ∨ ∃ q, x = some q ∧ ev ρ q = .int .i64 n) ∧ (k n).Ran M o rs' := by
  cases x with
  | none => exact ⟨d, rs, .inl ⟨rfl, rfl⟩, h⟩
  | some q =>
    obtain ⟨c, rs', hc, h⟩ := opd1_ran hs h
    obtain ⟨⟨kk, n⟩, h1, h⟩ := opt_ran h
    obtain ⟨hk, h⟩ := chk_ran h
    have hk := of_decide_eq_true hk
    subst hk
    exact ⟨n, rs', .inr ⟨q, rfl, asI_rel h1 hc⟩, h⟩
theorem run_cutStr {t : TypeId} {x : Operand} {lo hi : Option Operand} {s r : ByteArray} {l k : Int} (ht : P.underlying t = some .string) (hx : ev ρ x = .string s) (hr : scut s l k = some r)
    (hlo : (lo = none ∧ l = 0) ∨ ∃ o, lo = some o ∧ ev ρ o = .int .i64 l) (hhi : (hi = none ∧ k = (s.size : Int)) ∨ ∃ o, hi = some o ∧ ev ρ o = .int .i64 k) :
    (execOp (ev ρ) ⟨dst, .slice t x lo hi none, ty, pos, after, guard⟩).run P w = .ok (.value (.string r)) w := by
  unfold scut at hr
  split at hr <;> try contradiction
  rename_i hc
  injection hr with hr
  subst hr
  obtain ⟨h0, h1, h2⟩ := hc
  obtain ⟨l, rfl⟩ := Int.eq_ofNat_of_zero_le h0
  obtain ⟨k, rfl⟩ := Int.eq_ofNat_of_zero_le (by omega : 0 ≤ k)
  simp only [Int.toNat_natCast]
  have n1 : l ≤ k := by omega
  have n2 : k ≤ s.size := by omega
  rcases hlo with ⟨rfl, e1⟩ | ⟨o, rfl, ho⟩ <;> rcases hhi with ⟨rfl, e2⟩ | ⟨o', rfl, ho'⟩
  · have e1 : l = 0 := by omega
    have e2 : k = s.size := by omega
    subst e1 e2
    simp [execOp, Instr.sliceAt, Instr.slice, Instr.sliceBounds, Instr.sliceBound, asIntOf, run_underlying ht, hx, go_sem]
  · have e1 : l = 0 := by omega
    subst e1
    simp [execOp, Instr.sliceAt, Instr.slice, Instr.sliceBounds, Instr.sliceBound, asIntOf, run_underlying ht, hx, go_sem, ho']; exact fun h => by omega
  · have e2 : k = s.size := by omega
    subst e2
    simp [execOp, Instr.sliceAt, Instr.slice, Instr.sliceBounds, Instr.sliceBound, asIntOf, run_underlying ht, hx, go_sem, ho]; exact fun h => by omega
  · simp [execOp, Instr.sliceAt, Instr.slice, Instr.sliceBounds, Instr.sliceBound, asIntOf, run_underlying ht, hx, go_sem, ho, ho', n1, n2]
theorem strCut_does (htt : ttOk P tt = true) (hs : SimF G L0 f0 σ0 M E N f σ ρ w) {t : TypeId} {x : Operand} {lo hi : Option Operand} {s : ByteArray} (hx : ev ρ x = .string s) (h : (strCut tt t s lo hi).Ran M out rs) :
    Does P ⟨dst, .slice t x lo hi none, ty, pos, after, guard⟩ ρ w (Goal G L0 f0 σ0 M E N base f σ ρ out) := by
  obtain ⟨hq, h⟩ := chk_ran h
  obtain ⟨l, rs1, hl, h⟩ := optOpd_ran hs h
  obtain ⟨k, rs2, hk, h⟩ := optOpd_ran hs h
  obtain ⟨r, hr, h⟩ := bind_ran h
  obtain rfl := ret_ran h
  exact does_pure hs (run_cutStr (isStr_ok htt hq) hx hr hl hk) rfl
theorem wd_newO {L : List HProp} {o : Obj} (h : Wd G w f L) : Wd G (w.alloc o) f (Blk w.heap.size o :: L) := by
  have hnew : wh (w.alloc o) w.heap.size = some o := heap_alloc_new w _
  have hold : ∀ b, wh w b ≠ none → wh (w.alloc o) b = wh w b := fun b hb => by
    have : b < w.heap.size := by
      cases hx : wh w b with
      | none => exact absurd hx hb
      | some o => exact (Array.getElem?_eq_some_iff.1 hx).1
    exact heap_alloc_old w _ this
  have hn : wh w w.heap.size = none := by simp [wh]
  refine ⟨h.os, h.tape, h.output, fun b o hf => ?_, fun b => b = w.heap.size, ⟨rfl, hnew⟩, fun b hb => ⟨?_, ?_⟩, ?_⟩
  · have := h.fro b o hf; rw [hold b (by rw [this]; simp)]; exact this
  · subst hb
    cases hf : f w.heap.size with
    | none => rfl
    | some o => have := h.fro _ o hf; rw [hn] at this; cases this
  · subst hb; rw [hnew]; simp
  · exact SepL.keep' h.sep (fun b _ hb => hold b hb) (fun b hb hb' => ⟨hb, fun e => by subst e; exact hb' hn⟩)
theorem SimF.grow (hs : SimF G L0 f0 σ0 M E N f σ ρ w) (o : Obj) : ∃ f', HP.le f f' ∧ f' w.heap.size = some o ∧ SimF G L0 f0 σ0 M E N f' σ ρ (w.drew.alloc o) := by
  obtain ⟨E1, L1, k1, k2, k3, k4⟩ := hs.ents
  obtain ⟨f', h1, h2, h3⟩ := wd_freezeB (wd_newO (o := o) k4.drew)
  refine ⟨f', h1, h2, ?_⟩
  exact { hs with
    gl := B.gmono _ _ h1 hs.gl
    le := HP.le_trans hs.le h1
    slots := fun t => (hs.slots t).mono h1 (Rz.le_refl _)
    fzs := fun i e xs nn h => by obtain ⟨A, n, c, a1, a2, a3⟩ := hs.fzs i e xs nn h; exact ⟨A, n, c, a1, a2.mono h1, a3⟩
    fzbs := fun i e x h => by obtain ⟨b, ds, ty, fr, a1, a2, a3⟩ := hs.fzbs i e x h; exact ⟨b, ds, ty, fr, a1, h1 _ _ a2, (relB B e).mono h1 a3⟩
    clos := fun c j x h => by obtain ⟨vals, v, a1, a2, a3⟩ := hs.clos c j x h; exact ⟨vals, v, a1, a2, a3.mono h1 (Rz.le_refl _)⟩
    ents := ⟨E1, L1, k1, k2, by have := Ents.mono (up := []) h1 (Rz.le_refl _) (fun i h _ => by cases h <;> first | exact rfl | exact ⟨rfl, fun _ => rfl⟩) k3; rwa [ovl_nil] at this, h3⟩ }
theorem isBytes_ok (htt : ttOk P tt = true) {u : Nat} (h : isBytes tt u = true) : ∃ e, P.underlying u = some (.slice e) ∧ P.underlying e = some (.int .u8) := by
  unfold isBytes at h
  split at h <;> try contradiction
  rename_i tu htu
  split at h <;> try contradiction
  rename_i e q htd
  split at h <;> try contradiction
  rename_i te hte
  split at h <;> try contradiction
  rename_i htd2
  obtain ⟨k1, rfl⟩ := tfind_ok htt htu
  obtain ⟨k2, rfl⟩ := tfind_ok htt hte
  have d1 := (tiOk_facts k1).td
  have d2 := (tiOk_facts k2).td
  rw [htd] at d1
  rw [htd2] at d2
  simp only [tdOk] at d1 d2
  split at d2 <;> try contradiction
  rename_i k hk
  simp only [decide_eq_true_eq] at d1 d2
  subst d2
  exact ⟨_, tyElem_spec d1, hk⟩
theorem run_conv {t u : TypeId} {x : Operand} {s : ByteArray} {v : Value} {w' : World} (hx : ev ρ x = .string s) (hr : (convert t u (.string s)).run P w = .ok v w') :
    (execOp (ev ρ) ⟨dst, .convert t u x, ty, pos, after, guard⟩).run P w = .ok (.value v) w' := by
  have e1 : execOp (ev ρ) ⟨dst, .convert t u x, ty, pos, after, guard⟩ = (convert t u (ev ρ x)).bind (fun v => .pure (.value v)) := rfl
  rw [e1, hx, Sem.run_bind', hr]
  rfl
theorem bytesRow_get {s : ByteArray} {cap i : Nat} {b : UInt8} (h : (sl8 s)[i]? = some b) : (bytesRow s cap)[i]? = some (.int .u8 (b.toNat : Int)) := by
  have hd : s.data[i]? = some b := by simpa [sl8] using h
  have hi : i < s.data.size := (Array.getElem?_eq_some_iff.1 hd).1
  unfold bytesRow
  rw [Array.getElem?_append_left (by simpa using hi), Array.getElem?_map, hd]
  rfl
theorem bytes_slF {f : HP} {s : ByteArray} {cap blk : Nat} {e : TypeId} {fr : Nat × Nat} (h : f blk = some (.cells (bytesRow s cap) e fr)) (hge : s.size ≤ cap) (hcm : cap ≤ maxLen) :
    SlF f (fInt .u8) (some ⟨blk, 0, none⟩) s.size cap ((sl8 s).map fun b => (b.toNat : Int)) := by
  have hlen : (sl8 s).length = s.size := Array.length_toList
  refine ⟨by simp [hlen], by simp [hlen, hge], hcm, fun i x hx => ⟨blk, 0, [.int .u8 x], rfl, fun j v hj => ?_, rfl⟩⟩
  match j, hj with
  | 0, hj =>
    simp at hj
    subst hj
    rw [List.getElem?_map] at hx
    cases hg : (sl8 s)[i]? with
    | none => rw [hg] at hx; cases hx
    | some b =>
      rw [hg] at hx
      injection hx with hx
      subst hx
      have := bytesRow_get (cap := cap) hg
      unfold hcell
      simp only [h, fInt, Nat.mul_one, Nat.zero_add, Nat.add_zero]
      exact this
  | j + 1, hj => simp at hj
theorem strBytes_does (htt : ttOk P tt = true) (hs : SimF G L0 f0 σ0 M E N f σ ρ w) {t u : TypeId} {x : Operand} {s : ByteArray} (hx : ev ρ x = .string s) (h : (strBytes tt t u s).Ran M out rs) :
    Does P ⟨dst, .convert t u x, ty, pos, after, guard⟩ ρ w (Goal G L0 f0 σ0 M E N base f σ ρ out) := by
  obtain ⟨hq, h⟩ := chk_ran h
  simp only [Bool.and_eq_true] at hq
  obtain ⟨e, he, hu8⟩ := isBytes_ok htt hq.2
  obtain ⟨xs, hxs, h⟩ := bind_ran h
  obtain rfl := ret_ran h
  unfold sbytes at hxs
  split at hxs <;> try contradiction
  rename_i hsz
  injection hxs with hxs
  subst hxs
  have hr := run_bytes_of_string w t u e s (isStr_ok htt hq.1) he hu8
  obtain ⟨f', h1, h2, h3⟩ := hs.grow (.cells (bytesRow s (grownCap w s.size 0 e)) e ((bytesRow s (grownCap w s.size 0 e)).size, (bytesRow s (grownCap w s.size 0 e)).size + 1))
  exact .inl ⟨_, _, run_conv hx hr, f', σ, h1, Rz.le_refl _, h3.same fun i h => .inl h, _, _, _, rfl, bytes_slF h2 (grownCap_ge w s.size 0 e) (grownCap_le_maxLen w s.size 0 e (by unfold maxLen; omega))⟩
theorem cut_does (htt : ttOk P tt = true) (hs : SimF G L0 f0 σ0 M E N f σ ρ w) (hb : ∀ j, base ≤ j → j < base + stepV → ¬ N j) {t : TypeId} {x : Operand} {lo hi : Option Operand} {cx : Cel B} (hx : CRel f σ cx (ev ρ x))
    (h : (cutR tt base t cx lo hi).Ran M out rs) :
    Does P ⟨dst, .slice t x lo hi none, ty, pos, after, guard⟩ ρ w (Goal G L0 f0 σ0 M E N base f σ ρ out) := by
  obtain ⟨⟨te, e0⟩, h1, h2⟩ := opt_ran h
  clear h
  obtain ⟨et, fe⟩ := elTy_ok htt h1
  replace hx := unN_rel hx
  simp only at h2
  generalize unN cx = cx at hx h2
  cases cx <;> try exact h2.elim
  case sl e xs =>
    obtain ⟨hq, h⟩ := chk_ran h2
    clear h2
    have hq := Ty.eqb_eq hq
    subst hq
    obtain ⟨l, rs1, hl, h⟩ := optOpd_ran hs h
    obtain ⟨k, rs2, hk, h⟩ := optOpd_ran hs h
    obtain ⟨ys, hy, h⟩ := bind_ran h
    obtain rfl := ret_ran h
    obtain ⟨A, n, c, hv, hsl⟩ := hx
    obtain ⟨rfl, g1, g2, g3, g4⟩ := gcut_spec hy
    refine does_pure hs (run_cut fe.elem fe.size hv hsl.len hsl.le hy hl hk) ⟨_, _, _, rfl, hsl.cut g2 g3⟩
  case nils =>
    obtain ⟨l, rs1, hl, h⟩ := optOpd_ran hs h2
    obtain ⟨k, rs2, hk, h⟩ := optOpd_ran hs h
    obtain ⟨ys, hy, h⟩ := bind_ran h
    obtain rfl := ret_ran h
    have hlk : l = 0 ∧ k = 0 := by
      unfold gcut at hy
      split at hy
      · rename_i hc; simp only [List.length_nil] at hc; omega
      · cases hy
    obtain ⟨rfl, rfl⟩ := hlk
    exact does_pure hs (run_cut (xs := ([] : List (den B.T e0))) fe.elem fe.size hx rfl (Nat.le_refl _) hy hl hk) rfl
  case own i =>
    obtain ⟨rs', h⟩ := read_ran h2
    clear h2
    cases hM : M (.a i) with
    | none => rw [hM] at h; exact h.elim
    | some q =>
      rw [hM] at h
      cases q <;> try exact h.elim
      rename_i e xs s nn
      obtain ⟨hq, h2⟩ := chk_ran h
      clear h
      have hq := Ty.eqb_eq hq
      subst hq
      obtain ⟨l, rs1, hl, h⟩ := optOpd_ran hs h2
      obtain ⟨k, rs2, hk, h⟩ := optOpd_ran hs h
      obtain ⟨ys, hy, h⟩ := bind_ran h
      obtain rfl := ret_ran h
      obtain ⟨E2, L2, A, n, c, cur, k1, k2, k3, k4, k5, k6, k7, k8, k9⟩ := take_arr hs hM
      obtain ⟨A', n', c', r1, hxv⟩ := hx
      rw [k4] at r1
      injection r1 with r1
      injection r1 with a1 a2 a3
      subst a1 a2 a3
      obtain ⟨cur', hok', hw'⟩ := arr_cut k6 hy k9
      have hnn : ∀ m, m ≤ (match nn with | 0 => 0 | _ => 1) → 1 ≤ m → 1 ≤ nn := fun m h1 h2 => by
        cases nn with
        | zero => simp at h1; omega
        | succ k => omega
      refine .inl ⟨_, w, run_cut fe.elem fe.size hxv k6.len k6.le hy hl hk, repl_arr hs hb hM k1 k2 k3 hw' hok' (fun h => ?_) (fun h => ?_)⟩
      · have h1 := k7 (hnn _ (Nat.le_refl _) h)
        cases A with
        | none => simp at h1
        | some a => simp [cutA]; split <;> rfl
      · cases nn <;> simp at h
theorem cut0_does (htt : ttOk P tt = true) (hs : SimF G L0 f0 σ0 M E N f σ ρ w) (hb : ∀ j, base ≤ j → j < base + stepV → ¬ N j) {t : TypeId} {x lo hi mx : Operand} (h : (opProg tt base (.slice t x (some lo) (some hi) (some mx))).Ran M out rs) :
    Does P ⟨dst, .slice t x (some lo) (some hi) (some mx), ty, pos, after, guard⟩ ρ w (Goal G L0 f0 σ0 M E N base f σ ρ out) := by
  obtain ⟨cx, rs', hx, h2⟩ := opd1_ran hs h
  clear h
  obtain ⟨l, rs1, hl, h⟩ := optOpd_ran hs h2
  clear h2
  obtain ⟨k, rs2, hk, h2⟩ := optOpd_ran hs h
  clear h
  obtain ⟨m, rs3, hm, h⟩ := optOpd_ran hs h2
  clear h2
  have fix : ∀ {q : Operand} {n : Int}, (some q = none ∧ n = 0 ∨ ∃ r, some q = some r ∧ ev ρ r = .int .i64 n) → ev ρ q = .int .i64 n := by
    rintro q n (⟨h, _⟩ | ⟨r, hr, h⟩)
    · cases h
    · injection hr with hr; subst hr; exact h
  have hl := fix hl
  have hk := fix hk
  have hm := fix hm
  split at h <;> try exact h.elim
  obtain ⟨⟨te, e⟩, h1, h2⟩ := opt_ran h
  clear h
  obtain ⟨et, fe⟩ := elTy_ok htt h1
  have mk : ∀ (A : Option Addr) (n c nn : Nat), ev ρ x = .slice A n c → (1 ≤ nn → A.isSome = true) → nn ≤ 1 →
      Does P ⟨dst, .slice t x (some lo) (some hi) (some mx), ty, pos, after, guard⟩ ρ w (Goal G L0 f0 σ0 M E N base f σ ρ ⟨some (.one (.own base)), [(.a base, .arr e [] (base + 1) nn)], [(base, .arr e)], []⟩) := by
    intro A n c nn hv hA hn
    obtain ⟨E1, L1, k1, k2, k3, k4⟩ := hs.ents
    obtain ⟨hok, hw⟩ := wd_arrZero (E := relB B e) A k4
    exact .inl ⟨_, w, run_cut0 fe.elem fe.size hv hl hk hm, build_arr hs hb (upr := []) (del := []) (fun l q h => by simp [look] at h) (fun i h => by simp at h) k1 (fun x => by simp [k2]) k3 hw hok hA (fun h => by omega)⟩
  replace hx := unN_rel hx
  simp only at h2
  generalize unN cx = cx at hx h2
  cases cx <;> try exact h2.elim
  case nils =>
    obtain rfl := ret_ran h2
    exact does_pure hs (run_cut0 fe.elem fe.size hx hl hk hm) rfl
  case sl e' xs =>
    obtain rfl := ret_ran h2
    obtain ⟨A, n, c, hv, _⟩ := hx
    exact mk A n c 0 hv (fun h => by omega) (by omega)
  case own i =>
    obtain ⟨rs', h⟩ := read_ran h2
    clear h2
    cases hM : M (.a i) with
    | none => rw [hM] at h; exact h.elim
    | some q =>
      rw [hM] at h
      cases q <;> try exact h.elim
      rename_i e' xs s nn
      obtain rfl := ret_ran h
      obtain ⟨E2, L2, A, n, c, cur, k1, k2, k3, k4, k5, k6, k7, k8, k9⟩ := take_arr hs hM
      obtain ⟨A', n', c', r1, hxv⟩ := hx
      rw [k4] at r1
      injection r1 with r1
      injection r1 with a1 a2 a3
      subst a1 a2 a3
      refine mk A n c _ hxv (fun h => k7 ?_) ?_
      · cases nn with
        | zero => simp at h
        | succ k => omega
      · cases nn <;> simp
theorem elems_ok {e : Ty} : ∀ {n : Nat} {cs : List (Cel B)} {xs : List (den B.T e)} {vs : List Value}, elems B e n cs = some xs → CRels f σ cs vs → ∃ ess, vs = ess.flatten ∧ RelAll (relB B e) f ess xs ∧ xs.length = n
  | 0, [], xs, vs, h, hc => by
    simp only [elems, Option.some.injEq] at h
    subst h
    cases vs with
    | nil => exact ⟨[], rfl, trivial, rfl⟩
    | cons _ _ => exact hc.elim
  | 0, _ :: _, xs, vs, h, hc => by simp [elems] at h
  | n + 1, cs, xs, vs, h, hc => by
    unfold elems at h
    split at h <;> try contradiction
    rename_i x r h1
    split at h <;> try contradiction
    rename_i ys h2
    injection h with h
    subst h
    obtain ⟨us, ws, rfl, k1, k2⟩ := takeD_ok 8 e cs x r vs h1 hc
    obtain ⟨ess, rfl, k3, k4⟩ := elems_ok h2 k2
    exact ⟨us :: ess, by simp, ⟨k1, k3⟩, by simp [k4]⟩
theorem CRels_get {cs : List (Cel B)} {vs : List Value} : cs.length = vs.length → (∀ (j : Nat) c v, cs[j]? = some c → vs[j]? = some v → CRel f σ c v) → CRels f σ cs vs := by
  induction cs generalizing vs with
  | nil => intro h _; cases vs with
    | nil => trivial
    | cons _ _ => simp at h
  | cons c cs ih =>
    intro h hg
    cases vs with
    | nil => simp at h
    | cons v vs => exact ⟨hg 0 c v rfl rfl, ih (by simpa using h) fun j c v h1 h2 => hg (j + 1) c v (by simpa using h1) (by simpa using h2)⟩
def PRels (f : HP) (σ : Rz B) (ρ : Env) : List (Nat × List (Cel B)) → List (Nat × Operand) → Prop
  | [], [] => True
  | (i, cs) :: l, (j, o) :: r => i = j ∧ CRels f σ cs (ev ρ o).cells.toList ∧ PRels f σ ρ l r
  | _, _ => False
theorem partsR_ran (hs : SimF G L0 f0 σ0 M E N f σ ρ w) : ∀ {l : List (Nat × Operand)} {k : List (Nat × List (Cel B)) → RM B ρr} {rs : List Loc}, (partsR l k).Ran M o rs → ∃ ps rs', PRels f σ ρ ps l ∧ (k ps).Ran M o rs'
  | [], k, rs, h => ⟨[], rs, trivial, h⟩
  | (i, x) :: l, k, rs, h => by
    obtain ⟨cs, rs1, h1, h⟩ := opdL_ran hs h
    obtain ⟨hu, h⟩ := chk_ran h
    obtain ⟨ps, rs2, h2, h⟩ := partsR_ran hs h
    exact ⟨(i, cs) :: ps, rs2, ⟨rfl, h1 hu, h2⟩, h⟩
theorem CRels.splice {cs news : List (Cel B)} {vs us : List Value} {n : Nat} (h : CRels f σ cs vs) (h2 : CRels f σ news us) : CRels f σ (spliceC cs n news) (vs.take n ++ us ++ vs.drop (n + us.length)) := by
  unfold spliceC
  rw [h2.len]
  exact CRels.app (CRels.app (h.take n) h2) (h.drop _)
theorem fillC_ok {place : Nat → Option (Nat × Nat)} : ∀ {ps : List (Nat × List (Cel B))} {l : List (Nat × Operand)} {cs cs' : List (Cel B)} {vs : List Value}, fillC place cs ps = some cs' → CRels f σ cs vs → PRels f σ ρ ps l →
    ∃ vs', fillL place vs (partsOf ρ l) = some vs' ∧ CRels f σ cs' vs'
  | [], [], cs, cs', vs, h, hc, _ => by
    simp only [fillC, Option.some.injEq] at h; subst h; exact ⟨vs, rfl, hc⟩
  | (i, ns) :: ps, (j, x) :: l, cs, cs', vs, h, hc, ⟨hij, h1, h2⟩ => by
    subst hij
    unfold fillC at h
    split at h <;> try contradiction
    rename_i oo n hp
    split at h <;> try contradiction
    rename_i hcond
    simp only [Bool.and_eq_true] at hcond
    have e1 := Nat.eq_of_beq_eq_true hcond.1
    have e2 := Nat.le_of_ble_eq_true hcond.2
    obtain ⟨vs', k1, k2⟩ := fillC_ok h (hc.splice h1) h2
    refine ⟨vs', ?_, k2⟩
    simp only [partsOf, fillL, hp]
    have l1 := h1.len
    have l2 := hc.len
    have : (Nat.beq (ev ρ x).cells.toList.length n && Nat.ble (oo + (ev ρ x).cells.toList.length) vs.length) = true := by
      simp only [Bool.and_eq_true, Nat.beq_eq, Nat.ble_eq]
      omega
    rw [this]
    exact k1
  | [], _ :: _, _, _, _, _, _, h => h.elim
  | _ :: _, [], _, _, _, _, _, h => h.elim
theorem madeCells_rel {z : Array Value} {cs : List (Cel B)} (h : CRels f σ cs z.toList) : ∀ n : Nat, CRels f σ (repL n cs) (madeCells z (n * z.size)).toList := by
  intro n
  have hl : cs.length = z.size := by have := h.len; simpa using this.symm
  have hrl : ∀ n : Nat, (repL n cs).length = n * cs.length := fun n => by
    induction n with
    | zero => simp [repL]
    | succ n ih => simp only [repL, List.length_append, ih, Nat.add_mul]; omega
  refine CRels_get (by rw [hrl, hl]; simp [size_madeCells]) fun j c v h1 h2 => ?_
  have hj : j < n * cs.length := by rw [← hrl]; exact (List.getElem?_eq_some_iff.1 h1).1
  have hpos : 0 < cs.length := by
    rcases Nat.eq_zero_or_pos cs.length with h | h
    · rw [h] at hj; omega
    · exact h
  have hget : ∀ n j, j < n * cs.length → (repL n cs)[j]? = cs[j % cs.length]? := fun n => by
    induction n with
    | zero => intro j hj; omega
    | succ n ih =>
      intro j hj
      simp only [repL]
      rcases Nat.lt_or_ge j cs.length with hlt | hge
      · rw [List.getElem?_append_left hlt, Nat.mod_eq_of_lt hlt]
      · rw [List.getElem?_append_right hge, ih (j - cs.length) (by rw [Nat.add_mul] at hj; omega)]
        congr 1
        rw [Nat.mod_eq_sub_mod hge]
  rw [hget n j hj] at h1
  obtain ⟨u, h3, h4⟩ := h.get _ c h1
  have hdiv : j / cs.length < n := Nat.div_lt_of_lt_mul (by rw [Nat.mul_comm]; exact hj)
  have := madeCells_get (z := z) (n := n) (i := j / cs.length) (j := j % cs.length) (v := u) (by rw [← Array.getElem?_toList]; exact h3) hdiv
  rw [← hl, Nat.div_add_mod'] at this
  rw [← Array.getElem?_toList] at this
  rw [hl] at this
  rw [this] at h2
  injection h2 with h2
  subst h2
  exact h4
end
end Hd
set_option linter.unusedVariables false
set_option linter.unusedSimpArgs false
namespace Hd
open Go Hk
section
variable {B : Tab} {P : Program} {tt : List (TI B)} {M : Loc → Option (Con B)} {G w : World} {L0 : List HProp} {f0 f : HP} {σ0 σ : Rz B} {E : List (Nat × EH)} {N : Nat → Prop} {ρ : Env}
variable {base : Nat} {dst : Option Tmp} {ty : TypeId} {pos : String} {after : Array Edge} {guard : Option (Nat × Bool)} {out : Out B} {rs : List Loc} {ρr : Type} {o : ρr}
theorem goal_after {ov : Ov B} {f1 : HP} {v : Option (DV B)} {up : Mem B} {add : List (Nat × EH)} {K : Option Value} {w' : World} (hl : HP.le f f1) (hdel : ∀ i, i ∈ ov.del → ∀ h, (i, h) ∉ add)
    (h : Goal G L0 f0 σ0 (ovl ov.up M) (delsE (ov.add ++ E) ov.del) N base f1 σ ρ ⟨v, up, add, []⟩ K w') : Goal G L0 f0 σ0 M E N base f σ ρ ⟨v, up ++ ov.up, add ++ ov.add, ov.del⟩ K w' := by
  obtain ⟨f', σ', h1, h2, h3, h4⟩ := h
  refine ⟨f', σ', HP.le_trans hl h1, h2, ?_, h4⟩
  have e : ∀ x, x ∈ delsE (add ++ delsE (ov.add ++ E) ov.del) [] ↔ x ∈ delsE (add ++ ov.add ++ E) ov.del := fun x => by
    simp only [delsE, mem_delsE, List.mem_append]
    constructor
    · rintro (h | ⟨h | h, hd⟩)
      · exact ⟨.inl (.inl h), fun hd => hdel _ hd x.2 h⟩
      · exact ⟨.inl (.inr h), hd⟩
      · exact ⟨.inr h, hd⟩
    · rintro ⟨(h | h) | h, hd⟩
      · exact .inl h
      · exact .inr ⟨.inl h, hd⟩
      · exact .inr ⟨.inr h, hd⟩
  have e2 : ovl up (ovl ov.up M) = ovl (up ++ ov.up) M := (ovl_app _ _).symm
  exact { gl := h3.gl, le := h3.le, sub := h3.sub, fresh := h3.fresh, slots := fun t => by rw [← e2]; exact h3.slots t, fzs := fun i e xs nn h => h3.fzs i e xs nn (by rw [e2]; exact h),
          fzbs := fun i e x h => h3.fzbs i e x (by rw [e2]; exact h), clos := fun i j x h => h3.clos i j x (by rw [e2]; exact h),
          arrs := fun i e' xs s nn h => (e _).1 (h3.arrs i e' xs s nn (by rw [e2]; exact h)), grds := fun i e' rows s k hole nn h => (e _).1 (h3.grds i e' rows s k hole nn (by rw [e2]; exact h)), mps := fun i k v m h => (e _).1 (h3.mps i k v m (by rw [e2]; exact h)), mphs := fun i k e' m key pd h => (e _).1 (h3.mphs i k e' m key pd (by rw [e2]; exact h)), blks := fun i t n h => (e _).1 (h3.blks i t n (by rw [e2]; exact h)),
          ents := by
            obtain ⟨E1, L1, k1, k2, k3, k4⟩ := h3.ents
            exact ⟨E1, L1, k1, fun x => (k2 x).trans (e x), by rw [← e2]; exact k3, k4⟩ }
theorem blen (n k : Nat) (hk : 0 < k) (h : Nat.ble (n * k) 1000000 = true) : Nat.ble n maxLen = true := by
  have h := Nat.le_of_ble_eq_true h
  rw [Nat.ble_eq]
  have : n * 1 ≤ n * k := Nat.mul_le_mul_left _ hk
  simp only [maxLen]
  omega
theorem buildSlice_does (htt : ttOk P tt = true) (hs : SimF G L0 f0 σ0 M E N f σ ρ w) (hb : ∀ j, base ≤ j → j < base + stepV → ¬ N j) {t : TypeId} {n : Nat} {parts : Array (Nat × Operand)} (h : (opProg tt base (.buildSlice t n parts)).Ran M out rs) :
    Does P ⟨dst, .buildSlice t n parts, ty, pos, after, guard⟩ ρ w (Goal G L0 f0 σ0 M E N base f σ ρ out) := by
  obtain ⟨ps, rs1, hps, h1⟩ := partsR_ran hs h
  clear h
  obtain ⟨⟨te, e⟩, q1, h⟩ := opt_ran h1
  clear h1
  obtain ⟨hlen, h1⟩ := chk_ran h
  clear h
  obtain ⟨cs, q2, h⟩ := opt_ran h1
  clear h1
  obtain ⟨et, fe⟩ := elTy_ok htt q1
  obtain ⟨z, z1, z2, z3⟩ := fe.zero
  have hz : CRels f σ te.zc z.cells.toList := (celsAre_rel z2).1
  have hbase := madeCells_rel hz n
  have hts : te.size = z.cells.size := by rw [z3]; exact fe.tsize
  obtain ⟨vs, k1, k2⟩ := fillC_ok q2 hbase hps
  obtain ⟨cs', ov, f1, rs2, p1, p2, p3, p4, p5, p6, pd, h⟩ := dataC_ran (simO_nil (n := base) (mu := []) hs) k2 h
  obtain ⟨xs, q3, h⟩ := opt_ran h
  obtain rfl := ret_ran h
  have hadd : ov.add = [] := p3
  obtain ⟨ess, rfl, r1, r2⟩ := elems_ok q3 p6
  obtain ⟨E1, L1, s1, s2, s3, s4⟩ := p2.ents
  have hp : parts = parts.toList.toArray := by simp
  rw [hts] at k1 hlen
  rw [show parts = parts.toList.toArray by simp]
  obtain ⟨w', v, u1, b, rfl, u2⟩ := run_buildSliceE (dst := dst) (ty := ty) (pos := pos) (after := after) (guard := guard) (parts := parts.toList) fe.elem (by rw [fe.size, z3]) z1 hlen rfl k1 s4
  obtain ⟨cur, u3, u4⟩ := wd_arrL r1 rfl (by rw [r2]; exact blen n z.cells.size (by rw [z3]; exact fe.pos) hlen) u2
  rw [r2] at u3 u4
  refine .inl ⟨_, w', u1, ?_⟩
  refine goal_after (ov := ov) (up := [(.a base, .arr e xs (base + 1) (nnOf n))]) (add := [(base, .arr e)]) p1 (fun i hi h hm => ?_) ?_
  · have hib : i = base := by simpa using congrArg (·.1) (List.mem_singleton.1 hm)
    subst hib
    rcases pd.dl i hi with h | h
    · simp at h
    · exact h (by simpa using base_none hs hb 0 (by decide))
  · refine build_arr p2 hb (upr := []) (del := []) (fun l q h => by simp [look] at h) (fun i h => by simp at h) s1 (fun x => by simp [s2]) s3 u4 u3 (fun _ => rfl) (fun hnn hx => ?_)
    subst hx
    simp at r2
    subst r2
    simp [nnOf] at hnn
theorem build_does (htt : ttOk P tt = true) (hs : SimF G L0 f0 σ0 M E N f σ ρ w) {t : TypeId} {parts : Array (Nat × Operand)} (h : (opProg tt base (.build t parts)).Ran M out rs) :
    Does P ⟨dst, .build t parts, ty, pos, after, guard⟩ ρ w (Goal G L0 f0 σ0 M E N base f σ ρ out) := by
  obtain ⟨ps, rs1, hps, h1⟩ := partsR_ran hs h
  clear h
  cases hti : tfind tt t with
  | none => rw [hti] at h1; exact h1.elim
  | some ti =>
    rw [hti] at h1
    obtain ⟨k1, rfl⟩ := tfind_ok htt hti
    have ft := tiOk_facts k1
    obtain ⟨z, z1, z2, z3⟩ := ft.zero
    have hz : CRels f σ ti.zc z.cells.toList := (celsAre_rel z2).1
    rw [show parts = parts.toList.toArray by simp]
    have htd := ft.td
    dsimp only at h1
    split at h1 <;> try exact h1.elim
    · rename_i fs qs e1
      rw [e1] at htd
      simp only [tdOk, Bool.and_eq_true, decide_eq_true_eq] at htd
      replace htd := htd.1
      obtain ⟨cs, q1, h⟩ := opt_ran h1
      obtain rfl := ret_ran h
      obtain ⟨vs, k2, k3⟩ := fillC_ok q1 hz hps
      refine does_pure hs (run_buildS (parts := parts.toList) z1 htd.2 ?_) ⟨vs, rfl, k3⟩
      rw [← k2]
      congr 1
      funext i
      have : ∀ (l : List (Nat × Nat × Nat)) (i : Nat), (match nthL l i with | some (o, n, _) => some (o, n) | none => none) = (l.map fun x => (x.1, x.2.1))[i]? := by
        intro l
        induction l with
        | nil => intro i; rfl
        | cons x l ih => intro i; cases i with
          | zero => rfl
          | succ i => simpa [nthL] using ih i
      exact (this fs i).symm
    · rename_i n e e1
      rw [e1] at htd
      simp only [tdOk] at htd
      cases hte : tfind tt e with
      | none => rw [hte] at h1; exact h1.elim
      | some te =>
        rw [hte] at h1
        obtain ⟨k4, rfl⟩ := tfind_ok htt hte
        have fte := tiOk_facts k4
        obtain ⟨cs, q1, h⟩ := opt_ran h1
        obtain rfl := ret_ran h
        obtain ⟨vs, k2, k3⟩ := fillC_ok q1 hz hps
        split at htd <;> try contradiction
        rename_i n' e' hu
        simp only [Bool.and_eq_true, decide_eq_true_eq] at htd
        obtain ⟨rfl, rfl⟩ := htd
        exact does_pure hs (run_buildA (parts := parts.toList) z1 hu fte.size k2) ⟨vs, rfl, k3⟩
theorem look_upC {i : Nat} : ∀ {cs : List (Cel B)} {a j : Nat}, look (upC i a cs) (.c i j) = if a ≤ j then (cs[j - a]?).map .c else none
  | [], a, j => by simp [upC, look]
  | c :: cs, a, j => by
    unfold upC
    by_cases h : a = j
    · subst h; rw [look_cons_self]; simp
    · rw [look_cons_ne (by simpa using h), look_upC]
      by_cases h1 : a ≤ j
      · have : a + 1 ≤ j := by omega
        rw [if_pos this, if_pos h1, show j - a = (j - (a + 1)) + 1 by omega]
        simp
      · rw [if_neg h1, if_neg (by omega)]
theorem look_upC_other {i : Nat} {l : Loc} : ∀ {cs : List (Cel B)} {a : Nat}, (∀ j, l ≠ .c i j) → look (upC i a cs) l = none
  | [], _, _ => rfl
  | c :: cs, a, h => by
    unfold upC
    rw [look_cons_ne (Ne.symm (h a))]
    exact look_upC_other h
theorem new_blk (hs : SimF G L0 f0 σ0 M E N f σ ρ w) (hb : ∀ j, base ≤ j → j < base + stepV → ¬ N j) {op : Oper} {t : Nat} {cs : List (Cel B)} {vs : List Value} (hc : CRels f σ cs vs) (h1 : ∀ v ∈ vs, v.oneCell' = true)
    (hr : ∀ L, Wd G w f L → ∃ w' v, (execOp (ev ρ) op).run P w = .ok (.value v) w' ∧ ∃ b, v = .pointer (some ⟨b, 0, none⟩) ∧ Wd G w' f (Blk b (.cells vs.toArray t (0, 0)) :: L)) :
    Does P op ρ w (Goal G L0 f0 σ0 M E N base f σ ρ ⟨some (.one (.ptr base 0)), (.b base, .blk t cs.length) :: upC base 0 cs, [(base, .blk t cs.length)], []⟩) := by
  obtain ⟨E1, L1, k1, k2, k3, k4⟩ := hs.ents
  obtain ⟨w', v, r1, b, rfl, r2⟩ := hr _ k4
  have b0 : σ base = none := by simpa using base_none hs hb 0 (by decide)
  have hne : ∀ i h, (i, h) ∈ E → i ≠ base := fun i h hi e => by subst e; exact ents_some hs hi b0
  have hσ : Rz.le σ (setR σ base (.blk b)) := setR_le b0
  have s0 : setR σ base (.blk b) base = some (.blk b) := setR_self _ _ _
  have hlk : ∀ l, (∀ j, l ≠ .c base j) → l ≠ .b base → look ((Loc.b base, Con.blk t cs.length) :: upC base 0 cs) l = none := fun l h1 h2 => by
    rw [look_cons_ne (Ne.symm h2)]; exact look_upC_other h1
  refine .inl ⟨_, w', r1, f, _, HP.le_refl _, hσ, hs.updS (HP.le_refl _) hσ (fun i hi => ?_) (fun l q hl => ?_) (fun i h hi => .inl ?_) ⟨(base, .blk t cs.length) :: E1, Blk b (.cells vs.toArray t (0, 0)) :: L1, k1.cons fun k hk => hne _ _ ((k2 _).1 hk) rfl, fun x => ?_, ⟨?_, ?_⟩, r2⟩, ⟨b, s0, rfl⟩⟩
  · have : i ≠ base := fun e => hi (.inr ⟨by omega, by simp only [stepW]; omega⟩)
    rw [setR_ne this]
    exact hs.fresh _ fun h => hi (.inl h)
  · by_cases hlb : Loc.b base = l
    · subst hlb
      rw [look_cons_self] at hl
      injection hl with hl; subst hl
      show (base, EH.blk t cs.length) ∈ delsE _ _
      simp [delsE]
    · rw [look_cons_ne hlb] at hl
      cases l with
      | c i j =>
        by_cases hi : i = base
        · subst hi
          rw [look_upC] at hl
          simp only [Nat.zero_le, if_true, Option.map_eq_some_iff] at hl
          obtain ⟨x, _, rfl⟩ := hl
          trivial
        · rw [look_upC_other (fun j' e => by injection e with e _; exact hi e)] at hl; cases hl
      | _ => rw [look_upC_other (fun j' e => by cases e)] at hl; cases hl
  · simp [delsE, hi]
  · simp [delsE, k2]
  · refine ⟨b, vs, s0, rfl, hc.len, ovl_some (look_cons_self _ _ _), fun j v hv => ⟨h1 v (List.mem_of_getElem? hv), ?_⟩⟩
    have hlt := (List.getElem?_eq_some_iff.1 hv).1
    have hl := hc.len
    obtain ⟨c, hcj⟩ : ∃ c, cs[j]? = some c := ⟨cs[j]'(by omega), List.getElem?_eq_getElem (by omega)⟩
    obtain ⟨u, hu, hcr⟩ := hc.get j c hcj
    rw [hv] at hu
    injection hu with hu
    subst hu
    refine ⟨c, ovl_some ?_, hcr.mono (HP.le_refl _) hσ⟩
    rw [look_cons_ne (by simp), look_upC]
    simp [hcj]
  · refine Ents.mono (HP.le_refl _) hσ (fun i h hi => ?_) k3
    have hib := hne _ _ ((k2 _).1 hi)
    cases h with
    | arr e => exact hlk _ (fun j e => by cases e) (fun e => by cases e)
    | grid e => exact hlk _ (fun j e => by cases e) (fun e => by cases e)
    | mp _ _ => exact hlk _ (fun j e => by cases e) (fun e => by cases e)
    | blk t' m => exact ⟨hlk _ (fun j e => by cases e) (fun e => by injection e with e; exact hib e), fun j => hlk _ (fun j' e => by injection e with e _; exact hib e) (fun e => by cases e)⟩
theorem boxA_does (hs : SimF G L0 f0 σ0 M E N f σ ρ w) (hb : ∀ j, base ≤ j → j < base + stepV → ¬ N j) {op : Oper} {t : Nat} {u : Ty} {cs : List (Cel B)} {vs : List Value} (hc : CRels f σ cs vs)
    (hr : ∀ L, Wd G w f L → ∃ w' v, (execOp (ev ρ) op).run P w = .ok (.value v) w' ∧ ∃ b, v = .pointer (some ⟨b, 0, none⟩) ∧ Wd G w' f (Blk b (.cells vs.toArray t (0, 0)) :: L)) (h : (boxA base u cs).Ran M out rs) :
    Does P op ρ w (Goal G L0 f0 σ0 M E N base f σ ρ out) := by
  unfold boxA at h
  obtain ⟨hq, h1⟩ := chk_ran h
  simp only [Bool.and_eq_true] at hq
  obtain ⟨xs, hx, h2⟩ := opt_ran h1
  obtain rfl := ret_ran h2
  obtain ⟨ess, rfl, r1, r2⟩ := elems_ok hx hc
  refine new_pa hs hb fun L hw => ?_
  obtain ⟨w', v, k1, b, k2, k3⟩ := hr L hw
  obtain ⟨cur, u3, u4⟩ := wd_arrL r1 rfl (by
    have := Nat.le_of_ble_eq_true hq.2
    rw [Nat.ble_eq]
    have : (1000000 : Nat) ≤ maxLen := by decide
    omega) k3
  exact ⟨w', v, k1, b, _, _, cur, k2, u3, u4⟩
theorem alloc_does (htt : ttOk P tt = true) (hs : SimF G L0 f0 σ0 M E N f σ ρ w) (hb : ∀ j, base ≤ j → j < base + stepV → ¬ N j) {t : TypeId} (h : (opProg tt base (.alloc t)).Ran M out rs) :
    Does P ⟨dst, .alloc t, ty, pos, after, guard⟩ ρ w (Goal G L0 f0 σ0 M E N base f σ ρ out) := by
  cases hti : tfind tt t with
  | none => simp only [opProg, hti] at h; exact h.elim
  | some ti =>
    simp only [opProg, hti] at h
    obtain ⟨k1, rfl⟩ := tfind_ok htt hti
    have ft := tiOk_facts k1
    obtain ⟨z, z1, z2, z3⟩ := ft.zero
    obtain ⟨hz, hu⟩ := celsAre_rel (f := f) (σ := σ) z2
    split at h
    · exact boxA_does hs hb hz (fun L hw => run_allocE z1 (by simp) hw) h
    obtain rfl := ret_ran h
    exact new_blk hs hb hz (noUnd_one hz hu) fun L hw => run_allocE z1 (by simp) hw
theorem box_does (hs : SimF G L0 f0 σ0 M E N f σ ρ w) (hb : ∀ j, base ≤ j → j < base + stepV → ¬ N j) {t : TypeId} {x : Operand} (h : (opProg tt base (.box t x)).Ran M out rs) :
    Does P ⟨dst, .box t x, ty, pos, after, guard⟩ ρ w (Goal G L0 f0 σ0 M E N base f σ ρ out) := by
  obtain ⟨cs, rs1, hc, h1⟩ := opdL_ran hs h
  obtain ⟨hu, h2⟩ := chk_ran h1
  split at h2
  · obtain ⟨_, h2⟩ := chk_ran h2
    exact boxA_does hs hb (hc hu) (fun L hw => run_boxE rfl (by simp) hw) h2
  obtain rfl := ret_ran h2
  exact new_blk hs hb (hc hu) (noUnd_one (hc hu) hu) fun L hw => run_boxE rfl (by simp) hw
theorem allocB_does (htt : ttOk P tt = true) (hs : SimF G L0 f0 σ0 M E N f σ ρ w) (hb : ∀ j, base ≤ j → j < base + stepV → ¬ N j) {t : TypeId} (h : (allocB tt base t).Ran M out rs) :
    Does P ⟨dst, .alloc t, ty, pos, after, guard⟩ ρ w (Goal G L0 f0 σ0 M E N base f σ ρ out) := by
  cases hti : tfind tt t with
  | none => simp only [allocB, hti] at h; exact h.elim
  | some ti =>
    simp only [allocB, hti] at h
    obtain ⟨k1, rfl⟩ := tfind_ok htt hti
    have ft := tiOk_facts k1
    obtain ⟨z, z1, z2, z3⟩ := ft.zero
    obtain ⟨hz, hu⟩ := celsAre_rel (f := f) (σ := σ) z2
    obtain rfl := ret_ran h
    exact new_blk hs hb hz (noUnd_one hz hu) fun L hw => run_allocE z1 (by simp) hw
theorem boxB_does (hs : SimF G L0 f0 σ0 M E N f σ ρ w) (hb : ∀ j, base ≤ j → j < base + stepV → ¬ N j) {t : TypeId} {x : Operand} (h : (boxB base t x).Ran M out rs) :
    Does P ⟨dst, .box t x, ty, pos, after, guard⟩ ρ w (Goal G L0 f0 σ0 M E N base f σ ρ out) := by
  obtain ⟨cs, rs1, hc, h1⟩ := opdL_ran hs h
  obtain ⟨hu, h2⟩ := chk_ran h1
  obtain rfl := ret_ran h2
  exact new_blk hs hb (hc hu) (noUnd_one (hc hu) hu) fun L hw => run_boxE rfl (by simp) hw
end
end Hd
set_option linter.unusedVariables false
set_option linter.unusedSimpArgs false
namespace Hd
open Go Hk
section
variable {B : Tab} {P : Program} {tt : List (TI B)} {M : Loc → Option (Con B)} {G w : World} {L0 : List HProp} {f0 f : HP} {σ0 σ : Rz B} {E : List (Nat × EH)} {N : Nat → Prop} {ρ : Env}
variable {base : Nat} {dst : Option Tmp} {ty : TypeId} {pos : String} {after : Array Edge} {guard : Option (Nat × Bool)} {out : Out B} {rs : List Loc} {ρr : Type} {o : ρr}
theorem splice_part {cur : Array Value} {p off : Nat} {es vs : List Value} (hes : ∀ j v, es[j]? = some v → cur[p + j]? = some v) (hfit : p + es.length ≤ cur.size) (hle : off + vs.length ≤ es.length) :
    splice cur (p + off) vs = splice cur p (es.take off ++ vs ++ es.drop (off + vs.length)) := by
  have hlen : (es.take off ++ vs ++ es.drop (off + vs.length)).length = es.length := by simp; omega
  have f1 : p + off + vs.length ≤ cur.size := by omega
  have f2 : p + (es.take off ++ vs ++ es.drop (off + vs.length)).length ≤ cur.size := by rw [hlen]; exact hfit
  apply Array.ext_getElem?
  intro k
  by_cases hk : p ≤ k ∧ k < p + es.length
  · obtain ⟨j, rfl⟩ : ∃ j, k = p + j := ⟨k - p, by omega⟩
    have hj : j < es.length := by omega
    have hjl : j < (es.take off ++ vs ++ es.drop (off + vs.length)).length := by rw [hlen]; exact hj
    have h2 := splice_in f2 (List.getElem?_eq_getElem hjl)
    rw [h2, ← List.getElem?_eq_getElem hjl]
    have hto : (es.take off).length = off := by simp; omega
    by_cases h3 : j < off
    · rw [splice_out f1 (by omega), List.append_assoc, List.getElem?_append_left (by omega), List.getElem?_take_of_lt h3, hes j _ (List.getElem?_eq_getElem hj), List.getElem?_eq_getElem hj]
    · by_cases h4 : j < off + vs.length
      · have : (splice cur (p + off) vs)[p + off + (j - off)]? = _ := splice_in f1 (List.getElem?_eq_getElem (show j - off < vs.length by omega))
        rw [show p + off + (j - off) = p + j by omega] at this
        rw [this, List.append_assoc, List.getElem?_append_right (by omega), hto, List.getElem?_append_left (by omega), List.getElem?_eq_getElem (show j - off < vs.length by omega)]
      · rw [splice_out f1 (by omega), hes j _ (List.getElem?_eq_getElem hj), List.append_assoc, List.getElem?_append_right (by omega), hto, List.getElem?_append_right (by omega), List.getElem?_drop, show off + vs.length + (j - off - vs.length) = j by omega, List.getElem?_eq_getElem hj]
  · rw [splice_out f1 (by omega), splice_out f2 (by rw [hlen]; omega)]
theorem run_arrSetP {α : Type} {F : FRel α} {A : Option Addr} {n c : Nat} {cur : Array Value} {xs : List α} {i : Int} {x y : α} {t : TypeId} {a ox : Operand} {v : Value} {off b oo : Nat} {L : List HProp} (h : Wd G w f (Arr A c cur :: L)) (hok : ArrOk f F A n c cur xs)
    (hx : idx xs i = some x) (hA : A = some ⟨b, oo, none⟩) (ha : ev ρ a = .pointer (some ⟨b, oo + i.toNat * F.n + off, none⟩)) (ho : ev ρ ox = v) (hs : tySize P t = some v.cells.size) (hle : off + v.cells.toList.length ≤ F.n) (h1 : ∀ u ∈ v.cells.toList, u.oneCell' = true)
    (hy : ∀ es, F.p f es x → F.p f (es.take off ++ v.cells.toList ++ es.drop (off + v.cells.toList.length)) y) :
    ∃ w', (execOp (ev ρ) ⟨dst, .store t a ox, ty, pos, after, guard⟩).run P w = .ok .skip w' ∧ ∃ cur', ArrOk f F A n c cur' (setI xs i y) ∧ Wd G w' f (Arr A c cur' :: L) := by
  obtain ⟨b1, o1, es, hA1, hce, hE⟩ := arr_el hok hx
  rw [hA] at hA1
  injection hA1 with hA1
  injection hA1 with e1 e2
  subst e1 e2
  have hel := F.len hE
  have hu := wd_unpin hok h
  obtain ⟨b', o', cu, bt, hA', hb, hfit, hw⟩ := own_set0 hu hx (hy es hE)
  rw [hA] at hA'
  injection hA' with hA'
  injection hA' with e1 e2
  subst e1 e2
  obtain ⟨cur', hok', hw'⟩ := wd_pin hw
  have hnl : (es.take off ++ v.cells.toList ++ es.drop (off + v.cells.toList.length)).length = es.length := by simp only [List.length_append, List.length_take, List.length_drop]; omega
  rw [hnl] at hfit
  have hces : ∀ j u, es[j]? = some u → cu[oo + i.toNat * F.n + j]? = some u := fun j u hj => by
    have := wd_arr 0 h rfl hA (hce j u hj)
    rw [eAdr_add hA, cell_of hb] at this
    exact this
  rw [← splice_part hces hfit (by omega)] at hw'
  refine ⟨_, run_store ha ho hs hb (by have : v.cells.toList.length = v.cells.size := by simp
                                       omega) h1, cur', (own_len 0 hu rfl).1 ▸ hok', hw'⟩
theorem take_blk (hs : SimF G L0 f0 σ0 M E N f σ ρ w) {i t n : Nat} (hM : M (.b i) = some (.blk t n)) :
    ∃ E2 L2 b vals, Once E2 ∧ (∀ x, x ∈ E2 ↔ x ∈ E ∧ x.1 ≠ i) ∧ Ents f σ M E2 L2 ∧ σ i = some (.blk b) ∧ vals.length = n ∧ (∀ j v, vals[j]? = some v → v.oneCell' = true ∧ ∃ c, M (.c i j) = some (.c c) ∧ CRel f σ c v) ∧
      Wd G w f (Blk b (.cells (List.toArray vals) t (0, 0)) :: (L2 ++ L0)) := by
  obtain ⟨E1, L1, k1, k2, k3, k4⟩ := hs.ents
  obtain ⟨A, L2, hr, he, hw⟩ := Ents.take (P := []) k1 ((k2 _).2 (hs.blks i t n hM)) k3 k4
  obtain ⟨b, vals, h1, rfl, h3, h4, h5⟩ := hr
  exact ⟨_, L2, b, vals, k1.delE, fun x => by rw [mem_delE, k2], he, h1, h3, h5, hw⟩
theorem dvOf_does (htt : ttOk P tt = true) (hs : SimF G L0 f0 σ0 M E N f σ ρ w) {ti : TI B} (hti : tiOk P ti = true) {x : Operand} {ad : Addr} {cs : List (Cel B)} {vs : List Value} (hx : ev ρ x = .pointer (some ad)) (hc : CRels f σ cs vs) (hl : vs.length = ti.size)
    (hcell : ∀ j v, vs[j]? = some v → w.cell? (ad.add j) = some v) (hn0 : ad.spot = none) (h : (dvOf ti.agg cs valD).Ran M out rs) :
    Does P ⟨dst, .load ti.id x, ty, pos, after, guard⟩ ρ w (Goal G L0 f0 σ0 M E N base f σ ρ out) := by
  have ft := tiOk_facts hti
  have hagg := ft.agg
  unfold dvOf at h
  split at h
  · rename_i cs' e1
    rw [e1] at hagg
    obtain rfl := ret_ran h
    exact does_pure hs (run_loadN hagg ft.size hl hx hcell) ⟨vs, rfl, hc⟩
  · rename_i c e1
    rw [e1] at hagg
    obtain rfl := ret_ran h
    cases vs with
    | nil => exact hc.elim
    | cons v vs =>
      cases vs with
      | nil =>
        have := hcell 0 v rfl
        refine does_pure hs (run_load1 hagg hx ?_) hc.1
        obtain ⟨b, o, s⟩ := ad
        simpa [Addr.add] using this
      | cons _ _ => exact hc.2.elim
  · exact h.elim
theorem castSS {e e' : Ty} {xs : List (List (den B.T e))} {ys : List (List (den B.T e'))} (h : castD B (.sl (.sl e)) (.sl (.sl e')) xs = some ys) : ∃ q : e = e', ys = q ▸ xs := by
  obtain ⟨q, h1⟩ := castD_eq h
  injection q with q
  injection q with q
  subst q
  exact ⟨rfl, h1⟩
theorem curG_ran {ρr : Type} {o : ρr} {g : Nat} {e : Ty} {i j : Int} {x : den B.T e} {off s h : Nat} {v : Value} {k : List (List (den B.T e)) → List (den B.T e) → Nat → Option Int → Nat → den B.T e → RM B ρr} (hx : CRel f σ (.gel g e i j x off s h) v)
    (hs : SimF G L0 f0 σ0 M E N f σ ρ w) (hr : (curG B g e i j x s h k).Ran M o rs) :
    ∃ rows row s' nn z rs', M (.a g) = some (.grid e rows s' h none nn) ∧ idx rows i = some row ∧ idx row j = some z ∧ (k rows row h none nn z).Ran M o rs' := by
  obtain ⟨rs2, h2⟩ := read_ran hr
  clear hr
  cases hM : M (.a g) with
  | none => rw [hM] at h2; exact h2.elim
  | some q =>
    rw [hM] at h2
    cases q <;> try exact h2.elim
    rename_i e' rows s' h' hole nn
    obtain ⟨hk, h3⟩ := chk_ran h2
    clear h2
    simp only [Bool.and_eq_true] at hk
    have := Nat.eq_of_beq_eq_true hk.1
    subst this
    have hn : hole = none := by cases hole with | none => rfl | some _ => cases hk.2
    subst hn
    obtain ⟨rows', hc, h4⟩ := opt_ran h3
    clear h3
    obtain ⟨rfl, rfl⟩ := castSS hc
    obtain ⟨row, hrow, h5⟩ := bind_ran h4
    clear h4
    cases hss : Nat.beq s s' with
    | true =>
      rw [hss] at h5
      have := Nat.eq_of_beq_eq_true hss
      subst this
      obtain ⟨E2, L2, A, n, c, cur, hdl, rl, r1, r2, r3, r4, r5, r5', r6, r7, r9⟩ := take_grid hs hM
      obtain ⟨_, l, b, oo, m, q, rows0, row0, a1, a2, a3, a4, a5, a6⟩ := hx
      rw [a4] at r5
      injection r5 with r5
      injection r5 with _ r5
      have r5 : rows0 = rows' := r5
      subst r5
      have e := a5.symm.trans hrow
      injection e with e
      have e : row0 = row := e
      subst e
      exact ⟨_, _, s, nn, x, _, rfl, a5, a6, h5⟩
    | false =>
      rw [hss] at h5
      obtain ⟨z, hz, h6⟩ := bind_ran h5
      exact ⟨_, row, s', nn, z, _, rfl, hrow, hz, h6⟩
theorem gather {α : Type} {E : FRel α} {g : Nat → Option Value} : ∀ {xs : List α} {o : Nat}, (∀ i y, xs[i]? = some y → ∃ es, (∀ j u, es[j]? = some u → g (o + i * E.n + j) = some u) ∧ E.p f es y) →
    ∃ ess, RelAll E f ess xs ∧ ∀ j u, ess.flatten[j]? = some u → g (o + j) = some u
  | [], _, _ => ⟨[], trivial, fun j u h => by simp at h⟩
  | x :: xs, o, h => by
    obtain ⟨es, h1, h2⟩ := h 0 x rfl
    obtain ⟨ess, h3, h4⟩ := gather (xs := xs) (o := o + E.n) fun i y hi => by
      obtain ⟨es, k1, k2⟩ := h (i + 1) y (by simpa using hi)
      refine ⟨es, fun j u hj => ?_, k2⟩
      have := k1 j u hj
      rw [Nat.add_mul, Nat.one_mul] at this
      rw [show o + E.n + i * E.n + j = o + (i * E.n + E.n) + j by omega]
      exact this
    refine ⟨es :: ess, ⟨h2, h3⟩, fun j u hj => ?_⟩
    rw [List.flatten_cons] at hj
    have hl := E.len h2
    by_cases q : j < es.length
    · rw [List.getElem?_append_left q] at hj
      have := h1 j u hj
      rwa [Nat.zero_mul, Nat.add_zero] at this
    · rw [List.getElem?_append_right (by omega)] at hj
      have := h4 _ u hj
      rwa [show o + E.n + (j - es.length) = o + j by omega] at this
theorem glen_spec {α : Type} {xs : List α} {n : Nat} {u : Unit} (h : glen xs n = some u) : xs.length = n := by
  unfold glen at h; split at h
  · assumption
  · cases h
theorem gix_spec {m : Nat} {i : Int} {u : Unit} (h : gix m i = some u) : 0 ≤ i ∧ i < m := by
  unfold gix at h; split at h
  · assumption
  · cases h
theorem ldA_does (htt : ttOk P tt = true) (hs : SimF G L0 f0 σ0 M E N f σ ρ w) {ti : TI B} (k1 : tiOk P ti = true) {x : Operand} {e : Ty} {xs : List (den B.T e)} {off : Int} {b o : Nat}
    (hv : ev ρ x = .pointer (some ⟨b, o + off.toNat, none⟩)) (hget : ∀ i y, xs[i]? = some y → ∃ es, (∀ j u, es[j]? = some u → w.cell? ⟨b, o + i * (relB B e).n + j, none⟩ = some u) ∧ (relB B e).p f es y) (h : (ldA ti e xs off).Ran M out rs) :
    Does P ⟨dst, .load ti.id x, ty, pos, after, guard⟩ ρ w (Goal G L0 f0 σ0 M E N base f σ ρ out) := by
  unfold ldA at h
  obtain ⟨hq, h1⟩ := chk_ran h
  clear h
  simp only [Bool.and_eq_true] at hq
  have hn := Nat.eq_of_beq_eq_true hq.1
  split at h1
  · rename_i hag
    obtain ⟨hq2, h2⟩ := chk_ran h1
    have hsz := Nat.eq_of_beq_eq_true hq2
    obtain ⟨y, hy, h3⟩ := bind_ran h2
    obtain ⟨i0, i1, i2⟩ := idx_spec hy
    obtain ⟨es, c1, c2⟩ := hget _ _ i2
    have hc : CRels f σ (cellsOf e y) es := cellsOf_ok hq.2 c2
    have hl := (relB B e).len c2
    refine dvOf_does htt hs k1 hv hc (by omega) (fun j v hj => ?_) rfl (by rw [hag]; exact h3)
    have := c1 j v hj
    rw [hn, Nat.mul_one] at this
    rw [add_none]; exact this
  · rename_i hag
    split at h1 <;> try exact h1.elim
    obtain ⟨u, hg, h2⟩ := bind_ran h1
    have hg := glen_spec hg
    obtain rfl := ret_ran h2
    obtain ⟨ess, r1, r2⟩ := gather (f := f) (E := relB B e) (g := fun j => w.cell? ⟨b, j, none⟩) (xs := xs) (o := o) hget
    have ft := tiOk_facts k1
    have hl : ess.flatten.length = xs.length * (relB B e).n := relAll_len r1
    refine does_pure hs (run_loadN (n := ti.size) (cs := ess.flatten) (by rw [ft.agg, hag]) ft.size (by rw [hl, hn, Nat.mul_one, hg]) hv fun j v hj => ?_) ⟨_, rfl, rfl, ess, rfl, r1⟩
    rw [add_none]
    exact r2 j v hj
theorem load_does (htt : ttOk P tt = true) (hs : SimF G L0 f0 σ0 M E N f σ ρ w) {t : TypeId} {x : Operand} (h : (opProg tt base (.load t x)).Ran M out rs) :
    Does P ⟨dst, .load t x, ty, pos, after, guard⟩ ρ w (Goal G L0 f0 σ0 M E N base f σ ρ out) := by
  obtain ⟨cx, rs1, hx, h1⟩ := opd1_ran hs h
  clear h
  cases hti : tfind tt t with
  | none => rw [hti] at h1; exact h1.elim
  | some ti =>
    rw [hti] at h1
    obtain ⟨k1, rfl⟩ := tfind_ok htt hti
    have stay : ∀ (b a off : Nat) (e : Ty) (y : den B.T e) (ds : List Value) (rs : List Loc), ev ρ x = .pointer (some ⟨b, a + off, none⟩) → (∀ j u, ds[j]? = some u → w.cell? ⟨b, a + j, none⟩ = some u) → (relB B e).p f ds y → okT B 8 e = true →
        off + ti.size ≤ (relB B e).n → (dvOf ti.agg (((cellsOf e y).drop off).take ti.size) valD).Ran M out rs → Does P ⟨dst, .load ti.id x, ty, pos, after, guard⟩ ρ w (Goal G L0 f0 σ0 M E N base f σ ρ out) := by
      intro b a off e y ds rs hv hcell hp hok hle h
      have hc : CRels f σ (cellsOf e y) ds := cellsOf_ok hok hp
      have hdl := (relB B e).len hp
      refine dvOf_does htt hs k1 hv ((hc.drop off).take ti.size) (by simp; omega) (fun j v hj => ?_) rfl h
      have hlt : j < ti.size := by have := (List.getElem?_eq_some_iff.1 hj).1; simp at this; omega
      rw [List.getElem?_take_of_lt hlt, List.getElem?_drop] at hj
      rw [add_none, Nat.add_assoc]
      exact hcell _ _ hj
    cases cx <;> try exact h1.elim
    case pa i off =>
      obtain ⟨rs2, h2⟩ := read_ran h1
      clear h1
      cases hM : M (.a i) with
      | none => rw [hM] at h2; exact h2.elim
      | some q =>
        rw [hM] at h2
        cases q <;> try exact h2.elim
        rename_i e xs s nn
        obtain ⟨b, o, n, c, q1, hv, _⟩ := hx
        obtain ⟨E2, L2, A, n', c', cur, r1, r2, r3, r4, r5, r6, r7, r8, r9⟩ := take_arr hs hM
        rw [q1] at r4
        injection r4 with r4
        injection r4 with a1 a2 a3
        subst a1 a2 a3
        refine ldA_does htt hs k1 hv (fun i' y hy => ?_) h2
        obtain ⟨es, c1, c2⟩ := r6.get i' y hy
        refine ⟨es, fun j u hj => ?_, c2⟩
        have := wd_arr 0 r9 rfl rfl (c1 j u hj)
        rwa [eAdr_add rfl] at this
    case pf e xs off =>
      obtain ⟨b, o, hv, _, hsl⟩ := hx
      refine ldA_does htt hs k1 hv (fun i' y hy => ?_) h1
      obtain ⟨b', o', es, hA, c1, c2⟩ := hsl.get i' y hy
      injection hA with hA
      injection hA with e1 e2
      subst e1 e2
      refine ⟨es, fun j u hj => ?_, c2⟩
      obtain ⟨E1, L1, _, _, _, k4⟩ := hs.ents
      exact k4.fz (c1 j u hj)
    case ptr i off =>
      obtain ⟨rs2, h2⟩ := read_ran h1
      clear h1
      cases hM : M (.b i) with
      | none => rw [hM] at h2; exact h2.elim
      | some q =>
        rw [hM] at h2
        cases q <;> try exact h2.elim
        rename_i bt n
        obtain ⟨hle, h3⟩ := chk_ran h2
        clear h2
        have hle := Nat.le_of_ble_eq_true hle
        obtain ⟨E2, L2, b, vals, q1, q2, q3, q4, q5, q6, q7⟩ := take_blk hs hM
        obtain ⟨cs, rs3, hc, h4⟩ := readC_ran hs (fun j v hv => (q6 j v hv).2) (by omega) h3
        obtain ⟨b', r1, hv⟩ := hx
        rw [q4] at r1
        injection r1 with r1
        injection r1 with r1
        subst r1
        refine dvOf_does htt hs k1 hv hc (by simp; omega) (wd_cells 0 q7 rfl ?_) rfl h4
        simp
    case opt e y0 =>
      obtain ⟨y, hy, h1⟩ := bind_ran h1
      obtain ⟨hk, h2⟩ := chk_ran h1
      simp only [Bool.and_eq_true] at hk
      obtain ⟨b, ds, bt, fr, hv, q1, q2⟩ := fOpt_some hx hy
      refine stay b 0 0 e y ds _ hv (fun j u hj => ?_) q2 hk.1 (by have := Nat.le_of_ble_eq_true hk.2; omega) (by simpa using h2)
      have e1 : w.heap[b]? = some (.cells ds.toArray bt fr) := by
        obtain ⟨E1, L1, _, _, _, k4⟩ := hs.ents
        exact k4.fro _ _ q1
      rw [Nat.zero_add, cell_of e1]
      simpa using hj
    case fpt e y =>
      obtain ⟨hk, h2⟩ := chk_ran h1
      simp only [Bool.and_eq_true] at hk
      obtain ⟨b, ds, bt, fr, hv, q1, q2⟩ := hx
      refine stay b 0 0 e y ds _ hv (fun j u hj => ?_) q2 hk.1 (by have := Nat.le_of_ble_eq_true hk.2; omega) (by simpa using h2)
      have e1 : w.heap[b]? = some (.cells ds.toArray bt fr) := by
        obtain ⟨E1, L1, _, _, _, k4⟩ := hs.ents
        exact k4.fro _ _ q1
      rw [Nat.zero_add, cell_of e1]
      simpa using hj
    case fel e y off =>
      obtain ⟨hk, h2⟩ := chk_ran h1
      simp only [Bool.and_eq_true] at hk
      obtain ⟨b, a, ds, hv, q1, q2⟩ := hx
      refine stay b a off e y ds _ hv (fun j u hj => ?_) q2 hk.1 (Nat.le_of_ble_eq_true hk.2) h2
      obtain ⟨E1, L1, _, _, _, k4⟩ := hs.ents
      exact k4.fz (q1 j u hj)
    case gop g e i =>
      obtain ⟨hk, h2⟩ := chk_ran h1
      clear h1
      simp only [Bool.and_eq_true, Bool.not_eq_true'] at hk
      obtain ⟨rs2, h3⟩ := read_ran h2
      clear h2
      cases hM : M (.a g) with
      | none => rw [hM] at h3; exact h3.elim
      | some q =>
        rw [hM] at h3
        cases q <;> try exact h3.elim
        rename_i e' rows s hh hole nn
        cases hole with
        | some j => exact h3.elim
        | none =>
        obtain ⟨row, hrow, h4⟩ := bind_ran h3
        obtain rfl := ret_ran h4
        obtain ⟨E2, L2, A, n, c, cur, hdl, rl, r1, r2, r3, r4, r5, r5', r6, r7, r9⟩ := take_grid hs hM
        obtain ⟨b, oo, n', c', q1, hv⟩ := hx
        rw [q1] at r4
        injection r4 with r4
        injection r4 with a1 a2 a3
        subst a1 a2 a3
        obtain ⟨b', o', B', m, q, r, hA, hce, hhd, hrr, hok⟩ := grid_el r6 hrow (fun hf => hf)
        have ft := tiOk_facts k1
        have hagg := ft.agg
        rw [hk.1] at hagg
        refine does_pure hs (run_load1 hagg hv ?_) ⟨⟨_, q1⟩, hdl, (B', m, q), r5', hhd, rfl⟩
        have := wd_gridTop 0 r9 rfl rfl (hce 0 _ rfl)
        rwa [eAdr_add rfl, Nat.add_zero] at this
    case gel g e i j y off s hh =>
      obtain ⟨hk, h2⟩ := chk_ran h1
      clear h1
      simp only [Bool.and_eq_true] at hk
      obtain ⟨rows, row, s', nn, z, rs2, hM, hrow, hz, h3⟩ := curG_ran hx hs h2
      obtain ⟨E2, L2, A, n, c, cur, hdl, rl, r1, r2, r3, r4, r5, r5', r6, r7, r9⟩ := take_grid hs hM
      obtain ⟨_, l, b, oo, m, q, rows0, row0, a1, a2, a3, a4, a5, a6⟩ := hx
      rw [a1] at r5'
      injection r5' with r5'
      injection r5' with r5'
      subst r5'
      obtain ⟨b', o', B', m', q', r, hA, hce, hhd, hrr, hok⟩ := grid_el r6 hrow (fun hf => hf)
      rw [a2] at hhd
      injection hhd with hhd
      injection hhd with e1 e2
      injection e2 with e2 e3
      subst e1 e2 e3
      obtain ⟨b2, o2, es, hB, hce2, hE⟩ := arr_el hok hz
      injection hB with hB
      injection hB with e1 e2
      subst e1 e2
      refine stay b (oo + j.toNat * (relB B e).n) off e z es _ a3 (fun j' u hj => ?_) hE hk.1 (Nat.le_of_ble_eq_true hk.2) h3
      have := wd_gridRow 0 r9 rfl a2 hrr rfl (hce2 j' u hj)
      rwa [eAdr_add rfl] at this
    case oel a e i y off s =>
      obtain ⟨hk, h2⟩ := chk_ran h1
      clear h1
      simp only [Bool.and_eq_true] at hk
      obtain ⟨b, oo, n, c, xs0, q1, hv, q2, q3⟩ := hx
      obtain ⟨rs2, h3⟩ := read_ran h2
      clear h2
      have other : ∀ rs, (curEl B a e i y s fun _ _ z => dvOf ti.agg (((cellsOf e z).drop off).take ti.size) valD).Ran M out rs → Does P ⟨dst, .load ti.id x, ty, pos, after, guard⟩ ρ w (Goal G L0 f0 σ0 M E N base f σ ρ out) := by
        intro rs h
        obtain ⟨rs3, h4⟩ := read_ran h
        cases hM : M (.a a) with
        | none => rw [hM] at h4; exact h4.elim
        | some q =>
          rw [hM] at h4
          cases q <;> try exact h4.elim
          rename_i e' ys s' nn
          obtain ⟨ys', hc, h5⟩ := opt_ran h4
          clear h4
          obtain ⟨rfl, rfl⟩ := castSl hc
          obtain ⟨E2, L2, A, n', c', cur, r1, r2, r3, r4, r5, r6, r7, r8, r9⟩ := take_arr hs hM
          rw [q1] at r4
          injection r4 with r4
          injection r4 with a1 a2 a3
          subst a1 a2 a3
          have go : ∀ z rs, idx ys' i = some z → (dvOf ti.agg (((cellsOf e' z).drop off).take ti.size) valD).Ran M out rs → Does P ⟨dst, .load ti.id x, ty, pos, after, guard⟩ ρ w (Goal G L0 f0 σ0 M E N base f σ ρ out) := by
            intro z rs hz h
            obtain ⟨b', o', es, hA, hce, hE⟩ := arr_el r6 hz
            injection hA with hA
            injection hA with e1 e2
            subst e1 e2
            refine stay b (oo + i.toNat * (relB B e').n) off e' z es _ hv (fun j u hj => ?_) hE hk.1 (Nat.le_of_ble_eq_true hk.2) h
            have := wd_arr 0 r9 rfl rfl (hce j u hj)
            rwa [eAdr_add rfl] at this
          cases hss : Nat.beq s s' with
          | true =>
            rw [hss] at h5
            have := Nat.eq_of_beq_eq_true hss
            subst this
            rw [q2] at r5
            injection r5 with r5
            injection r5 with _ r5
            subst r5
            exact go _ _ q3 h5
          | false =>
            rw [hss] at h5
            obtain ⟨z, hz, h6⟩ := bind_ran h5
            exact go z _ hz h6
      cases hM : M (.a a) with
      | none => rw [hM] at h3; exact other _ h3
      | some q =>
        rw [hM] at h3
        cases q <;> try exact other _ h3
        rename_i e' ys nn
        obtain ⟨ys', hc, h4⟩ := opt_ran h3
        clear h3
        obtain ⟨rfl, rfl⟩ := castSl hc
        obtain ⟨z, hz, h5⟩ := bind_ran h4
        obtain ⟨A, n', c', r1, r2, _⟩ := hs.fzs a e' _ nn hM
        rw [q1] at r1
        injection r1 with r1
        injection r1 with a1 a2 a3
        subst a1 a2 a3
        obtain ⟨b', o', es, hA, hce, hE⟩ := sl_el r2 hz
        injection hA with hA
        injection hA with e1 e2
        subst e1 e2
        refine stay b (oo + i.toNat * (relB B e').n) off e' z es _ hv (fun j u hj => ?_) hE hk.1 (Nat.le_of_ble_eq_true hk.2) h5
        obtain ⟨E1, L1, _, _, _, k4⟩ := hs.ents
        have := k4.fz (hce j u hj)
        rwa [eAdr_add rfl] at this
end
end Hd
