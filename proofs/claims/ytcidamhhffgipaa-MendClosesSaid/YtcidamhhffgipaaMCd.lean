/- Proves MendClosesSaid: MendCloses returns true, whatever table it is given, and leaves it as it was. No condition. -/
import Derived.Test.YtcidamhhffgipaaMCy
import Derived.Test.YtcidamhhffgipaaMCz
set_option linter.unusedVariables false
set_option linter.unusedSimpArgs false
namespace Mc
open Go Hk Hd Pl

theorem awake : fishkeep2_awakeMend = some true := by kernel_rfl
theorem rounds : fishkeep2_rounds = some true := by kernel_rfl
theorem wide_tot (m : List (List Int)) : Tot (fishkeep2_wide m) (fun b => (b = false ∧ ∀ r ∈ m, ∀ x ∈ r, okN x) ∨ (b = true ∧ ∃ r ∈ m, ∃ x ∈ r, ¬ okN x)) := by
  unfold fishkeep2_wide
  refine tot_allX (P := fun _ r => ∀ x ∈ r, okN x) (E := fun y => y = true ∧ ∃ r ∈ m, ∃ x ∈ r, ¬ okN x) (fun i r hr => ?_) (fun h => tot_some (.inl ⟨rfl, mem_of_all h⟩)) (fun y hy => tot_some (.inr hy))
  unfold fishkeep2_wide_b1
  refine tot_allX (P := fun _ x => okN x) (E := fun y => y = true ∧ ∃ x ∈ r, ¬ okN x) (fun j x hx => ?_) (fun h => tot_some (mem_of_all h)) (fun y hy => tot_some ⟨hy.1, r, List.mem_of_getElem? hr, hy.2⟩)
  unfold fishkeep2_wide_b2
  refine tot_bind (P := fun b => b = true ↔ ¬ okN x) ?_ fun b _ hb => tot_ifb (fun h => tot_some ⟨rfl, x, List.mem_of_getElem? hx, hb.1 h⟩) fun h => tot_some ?_
  · simp only [tot_ifb_iff, tot_some_iff, okN, NN]
    refine ⟨fun h => ⟨fun h' => ?_, fun h' => ?_⟩, fun h => ?_⟩
    · simp at h h' ⊢; omega
    · simp at h h' ⊢; omega
    · simp at h ⊢; omega
  · exact Classical.byContradiction fun hn => by rw [hb.2 hn] at h; cases h
theorem equal_self (r : List Int) : slices_Equal_int_int r r = some true := by
  refine tot_eq ?_
  unfold slices_Equal_int_int
  refine tot_ifb (fun h => by simp at h) fun _ => ?_
  refine tot_allX (P := fun _ _ => True) (E := fun _ => False) (fun i x hx => ?_) (fun _ => tot_some rfl) (fun y hy => hy.elim)
  unfold slices_Equal_int_int_b1
  have hi := (List.getElem?_eq_some_iff.1 hx).1
  refine tot_bind' (x := x) ?_ (tot_ifb (fun h => by simp at h) fun _ => tot_some trivial)
  rw [idx_get hi, (List.getElem?_eq_some_iff.1 hx).2]
theorem equalF_self (m : List (List Int)) : slices_EqualFunc_int_int_int_int m m = some true := by
  refine tot_eq ?_
  unfold slices_EqualFunc_int_int_int_int
  refine tot_ifb (fun h => by simp at h) fun _ => ?_
  refine tot_allX (P := fun _ _ => True) (E := fun _ => False) (fun i x hx => ?_) (fun _ => tot_some rfl) (fun y hy => hy.elim)
  unfold slices_EqualFunc_int_int_int_int_b1
  have hi := (List.getElem?_eq_some_iff.1 hx).1
  refine tot_bind' (x := x) ?_ (tot_bind' (equal_self x) (tot_ifb (fun h => by simp at h) fun _ => tot_some trivial))
  rw [idx_get hi, (List.getElem?_eq_some_iff.1 hx).2]
theorem no_gain {n : Nat} {c : Nat → Nat → Int} (h : Tri n c) : ¬ Gain n c := by
  rintro ⟨v, l, w, hv, hw, hp⟩
  have := (wk_le h (fun i j hi hj h => ⟨h, Int.le_refl _⟩) hw).2
  rw [h.diag v hv] at this
  omega
theorem mendCloses (p : List (List Int)) : fishkeep2_MendCloses p = some true := by
  refine tot_eq ?_
  unfold fishkeep2_MendCloses
  refine tot_bind' awake ?_
  refine tot_ifb (fun h => by simp at h) fun _ => ?_
  refine tot_bind' rounds ?_
  refine tot_ifb (fun h => by simp at h) fun _ => ?_
  refine tot_bind (closure_tot p) fun x _ hx => ?_
  rcases hx with ⟨x0, xN, _⟩ | ⟨x0, hT, hS, hC⟩
  · refine tot_ifb (fun _ => tot_some (by rw [xN]; rfl)) fun h => ?_
    simp at h; exact absurd h x0
  obtain ⟨c, ec⟩ := x
  simp only at x0 hS hC
  subst x0
  refine tot_ifb (fun h => by simp at h) fun _ => ?_
  have hn := hT.n8
  have hcl := hS.len
  refine tot_bind (closure_tot c) fun z _ hz => ?_
  refine tot_bind (P := (· = false)) ?_ fun b _ hb => ?_
  · refine tot_ifb (fun h => ?_) fun h => tot_some rfl
    have hz0 : z.2 ≠ 0 := by simpa using h
    rcases hz with ⟨_, _, hG⟩ | ⟨h0, _⟩
    · refine tot_bind (wide_tot c) fun b _ hb => tot_some ?_
      rcases hb with ⟨_, hok⟩ | ⟨rfl, _⟩
      · exfalso
        rw [hcl] at hG
        exact no_gain hC.tri (hG ⟨hn, hS, hok⟩)
      · rfl
    · exact absurd h0 hz0
  subst hb
  refine tot_ifb (fun h => by cases h) fun _ => ?_
  refine tot_bind (P := (· = false)) ?_ fun b _ hb => ?_
  · refine tot_ifb (fun h => ?_) fun h => tot_some rfl
    have hz0 : z.2 = 0 := by simpa using h
    rcases hz with ⟨h0, _⟩ | ⟨_, _, hS2, hC2⟩
    · exact absurd hz0 h0
    · rw [hcl] at hS2 hC2
      have : z.1 = c := sq_ext hS2 hS fun i j hi hj => CL.again hC.tri hC2 i j hi hj
      rw [this]
      exact tot_bind' (equalF_self c) (tot_some rfl)
  subst hb
  refine tot_ifb (fun h => by cases h) fun _ => ?_
  refine tot_bind' (gmake_eq (by omega) (by simp only [mkRoom]; omega) (by simp only [maxLen]; omega)) ?_
  rw [Int.toNat_natCast]
  generalize hN : p.length = n at hn hT hS hC hcl
  -- one step, or none
  refine tot_loopX (I := fun k s => k ≤ n ∧ s.length = n ∧ ∀ i, i < k → (rw_ s i).length = n ∧ ∀ j, j < n → at2 s i j = if i = j then max (at2 p i j) 0 else at2 p i j) (J := fun s => Sq n s ∧ ∀ i j, i < n → j < n → at2 s i j = if i = j then max (at2 p i j) 0 else at2 p i j) (E := fun _ => False) ⟨by omega, by simp, fun i h => by omega⟩ (fun k r s hr hI => ?_) (fun s hI => ?_) (fun s hs => ?_) (fun _ h => h.elim)
  · obtain ⟨_, hsl, hI⟩ := hI
    have hkl := (List.getElem?_eq_some_iff.1 hr).1
    have hkn : k < n := by omega
    have hre : rw_ p k = r := nth_nat [] hr
    have hrl := hT.sq.row k hkn
    rw [hre] at hrl
    have hcl : slices_Clone_int_int r = some r := by
      have : gapp 8 ([] : List Int) r = some r := by
        rw [gapp_eq (by simp only [apRoom, List.length_nil]; omega) (by simp only [maxLen, List.length_nil]; omega)]; simp
      simp [slices_Clone_int_int, slices_Clone_int_int_v2, ifb, this]
    have e1 : idx s (k : Int) = some (rw_ s k) := idx_row (by omega)
    have e2 : idx (setI s (k : Int) r) (k : Int) = some r := idx_set (by omega)
    have e3 : idx r (k : Int) = some (nI r (k : Int)) := idx_nI (by omega) (by omega)
    have hrk : nI r (k : Int) = at2 p k k := by unfold at2; rw [hre]
    unfold fishkeep2_MendCloses_b1
    refine tot_ifb (fun h => by simp at h; omega) fun _ => ?_
    refine tot_bind' hcl ?_
    simp only [e1, e2, e3, Option.bind_some, show holeOk none (k : Int) = some () from rfl, set_set]
    refine tot_some ⟨by omega, by rw [setI_length]; exact hsl, fun i hi => ?_⟩
    have hrw := row_set (s := s) (i := k) (r := setI r (k : Int) (gmax (nI r (k : Int)) 0)) (by omega) i (by omega)
    unfold at2
    rw [hrw]
    by_cases hik : i = k
    · subst hik
      rw [if_pos rfl]
      refine ⟨by rw [setI_length]; exact hrl, fun j hj => ?_⟩
      rw [show nI (setI r (i : Int) (gmax (nI r (i : Int)) 0)) (j : Int) = if ((j : Nat) : Int) = i then gmax (nI r (i : Int)) 0 else nI r (j : Int) from nth_setI 0 (by omega) (by omega) (by omega)]
      by_cases hij : i = j
      · subst hij
        rw [if_pos rfl, if_pos rfl, gmax_eq, hre]
      · rw [if_neg (by omega), if_neg hij, hre]
    · rw [if_neg hik]
      exact hI i (by omega)
  · obtain ⟨_, hsl, hI⟩ := hI
    rw [hN] at hI
    exact ⟨⟨hsl, fun i hi => (hI i hi).1⟩, fun i j hi hj => (hI i hi).2 j hj⟩
  obtain ⟨hsq, hse⟩ := hs
  have hst : ∀ i j, i < n → j < n → at2 s i j = if i = j then 0 else at2 p i j := fun i j hi hj => by
    rw [hse i j hi hj]
    by_cases hij : i = j
    · subst hij
      rw [if_pos rfl, if_pos rfl]
      by_cases hf : at2 p i i = NN
      · rw [hf]; decide
      · have := (hC.ge i i hi hi hf).2
        rw [hC.tri.diag i hi] at this
        omega
    · rw [if_neg hij, if_neg hij]
  have hsT : Table n s := ⟨hn, hsq, fun r hr x hx => by
    obtain ⟨i, hi⟩ := List.getElem?_of_mem hr
    obtain ⟨j, hj⟩ := List.getElem?_of_mem hx
    have hil := (List.getElem?_eq_some_iff.1 hi).1
    have hjl := (List.getElem?_eq_some_iff.1 hj).1
    have hsl := hsq.len
    have hre : rw_ s i = r := nth_nat [] hi
    have hrl := hsq.row i (by omega)
    rw [hre] at hrl
    have : at2 s i j = x := by unfold at2; rw [hre]; exact nth_nat 0 hj
    rw [← this, hst i j (by omega) (by omega)]
    split
    · exact .inr ⟨by omega, by omega⟩
    · exact hT.at (by omega) (by omega)⟩
  refine tot_loopN (I := fun k st => st.2 = s ∧ Sq n st.1 ∧ Pow n (at2 s) (k + 1) (at2 st.1)) (J := fun st => st.2 = s ∧ Sq n st.1 ∧ Pow n (at2 s) (n + 1) (at2 st.1)) (E := fun y => y = true) ⟨rfl, hsq, pow_one⟩ (fun k st hk hI => ?_) (fun st hI => hI) (fun st hJ => ?_) (fun y hy => tot_some hy)
  · obtain ⟨h2, hS1, hP⟩ := hI
    unfold fishkeep2_MendCloses_b2
    refine tot_bind (wide_tot st.1) fun b _ hb => ?_
    rcases hb with ⟨rfl, hok⟩ | ⟨rfl, _⟩
    · refine tot_ifb (fun h => by cases h) fun _ => ?_
      rw [h2]
      refine tot_bind (prod_tot ⟨hn, hS1, hok⟩ hsT) fun z _ hz => ?_
      obtain ⟨z0, zS, zP⟩ := hz
      refine tot_ifb (fun h => by rw [z0] at h; simp at h) fun _ => tot_some ⟨rfl, zS, pow_succ hP zP⟩
    · exact tot_ifb (fun _ => tot_some rfl) fun h => by cases h
  · obtain ⟨_, hS1, hP⟩ := hJ
    have : st.1 = c := sq_ext hS1 hS fun i j hi hj => pow_cl hC hst hP i j hi hj
    rw [this]
    exact tot_bind' (equalF_self c) (tot_some rfl)
end Mc
namespace Go.Proofs.Ytcidamhhffgipaa
theorem mendCloses_proved : Rows.MendClosesSaid := MendCloses.close fun p _ => Mc.mendCloses p
end Go.Proofs.Ytcidamhhffgipaa
