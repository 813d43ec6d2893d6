/- Proves MendBoundSaid: MendBound returns true, whatever graph and picks it is given, and leaves them as they were. No condition. -/
import Derived.Test.YtcidamhhffgipaaM3
import Derived.Test.YtcidamhhffgipaaMBC
set_option linter.unusedVariables false
set_option linter.unusedSimpArgs false
namespace Mb
open Go Hk Hd

theorem Solved.keeps {g : S_mend_Graph} {A : List S_mend_Arc} {K : Nat} {t : List Int} {o : List (List S_mend_Arc)} (h : Solved g.Ready.length (rdy g) A K t g.Last o) : Keeps g A (nI t) := ⟨⟨fun v h0 h1 => (h.low v h0 h1).2, h.sat⟩, h.lasts⟩
theorem Done.keeps {g : S_mend_Graph} {A : List S_mend_Arc} {t : List Int} (h : Done g.Ready.length (rdy g) A g.Last t) : Keeps g A (nI t) := ⟨⟨fun v h0 h1 => (h.low v h0 h1).2, h.sat⟩, h.lasts⟩
section
variable {g : S_mend_Graph}
theorem quick_tot (hg : GoodG g) : Tot (mend_Quick g) (fun x => x.2.1 = 5 ∨ (x.2.1 = 0 ∧ ∃ f, Full g f x.1)) := by
  have hcl := hg.choices
  unfold mend_Quick
  refine tot_bind' (checkGraph_good hg) ?_
  refine tot_ifb (fun h => by simp at h) fun _ => ?_
  refine tot_bind (start_tot hg) fun x _ hx => ?_
  refine tot_ifb (fun h => tot_some (.inl rfl)) fun h => ?_
  obtain ⟨s0, e0, hS0, hL0⟩ := hx.right (by simpa using h)
  refine tot_loopX (I := fun k st => k ≤ g.Choices.length ∧ st.2.length = k ∧ (∃ s', st.1 = some s' ∧ SubS g (arcsTo g st.2 k) (250 + 4 * k) s') ∧ ∀ i : Nat, i < k → 1 ≤ nI st.2 (i : Nat) ∧ nI st.2 (i : Nat) ≤ (nth zCh g.Choices (i : Nat)).Ways.length)
    (J := fun st => st.2.length = g.Choices.length ∧ (∃ s', st.1 = some s' ∧ SubS g (arcsTo g st.2 g.Choices.length) (250 + 4 * g.Choices.length) s') ∧ ∀ i : Nat, i < g.Choices.length → 1 ≤ nI st.2 (i : Nat) ∧ nI st.2 (i : Nat) ≤ (nth zCh g.Choices (i : Nat)).Ways.length) (E := fun y => y.2.1 = 5)
    ⟨by omega, rfl, ⟨s0, e0, by rw [arcsTo_zero]; exact ⟨hS0, hL0, hg.arc⟩⟩, fun i h => by omega⟩ (fun k c st hc hI => ?_) (fun st hI => hI.2) (fun st hJ => ?_) (fun y hy => tot_some (.inl hy))
  · obtain ⟨hk, hl, ⟨s', e, hS⟩, hr⟩ := hI
    have hkl := (List.getElem?_eq_some_iff.1 hc).1
    have hce : nth zCh g.Choices (k : Nat) = c := nth_nat zCh hc
    have hws := hg.ways c (List.mem_of_getElem? hc)
    unfold mend_Quick_b1
    refine tot_loopX (I := fun j s => j ≤ c.Ways.length ∧ (s.1 = 0 ∨ (1 ≤ s.1 ∧ s.1 ≤ j ∧ ∃ s2, s.2.2 = some s2 ∧ SubS g (arcsTo g st.2 k ++ wayOf g k s.1) (250 + 4 * k + 4) s2)))
      (J := fun s => s.1 = 0 ∨ (1 ≤ s.1 ∧ s.1 ≤ c.Ways.length ∧ ∃ s2, s.2.2 = some s2 ∧ SubS g (arcsTo g st.2 k ++ wayOf g k s.1) (250 + 4 * k + 4) s2)) (E := fun _ => False) ⟨by omega, .inl rfl⟩ (fun j w s hw hI => ?_) (fun s hI => hI.2) (fun s hJ => ?_) (fun _ h => h.elim)
    · obtain ⟨hj, hI⟩ := hI
      have hjl := (List.getElem?_eq_some_iff.1 hw).1
      have hwg := hws.2 w (List.mem_of_getElem? hw)
      have hwe : w = wayOf g k ((j : Int) + 1) := by
        unfold wayOf
        rw [hce, if_pos (by omega), show (j : Int) + 1 - 1 = (j : Nat) by omega]
        exact (nth_nat [] hw).symm
      have e1 : w64 ((j : Int) + 1) = (j : Int) + 1 := w64_id (by omega) (by have := hws.1; omega)
      have keep : s.1 = 0 ∨ (1 ≤ s.1 ∧ s.1 ≤ ((j + 1 : Nat) : Int) ∧ ∃ s2, s.2.2 = some s2 ∧ SubS g (arcsTo g st.2 k ++ wayOf g k s.1) (250 + 4 * k + 4) s2) := by
        rcases hI with h | ⟨h1, h2, h3⟩
        · exact .inl h
        · exact .inr ⟨h1, by omega, h3⟩
      unfold mend_Quick_b2
      rw [e]
      refine tot_bind (hS.with hg hwg.2 hwg.1 (by omega)) fun x _ hx => ?_
      refine tot_ifb (fun h => tot_some ⟨by omega, keep⟩) fun h => ?_
      obtain ⟨s2, y1, y2⟩ := hx.1 (by simpa using h)
      refine tot_bind' y1 ?_
      refine tot_bind' (delay_eq hg y2.solved.secs) ?_
      refine tot_bind (P := fun _ => True) ?_ fun b _ _ => tot_ifb (fun _ => tot_some ⟨by omega, .inr ?_⟩) fun _ => tot_some ⟨by omega, keep⟩
      · exact tot_ifb (fun _ => tot_some trivial) fun _ => tot_some trivial
      · rw [e1]
        exact ⟨by simp only; omega, by simp only; omega, s2, y1, by rw [← hwe]; exact y2⟩
    · refine tot_ifb (fun h => tot_some rfl) fun h => ?_
      obtain ⟨h1, h2, s2, y1, y2⟩ := hJ.resolve_left (by simpa using h)
      refine tot_bind' (gapp_eq (by simp only [apRoom, List.length_singleton]; omega) (by simp only [maxLen, List.length_singleton]; omega)) (tot_some ?_)
      have en : ∀ i : Nat, i < k → nI (st.2 ++ [s.1]) (i : Nat) = nI st.2 (i : Nat) := fun i hi => by simp [nI, nth, List.getElem?_append_left (show i < st.2.length by omega)]
      have ek : nI (st.2 ++ [s.1]) (k : Nat) = s.1 := by simp [nI, nth, ← hl]
      refine ⟨by omega, by simp; omega, ⟨s2, y1, ?_⟩, fun i hi => ?_⟩
      · rw [arcsTo_succ, ek, arcsTo_congr en]
        exact y2.mono (by omega)
      · by_cases hik : i = k
        · subst hik
          rw [ek, hce]; exact ⟨h1, h2⟩
        · rw [en i (by omega)]; exact hr i (by omega)
  · obtain ⟨hl, ⟨s', e, hS⟩, hr⟩ := hJ
    refine tot_bind' e (tot_some (.inr ⟨rfl, st.2, ⟨hl, fun i x c hx hc => ?_⟩, fun i hi => (hr i hi).1, hS.solved.keeps, hS.solved.secs⟩))
    have hi := (List.getElem?_eq_some_iff.1 hc).1
    have := hr i hi
    rw [nth_nat zCh hc, show nI st.2 (i : Nat) = x from nth_nat 0 hx] at this
    omega
theorem contains_tot (xs : List Int) (v : Int) : Tot (slices_Contains_int_int xs v) (fun b => b = false → v ∉ xs) := by
  unfold slices_Contains_int_int slices_Index_int_int
  refine tot_bind (P := fun i => i < 0 → v ∉ xs) ?_ fun i _ hi => tot_some fun h => hi (by simpa using h)
  refine tot_allX (P := fun _ x => v ≠ x) (E := fun y => 0 ≤ y) (fun i x hx => ?_) (fun h => tot_some fun _ hv => ?_) (fun y hy => tot_some fun h => by omega)
  · unfold slices_Index_int_int_b1
    exact tot_ifb (fun _ => tot_some (by simp only; omega)) fun h => tot_some (by simpa using h)
  · exact mem_of_all (P := fun x => v ≠ x) h v hv rfl
theorem mendBound (g : S_mend_Graph) (p q : List Int) : fishkeep2_MendBound g p q = some true := by
  refine tot_eq ?_
  unfold fishkeep2_MendBound
  refine tot_bind' awake ?_
  refine tot_ifb (fun h => by simp at h) fun _ => ?_
  refine tot_bind' graphs ?_
  refine tot_ifb (fun h => by simp at h) fun _ => ?_
  refine tot_bind (P := fun b => b = false → GoodG g ∧ GoodPick g p ∧ (0 : Int) ∉ p ∧ q.length = p.length) ?_ fun b _ hb => tot_ifb (fun _ => tot_some rfl) fun h => ?_
  · refine tot_bind (pickFault_tot g p) fun e _ he => tot_ifb (fun _ => tot_some fun h => by cases h) fun h => ?_
    obtain ⟨hg, hp⟩ := he (by simpa using h)
    refine tot_bind (contains_tot p 0) fun b _ hb => tot_ifb (fun _ => tot_some fun h => by cases h) fun h => tot_some fun h' => ⟨hg, hp, hb h, ?_⟩
    simp at h'; omega
  obtain ⟨hg, hp, hp0, hq⟩ := hb h
  have hpl := hp.len
  have hcl := hg.choices
  refine tot_bind (times_tot hg hp) fun x _ hx => ?_
  rcases hx with ⟨x0, hD⟩ | ⟨x5, xN⟩
  case inr => exact tot_ifb (fun _ => tot_some (by rw [xN]; rfl)) fun h => by rw [x5] at h; simp at h
  obtain ⟨t, ec⟩ := x
  simp only at x0 hD
  subst x0
  refine tot_ifb (fun h => by simp at h) fun _ => ?_
  have hall : ∀ i : Nat, i < g.Choices.length → 1 ≤ nI p (i : Nat) := fun i hi => by
    have hx : p[i]? = some p[i] := List.getElem?_eq_getElem (by omega)
    obtain ⟨h1, h2, h3, h4, h5⟩ := pick_at hg hp hx
    have hm : p[i] ∈ p := List.getElem_mem (by omega)
    have : p[i] ≠ 0 := fun e => hp0 (e ▸ hm)
    omega
  have hf : Full g p t := ⟨hp, hall, by rw [← hpl]; exact hD.keeps, hD.secs⟩
  refine tot_bind' (Delay_eq hg hf.secs) ?_
  refine tot_ifb (fun h => by simp at h) fun _ => ?_
  refine tot_bind' (clone_eq (by omega)) ?_
  refine tot_loopX (I := fun k s => k ≤ q.length ∧ s.length = p.length ∧ ∀ i : Nat, i < p.length → nI s (i : Nat) = 0 ∨ nI s (i : Nat) = nI p (i : Nat))
    (J := fun s => s.length = p.length ∧ ∀ i : Nat, i < p.length → nI s (i : Nat) = 0 ∨ nI s (i : Nat) = nI p (i : Nat)) (E := fun _ => False) ⟨by omega, rfl, fun i _ => .inr rfl⟩ (fun k y s hy hI => ?_) (fun s hI => hI.2) (fun s hs => ?_) (fun _ h => h.elim)
  · obtain ⟨hk, hl, hI⟩ := hI
    have hkl := (List.getElem?_eq_some_iff.1 hy).1
    unfold fishkeep2_MendBound_b1
    refine tot_bind' (show gremK y 2 = some (y.tmod 2) by unfold gremK; rw [if_neg (by decide)]) ?_
    refine tot_ifb (fun h => ?_) fun h => tot_some ⟨by omega, hl, hI⟩
    refine tot_bind' (idx_nI (by omega) (by omega)) (tot_some ⟨by omega, by rw [setI_length]; exact hl, fun i hi => ?_⟩)
    rw [show nI (setI s (k : Nat) 0) (i : Nat) = if ((i : Nat) : Int) = (k : Nat) then 0 else nI s (i : Nat) from nth_setI 0 (by omega) (by omega) (by omega)]
    split
    · exact .inl rfl
    · exact hI i hi
  obtain ⟨hsl, hsa⟩ := hs
  have hsp : GoodPick g s := ⟨by omega, fun i x c hx hc => by
    have hi := (List.getElem?_eq_some_iff.1 hx).1
    have e1 : nI s (i : Nat) = x := nth_nat 0 hx
    have hpx : p[i]? = some p[i] := List.getElem?_eq_getElem (by omega)
    have e2 : nI p (i : Nat) = p[i] := nth_nat 0 hpx
    have := hp.pick i _ c hpx hc
    rcases hsa i (by omega) with h | h <;> omega⟩
  refine tot_bind (bound_le hg hf hsp fun i hi => hsa i (by omega)) fun x _ hx => ?_
  obtain ⟨x0, xl⟩ := hx
  refine tot_bind (P := (· = false)) ?_ fun b _ hb => ?_
  · refine tot_ifb (fun h => by rw [x0] at h; simp at h) fun _ => tot_some ?_
    simp only [decide_eq_false_iff_not]; omega
  subst hb
  refine tot_ifb (fun h => by cases h) fun _ => ?_
  obtain ⟨rb, hrb, hB⟩ := best_le hg hf
  refine tot_bind' hrb ?_
  rcases hB with h4 | ⟨h0, hsec, hle⟩
  · exact tot_ifb (fun _ => tot_some rfl) fun h => by rw [h4] at h; simp at h
  refine tot_ifb (fun h => by rw [h0] at h; simp at h) fun _ => ?_
  refine tot_bind' (Delay_eq hg hsec) ?_
  refine tot_bind (P := (· = false)) ?_ fun b _ hb => ?_
  · refine tot_ifb (fun h => by rw [h0] at h; simp at h) fun _ => tot_ifb (fun h => by simp at h) fun _ => tot_some ?_
    simp only [decide_eq_false_iff_not]; omega
  subst hb
  refine tot_ifb (fun h => by cases h) fun _ => ?_
  refine tot_bind (quick_tot hg) fun x _ hx => ?_
  rcases hx with x5 | ⟨x0, f, hF⟩
  · refine tot_ifb (fun _ => tot_some (by rw [x5]; rfl)) fun h => by rw [x5] at h; simp at h
  refine tot_ifb (fun h => by rw [x0] at h; simp at h) fun _ => ?_
  refine tot_bind' (Delay_eq hg hF.secs) ?_
  obtain ⟨rb2, hrb2, hB2⟩ := best_le hg hF
  have hrr : rb2 = rb := Option.some.inj (hrb2.symm.trans hrb)
  subst hrr
  have hle2 : late g rb2.1 ≤ late g x.1 := by
    rcases hB2 with h4 | ⟨_, _, h⟩
    · rw [h0] at h4; simp at h4
    · exact h
  refine tot_bind (P := (· = true)) ?_ fun b _ hb => tot_some hb
  refine tot_ifb (fun _ => tot_some ?_) fun h => by simp at h
  simp only [decide_eq_true_eq]; omega
end
end Mb
namespace Go.Proofs.Ytcidamhhffgipaa
theorem mendBound_proved : Rows.MendBoundSaid := MendBound.close fun g p q _ _ _ => Mb.mendBound g p q
end Go.Proofs.Ytcidamhhffgipaa
