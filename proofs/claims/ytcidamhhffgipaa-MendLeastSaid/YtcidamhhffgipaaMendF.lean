/- Proves MendLeastSaid: MendLeast returns true, whatever graph and picks it is given, and leaves them as they were. No condition. -/
import Derived.Test.YtcidamhhffgipaaMendE
import Derived.Test.YtcidamhhffgipaaMLMendLeastC
set_option linter.unusedVariables false
set_option linter.unusedSimpArgs false
namespace Hk
open Go

theorem arcs_loop {g : S_mend_Graph} {p : List Int} (hg : GoodG g) (hp : GoodPick g p) {β : Type} {F : List S_mend_Arc → Option β} {H : Empty → Option β} {Q : β → Prop} (hF : Tot (F (arcsTo g p p.length)) Q) :
    Tot ((forC (fishkeep2_MendLeast_b7 g) p g.Arcs).bind fun c => Ctl.on c F H) Q := by
  have hl := hp.len
  have hc := hg.choices
  refine tot_loop (I := fun k s => k ≤ p.length ∧ s = arcsTo g p k) (J := fun s => s = arcsTo g p p.length) (E := fun _ => False) ⟨by omega, (arcsTo_zero g p).symm⟩ (fun k y s hy hI => ?_) (fun s hI => hI.2) (fun s hs => by rw [hs]; exact hF) (fun _ h => h.elim)
  obtain ⟨hk, rfl⟩ := hI
  have hkl := (List.getElem?_eq_some_iff.1 hy).1
  obtain ⟨h1, h2, h3, h4, h5⟩ := pick_at hg hp hy
  obtain ⟨w1, w2⟩ := wayOf_good hg hp hy
  obtain ⟨a1, a2⟩ := arcsTo_good hg hp k hk
  unfold fishkeep2_MendLeast_b7
  refine tot_bind (P := (· = arcsTo g p (k + 1))) ?_ fun s _ hs => tot_some ⟨by omega, hs⟩
  rw [arcsTo_succ, h4]
  refine tot_ifb (fun h => ?_) fun h => tot_some ?_
  · have hy0 : 0 < y := by simpa using h
    have e1 : w64 (y - 1) = y - 1 := w64_id (by omega) (by have := (hg.ways _ h5).1; omega)
    refine tot_bind' (idx_nth zS_mend_Choice (by omega) (by omega)) ?_
    rw [e1]
    refine tot_bind' (idx_nO (by omega) (by omega)) ?_
    have ew : nO (nth zS_mend_Choice g.Choices (k : Nat)).Ways (y - 1) = wayOf g k y := by unfold wayOf; rw [if_pos hy0]
    rw [ew]
    exact tot_bind' (gapp_eq (by simp only [apRoom]; omega) (by simp only [maxLen]; omega)) (tot_some rfl)
  · have : wayOf g k y = [] := by unfold wayOf; rw [if_neg (by simpa using h)]
    rw [this, List.append_nil]
theorem held_eq {x : Int} {a b : Int} : (x == w64 (a + b)) = decide (x = w64 (a + b)) := by
  by_cases h : x = w64 (a + b) <;> simp [h]
theorem mendLeast (g : S_mend_Graph) (p m : List Int) : fishkeep2_MendLeast g p m = some true := by
  refine tot_eq ?_
  unfold fishkeep2_MendLeast
  refine tot_bind' awake ?_
  refine tot_ifb (fun h => by simp at h) fun _ => ?_
  refine tot_bind' graphs ?_
  refine tot_ifb (fun h => by simp at h) fun _ => ?_
  refine tot_bind (P := fun b => b = false → GoodG g ∧ GoodPick g p ∧ GoodPick g m) ?_ fun b _ hb => ?_
  · refine tot_bind (pickFault_tot g p) fun e _ he => tot_ifb (fun h => tot_some (by simp)) fun h => ?_
    obtain ⟨g1, g2⟩ := he (by simpa using h)
    refine tot_bind (pickFault_tot g m) fun e' _ he' => tot_some fun h' => ?_
    exact ⟨g1, g2, (he' (by simpa using h')).2⟩
  refine tot_ifb (fun _ => tot_some rfl) fun h => ?_
  obtain ⟨hg, hp, hm⟩ := hb h
  refine tot_bind (times_tot hg hp) fun x _ hx => ?_
  rcases hx with ⟨h0, hD⟩ | ⟨h5, hN⟩
  case inr => 
    rw [h5, hN]
    exact ⟨true, rfl, rfl⟩
  obtain ⟨t, e⟩ := x
  simp only at h0 hD
  subst h0
  have hn := hg.nodes
  obtain ⟨a1, a2⟩ := arcsTo_good hg hp p.length (Nat.le_refl _)
  have hl := hp.len
  have hc := hg.choices
  have hT : ∀ v : Int, 0 ≤ v → v < g.Ready.length → 0 ≤ nI t v ∧ nI t v ≤ 1099511627776 := fun v h0 h1 => by
    have := hD.low v h0 h1; have := hD.up v h0 h1; omega
  have hw : ∀ a ∈ arcsTo g p p.length, w64 (nI t a.From + a.Len) = nI t a.From + a.Len := fun a ha => by
    have h1 := a1 a ha
    have h2 := hT a.From h1.f0 h1.f1
    have := h1.l0; have := h1.l1
    exact w64_id (by omega) (by omega)
  refine tot_ifb (fun h => by simp at h) fun _ => ?_
  refine tot_ifb (fun h => by have := hD.lt; simp at h; omega) fun _ => ?_
  refine tot_bind' (cloneA_eq (by have := hg.arcs; omega)) ?_
  refine arcs_loop hg hp ?_
  -- all arcs are kept
  refine tot_all' (P := fun _ _ => True) (E := fun _ => False) (fun i a ha => ?_) (fun _ => ?_) (fun _ h => h.elim)
  · have ha' := List.mem_of_getElem? ha
    have hga := a1 a ha'
    have hs := hD.sat a ha'
    unfold fishkeep2_MendLeast_b8
    refine tot_bind' (idx_nI hga.t0 (by have := hD.lt; have := hga.t1; simp only; omega)) ?_
    refine tot_bind' (idx_nI hga.f0 (by have := hD.lt; have := hga.f1; simp only; omega)) ?_
    simp only []
    rw [hw a ha']
    refine tot_ifb (fun h => ?_) fun _ => tot_some trivial
    simp only [decide_eq_true_eq] at h; omega
  -- none can be earlier
  refine tot_all' (P := fun _ _ => True) (E := fun _ => False) (fun i x hx => ?_) (fun _ => ?_) (fun _ h => h.elim)
  · have hi := (List.getElem?_eq_some_iff.1 hx).1
    simp only at hi
    have hlt := hD.lt
    have hxe : nI t (i : Nat) = x := nth_nat 0 hx
    have hlow : 0 ≤ nI g.Ready (i : Nat) ∧ nI g.Ready (i : Nat) ≤ nI t (i : Nat) := hD.low (i : Nat) (by omega) (by omega)
    have hlast := hD.lasts (i : Nat) (by omega) (by omega)
    unfold fishkeep2_MendLeast_b10
    refine tot_bind' (idx_nI (by omega) (by omega)) ?_
    refine tot_loop (I := fun k s => s = true ∨ (nI t (i : Nat) ≠ rdy g (i : Nat) ∧ ∀ a ∈ (arcsTo g p p.length).take k, ¬ (a.To = (i : Nat) ∧ nI t (i : Nat) = nI t a.From + a.Len))) (J := fun s => s = true) (E := fun _ => False) ?_ (fun k a s ha hI => ?_) (fun s hI => ?_) (fun s hs => ?_) (fun _ h => h.elim)
    · rw [hxe]
      by_cases h : x = nI g.Ready (i : Nat)
      · left; simp [h]
      · right; exact ⟨h, by simp⟩
    · have ha' := List.mem_of_getElem? ha
      have hga := a1 a ha'
      unfold fishkeep2_MendLeast_b11
      refine tot_bind (P := fun b => b = true ∨ (s = false ∧ ¬ (a.To = (i : Nat) ∧ nI t (i : Nat) = nI t a.From + a.Len))) ?_ fun b _ hb => tot_some ?_
      · refine tot_ifb (fun h => tot_some (.inl rfl)) fun h => tot_ifb (fun h' => ?_) fun h' => tot_some (.inr ⟨h, fun h'' => ?_⟩)
        · refine tot_bind' (idx_nI hga.f0 (by have := hga.f1; simp only; omega)) (tot_some ?_)
          simp only []
          rw [hw a ha', hxe]
          by_cases hh : x = nI t a.From + a.Len
          · left; simp [hh]
          · right; exact ⟨h, fun h'' => hh h''.2⟩
        · simp only [beq_eq_false_iff_ne] at h'
          exact h' h''.1
      · rcases hb with hb | ⟨hb, hb'⟩
        · exact .inl hb
        · rcases hI with hI | hI
          · rw [hb] at hI; cases hI
          · refine .inr ⟨hI.1, fun b' hb'' => ?_⟩
            rcases mem_take_succ ha hb'' with h | rfl
            · exact hI.2 b' h
            · exact hb'
    · rcases hI with hI | ⟨h1, h2⟩
      · exact hI
      · exfalso
        rcases hD.tight (i : Nat) (by omega) (by omega) with h | ⟨a, ha, hto, hle⟩
        · exact h1 h
        · refine h2 a (by rw [List.take_length]; exact ha) ⟨hto, ?_⟩
          have := hD.sat a ha
          rw [hto] at this; omega
    · subst hs
      refine tot_bind (P := (· = false)) ?_ fun b _ hb => ?_
      · refine tot_ifb (fun h => by simp at h) fun _ => tot_ifb (fun h => ?_) fun _ => ?_
        · simp only [decide_eq_true_eq] at h; omega
        · refine tot_bind' (idx_nI (by omega) (by have := hg.last; omega)) ?_
          refine tot_ifb (fun h => tot_some ?_) fun _ => tot_some rfl
          simp only [decide_eq_true_eq, decide_eq_false_iff_not] at h ⊢
          have := hlast h; omega
      · subst hb; exact tot_some trivial
  -- more that is picked
  refine tot_bind' (clone_eq (by omega)) ?_
  refine tot_loop (I := fun k s => s.length = p.length ∧ ∀ j : Nat, j < p.length → nI s (j : Nat) = if nI p (j : Nat) = 0 ∧ j < k then nI m (j : Nat) else nI p (j : Nat))
    (J := fun s => s.length = p.length ∧ ∀ j : Nat, j < p.length → nI s (j : Nat) = if nI p (j : Nat) = 0 then nI m (j : Nat) else nI p (j : Nat)) (E := fun _ => False) ⟨rfl, fun j hj => by simp⟩ (fun k y s hy hI => ?_) (fun s hI => ?_) (fun s hs => ?_) (fun _ h => h.elim)
  · have hk := (List.getElem?_eq_some_iff.1 hy).1
    have hml := hm.len
    have hye : nI m (k : Nat) = y := nth_nat 0 hy
    obtain ⟨i1, i2⟩ := hI
    unfold fishkeep2_MendLeast_b12
    simp only [tot_bind_iff, tot_some_iff]
    refine eq_tot (idx_nI (by omega) (by omega)) ?_
    have ik := i2 k (by omega)
    rw [if_neg (by omega)] at ik
    refine tot_ifb (fun h => tot_some ⟨by rw [setI_length]; exact i1, fun j hj => ?_⟩) fun h => tot_some ⟨i1, fun j hj => ?_⟩
    · have h0 : nI s (k : Nat) = 0 := by simpa using h
      rw [show nI (setI s (k : Nat) y) (j : Nat) = if (j : Int) = (k : Int) then y else nI s (j : Nat) from nth_setI 0 (by omega) (by omega) (by omega)]
      by_cases hjk : j = k
      · subst hjk
        rw [if_pos rfl, if_pos ⟨by omega, by omega⟩, hye]
      · rw [if_neg (by omega), i2 j hj]
        by_cases hz : nI p (j : Nat) = 0 ∧ j < k
        · rw [if_pos hz, if_pos ⟨hz.1, by omega⟩]
        · rw [if_neg hz, if_neg (by omega)]
    · have h0 : nI s (k : Nat) ≠ 0 := by simpa using h
      rw [i2 j hj]
      by_cases hz : nI p (j : Nat) = 0 ∧ j < k
      · rw [if_pos hz, if_pos ⟨hz.1, by omega⟩]
      · by_cases hjk : j = k
        · subst hjk
          rw [if_neg hz, if_neg (fun h => h0 (ik.trans h.1))]
        · rw [if_neg hz, if_neg (by omega)]
  · obtain ⟨i1, i2⟩ := hI
    refine ⟨i1, fun j hj => ?_⟩
    have hml := hm.len
    rw [i2 j hj]
    by_cases hz : nI p (j : Nat) = 0
    · rw [if_pos ⟨hz, by omega⟩, if_pos hz]
    · rw [if_neg (fun h => hz h.1), if_neg hz]
  obtain ⟨s1, s2⟩ := hs
  have hb : GoodPick g s := by
    refine ⟨by omega, fun i x c hx hc => ?_⟩
    have hi := (List.getElem?_eq_some_iff.1 hx).1
    have e1 : nI s (i : Nat) = x := nth_nat 0 hx
    have hml := hm.len
    rw [s2 i (by omega)] at e1
    split at e1
    · have hmi : i < m.length := by omega
      have e2 : nI m (i : Nat) = m[i] := nth_get 0 hmi
      rw [← e1, e2]
      exact hm.pick i _ c (List.getElem?_eq_getElem hmi) hc
    · have hpi : i < p.length := by omega
      have e2 : nI p (i : Nat) = p[i] := nth_get 0 hpi
      rw [← e1, e2]
      exact hp.pick i _ c (List.getElem?_eq_getElem hpi) hc
  refine tot_bind (times_tot hg hb) fun x _ hx => ?_
  rcases hx with ⟨h0, hU⟩ | ⟨h5, hN⟩
  case inr =>
    rw [h5]
    exact ⟨true, rfl, rfl⟩
  obtain ⟨u, e⟩ := x
  simp only at h0 hU
  subst h0
  refine tot_ifb (fun h => by simp at h) fun _ => ?_
  have hF : Feas g.Ready.length (rdy g) (arcsTo g p p.length) (nI u) := by
    refine ⟨fun v h0 h1 => (hU.low v h0 h1).2, fun a ha => hU.sat a ?_⟩
    unfold arcsTo at ha ⊢
    rcases List.mem_append.1 ha with ha | ha
    · exact List.mem_append_left _ ha
    · refine List.mem_append_right _ ?_
      obtain ⟨i, hi, ha⟩ := List.mem_flatMap.1 ha
      rw [List.mem_range] at hi
      refine List.mem_flatMap.2 ⟨i, by rw [List.mem_range]; omega, ?_⟩
      rw [s2 i hi]
      unfold wayOf at ha
      split at ha
      · rename_i hpos
        rw [if_neg (by omega)]
        unfold wayOf
        rw [if_pos hpos]; exact ha
      · simp at ha
  refine tot_all' (P := fun _ _ => True) (E := fun _ => False) (fun i x hx => ?_) (fun _ => tot_some rfl) (fun _ h => h.elim)
  have hi := (List.getElem?_eq_some_iff.1 hx).1
  simp only at hi
  have e1 := hD.lt
  have e2 := hU.lt
  have hxe : nI t (i : Nat) = x := nth_nat 0 hx
  have hle := hD.least _ hF (i : Nat) (by omega) (by omega)
  unfold fishkeep2_MendLeast_b13
  refine tot_bind (P := (· = false)) ?_ fun b _ hb => ?_
  · refine tot_ifb (fun h => by simp at h; omega) fun _ => ?_
    refine tot_bind' (idx_nI (by omega) (by simp only; omega)) (tot_some ?_)
    simp only [decide_eq_false_iff_not]
    omega
  · subst hb; exact tot_some trivial
end Hk
namespace Go.Proofs.Ytcidamhhffgipaa
theorem mendLeast_proved : Rows.MendLeastSaid := MendLeast.close fun g p m _ _ _ => Hk.mendLeast g p m
end Go.Proofs.Ytcidamhhffgipaa
