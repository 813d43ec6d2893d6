/- MendLeast, the plain side: start, picked, Times; the law. -/
import Derived.Test.YtcidamhhffgipaaMendD
set_option linter.unusedVariables false
set_option linter.unusedSimpArgs false
namespace Hk
open Go

abbrev rdy (g : S_mend_Graph) : Int → Int := nI g.Ready
theorem start_tot {g : S_mend_Graph} (hg : GoodG g) :
    Tot (mend_start g) (fun x => x.2 = true → ∃ s', x.1 = some s' ∧ Solved g.Ready.length (rdy g) g.Arcs 250 s'.times g.Last s'.outs ∧ s'.last = g.Last) := by
  have h1 := hg.nodes
  have h2 := hg.arcs
  have h3 := hg.last
  unfold mend_start
  refine tot_bind (P := (· = (g.Ready, g.Last, List.replicate g.Ready.length []))) ?_ fun s _ hs => ?_
  · refine tot_bind' (clone_eq (by omega)) (tot_bind' (gmake_eq (by omega) (by simp only [mkRoom]; omega) (by simp only [maxLen]; omega)) (tot_some ?_))
    simp
  subst hs
  refine tot_all' (P := fun i x => 0 ≤ nI g.Last (i : Nat) → x ≤ nI g.Last (i : Nat)) (E := fun y => y.2 = false) (fun i x hx => ?_) (fun hP => ?_) (fun y hy => tot_some fun h => by rw [hy] at h; cases h)
  · have hi := (List.getElem?_eq_some_iff.1 hx).1
    simp only [mend_start_b2, tot_bind_iff]
    refine eq_tot (idx_nI (by omega) (by simp only at hi; omega)) ?_
    simp only [tot_bind_iff, tot_some_iff, tot_ifb_iff, decide_eq_true_eq, decide_eq_false_iff_not]
    refine ⟨fun h => ⟨fun _ => trivial, fun h' => ?_⟩, fun h => ⟨fun h => (by cases h), fun _ => ?_⟩⟩ <;> omega
  · refine tot_bind (P := fun x => x.2 = true → ∃ s', x.1 = some s' ∧ Solved g.Ready.length (rdy g) ([] ++ g.Arcs) (0 + g.Arcs.length) s'.times g.Last s'.outs ∧ s'.last = g.Last) (with_tot (A := []) (K := 0) h1 (fun a ha => by simp at ha) hg.arc h2 (by omega) ?_) fun x _ hx => tot_some fun h => ?_
    · have hr : ∀ v : Int, 0 ≤ v → v < g.Ready.length → 0 ≤ nI g.Ready v ∧ nI g.Ready v ≤ 28800 := fun v h0 h1 => hg.ready _ (nth_mem 0 h0 h1)
      have ho : ∀ v : Int, 0 ≤ v → v < g.Ready.length → nO (List.replicate g.Ready.length []) v = [] := fun v h0 h1 => nth_replicate h0 h1
      refine ⟨rfl, h3, by simp, fun v h0 h1 => by have := hr v h0 h1; simp only; omega, fun v h0 h1 => ⟨(hr v h0 h1).1, Int.le_refl _⟩, fun v h0 h1 => .inl rfl, fun u hu v h0 h1 => hu.ready v h0 h1, fun v h0 h1 hl => ?_, fun a ha => by simp at ha, fun v h0 h1 a => ?_, fun v h0 h1 => ?_⟩
      · obtain ⟨k, rfl⟩ := Int.eq_ofNat_of_zero_le h0
        have hk : k < g.Ready.length := by omega
        have := hP k _ (List.getElem?_eq_getElem hk) hl
        rw [← nth_get (0 : Int) hk] at this
        exact this
      · rw [ho v h0 h1]; simp
      · rw [ho v h0 h1]; simp
    · obtain ⟨s', e, hs, hl⟩ := hx h
      rw [List.nil_append] at hs
      exact ⟨s', e, ⟨hs.lt, hs.ll, hs.lo, hs.up, hs.low, hs.tight, hs.least, hs.lasts, hs.sat, hs.mem, fun v h0 h1 => by have := hs.len v h0 h1; omega⟩, hl⟩
/-- what is picked of a choice -/
def wayOf (g : S_mend_Graph) (i : Nat) (x : Int) : List S_mend_Arc := if 0 < x then nO (nth zS_mend_Choice g.Choices (i : Nat)).Ways (x - 1) else []
def arcsTo (g : S_mend_Graph) (p : List Int) (k : Nat) : List S_mend_Arc := g.Arcs ++ (List.range k).flatMap fun i => wayOf g i (nI p (i : Nat))
theorem arcsTo_succ (g : S_mend_Graph) (p : List Int) (k : Nat) : arcsTo g p (k + 1) = arcsTo g p k ++ wayOf g k (nI p (k : Nat)) := by
  unfold arcsTo
  rw [List.range_succ, List.flatMap_append, List.append_assoc]
  simp
theorem arcsTo_zero (g : S_mend_Graph) (p : List Int) : arcsTo g p 0 = g.Arcs := by simp [arcsTo]
section
variable {g : S_mend_Graph} {p : List Int}
theorem pick_at (hg : GoodG g) (hp : GoodPick g p) {i : Nat} {x : Int} (hx : p[i]? = some x) :
    i < g.Choices.length ∧ 0 ≤ x ∧ x ≤ (nth zS_mend_Choice g.Choices (i : Nat)).Ways.length ∧ nI p (i : Nat) = x ∧ nth zS_mend_Choice g.Choices (i : Nat) ∈ g.Choices := by
  have hi := (List.getElem?_eq_some_iff.1 hx).1
  have h1 : i < g.Choices.length := by have := hp.len; omega
  have h2 := hp.pick i x _ hx (List.getElem?_eq_getElem h1)
  rw [nth_get zS_mend_Choice h1]
  exact ⟨h1, h2.1, h2.2, nth_nat 0 hx, List.getElem_mem h1⟩
theorem wayOf_good (hg : GoodG g) (hp : GoodPick g p) {i : Nat} {x : Int} (hx : p[i]? = some x) : (∀ a ∈ wayOf g i x, GoodArc g.Ready.length a) ∧ (wayOf g i x).length ≤ 4 := by
  obtain ⟨h1, h2, h3, h4, h5⟩ := pick_at hg hp hx
  unfold wayOf
  split
  · have hw := (hg.ways _ h5).2 _ (nth_mem [] (show 0 ≤ x - 1 by omega) (by omega))
    exact ⟨hw.2, hw.1⟩
  · simp
theorem arcsTo_good (hg : GoodG g) (hp : GoodPick g p) : ∀ k, k ≤ p.length → (∀ a ∈ arcsTo g p k, GoodArc g.Ready.length a) ∧ (arcsTo g p k).length ≤ 250 + 4 * k
  | 0, _ => by rw [arcsTo_zero]; exact ⟨hg.arc, by have := hg.arcs; omega⟩
  | k + 1, hk => by
    obtain ⟨h1, h2⟩ := arcsTo_good hg hp k (by omega)
    have hx : p[k]? = some p[k] := List.getElem?_eq_getElem (by omega)
    obtain ⟨h3, h4⟩ := wayOf_good hg hp hx
    have e : nI p (k : Nat) = p[k] := nth_nat 0 hx
    rw [arcsTo_succ, e]
    exact ⟨fun a ha => (List.mem_append.1 ha).elim (h1 a) (h3 a), by rw [List.length_append]; omega⟩
theorem picked_tot (hg : GoodG g) (hp : GoodPick g p) :
    Tot (mend_picked g p) (fun x => x.2 = true → ∃ s', x.1 = some s' ∧ ∃ K, Solved g.Ready.length (rdy g) (arcsTo g p p.length) K s'.times g.Last s'.outs) := by
  have hl := hp.len
  have hc := hg.choices
  unfold mend_picked
  refine tot_bind (start_tot hg) fun x _ hx => ?_
  refine tot_loop (I := fun k x => k ≤ p.length ∧ (x.2 = true → ∃ s', x.1 = some s' ∧ Solved g.Ready.length (rdy g) (arcsTo g p k) (250 + 4 * k) s'.times g.Last s'.outs ∧ s'.last = g.Last))
    (J := fun x => x.2 = true → ∃ s', x.1 = some s' ∧ ∃ K, Solved g.Ready.length (rdy g) (arcsTo g p p.length) K s'.times g.Last s'.outs) (E := fun _ => False) ⟨by omega, fun h => by rw [arcsTo_zero]; exact hx h⟩ (fun k y s hy hI => ?_) (fun s hI h => ?_) (fun s hJ => tot_some hJ) (fun _ h => h.elim)
  · obtain ⟨hk, hI⟩ := hI
    have hkl := (List.getElem?_eq_some_iff.1 hy).1
    obtain ⟨h1, h2, h3, h4, h5⟩ := pick_at hg hp hy
    obtain ⟨w1, w2⟩ := wayOf_good hg hp hy
    obtain ⟨a1, a2⟩ := arcsTo_good hg hp k hk
    unfold mend_picked_b2
    refine tot_bind (P := fun x => x.2 = true → ∃ s', x.1 = some s' ∧ Solved g.Ready.length (rdy g) (arcsTo g p (k + 1)) (250 + 4 * (k + 1)) s'.times g.Last s'.outs ∧ s'.last = g.Last) ?_ fun x _ hx => tot_some ⟨by omega, hx⟩
    refine tot_bind (P := fun b => (b = true → s.2 = true ∧ 0 < y) ∧ (b = false → s.2 = true → y = 0)) ?_ fun b _ hb => ?_
    · simp only [tot_ifb_iff, tot_some_iff, decide_eq_true_eq, decide_eq_false_iff_not]
      exact ⟨fun h => ⟨fun h' => ⟨h, h'⟩, fun h' _ => by omega⟩, fun h => ⟨fun h' => (by cases h'), fun _ h' => by rw [h] at h'; cases h'⟩⟩
    refine tot_ifb (fun h => ?_) fun h => tot_some fun hs => ?_
    · obtain ⟨hs, hy0⟩ := hb.1 h
      obtain ⟨s', e, hS, hL⟩ := hI hs
      have e1 : w64 (y - 1) = y - 1 := w64_id (by omega) (by have := (hg.ways _ h5).1; omega)
      refine tot_bind' (idx_nth zS_mend_Choice (by omega) (by omega)) ?_
      rw [e1]
      refine tot_bind' (idx_nO (by omega) (by omega)) ?_
      have ew : nO (nth zS_mend_Choice g.Choices (k : Nat)).Ways (y - 1) = wayOf g k y := by unfold wayOf; rw [if_pos hy0]
      rw [ew, e, with_v2_eq, hL]
      refine tot_bind (with_tot hg.nodes a1 w1 (by omega) (by omega) hS) fun x _ hx => tot_some fun h => ?_
      obtain ⟨s2, e2, hS2, hL2⟩ := hx h
      refine ⟨s2, e2, ?_, hL2⟩
      rw [arcsTo_succ, h4]
      exact ⟨hS2.lt, hS2.ll, hS2.lo, hS2.up, hS2.low, hS2.tight, hS2.least, hS2.lasts, hS2.sat, hS2.mem, fun v h0 h1 => by have := hS2.len v h0 h1; omega⟩
    · have hy0 := hb.2 h hs
      obtain ⟨s', e, hS, hL⟩ := hI hs
      refine ⟨s', e, ?_, hL⟩
      rw [arcsTo_succ, h4]
      have : wayOf g k y = [] := by unfold wayOf; rw [if_neg (by omega)]
      rw [this, List.append_nil]
      exact ⟨hS.lt, hS.ll, hS.lo, hS.up, hS.low, hS.tight, hS.least, hS.lasts, hS.sat, hS.mem, fun v h0 h1 => by have := hS.len v h0 h1; omega⟩
  · obtain ⟨s', e, hS, hL⟩ := hI.2 h
    exact ⟨s', e, _, hS⟩
theorem times_tot (hg : GoodG g) (hp : GoodPick g p) :
    Tot (mend_Times g p) (fun x => (x.2 = 0 ∧ Done g.Ready.length (rdy g) (arcsTo g p p.length) g.Last x.1) ∨ (x.2 = 5 ∧ x.1 = [])) := by
  unfold mend_Times
  refine tot_bind' (checkPick_good hg hp) ?_
  refine tot_ifb (fun h => by simp at h) fun _ => ?_
  refine tot_bind (picked_tot hg hp) fun x _ hx => ?_
  refine tot_ifb (fun h => tot_some (.inr ⟨rfl, rfl⟩)) fun h => ?_
  obtain ⟨s', e, K, hS⟩ := hx (by simpa using h)
  refine tot_bind' e (tot_some (.inl ⟨rfl, ?_⟩))
  exact ⟨hS.lt, hS.up, hS.low, hS.tight, hS.least, hS.lasts, hS.sat⟩
end
theorem awake : fishkeep2_awakeMend = some true := by kernel_rfl
theorem graphs : fishkeep2_graphs = some true := by kernel_rfl
end Hk
