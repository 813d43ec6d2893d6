/- The mend laws, the plain side: start, picked, Times, Delay. -/
import Derived.Test.YtcidamhhffgipaaM2
set_option linter.unusedVariables false
set_option linter.unusedSimpArgs false
namespace Mb
open Go Hk Hd

def zCh : S_mend_Choice := ⟨[]⟩
abbrev rdy (g : S_mend_Graph) : Int → Int := nI g.Ready
theorem rdy_le {g : S_mend_Graph} (hg : GoodG g) : ∀ v : Int, 0 ≤ v → v < g.Ready.length → rdy g v ≤ 28800 := fun v h0 h1 => (hg.ready _ (nth_mem 0 h0 h1)).2
theorem Solved.mono {n : Nat} {R : Int → Int} {A : List S_mend_Arc} {K K' : Nat} {t last : List Int} {outs : List (List S_mend_Arc)} (h : Solved n R A K t last outs) (hK : K ≤ K') : Solved n R A K' t last outs :=
  ⟨h.lt, h.ll, h.lo, h.up, h.low, h.tight, h.least, h.lasts, h.sat, h.mem, by have := h.tot; omega⟩
theorem WOk.mono {n : Nat} {R : Int → Int} {A : List S_mend_Arc} {K K' : Nat} {last : List Int} {x : Option S_mend_solver} {is : Bool} (h : WOk n R A K last x is) (hK : K ≤ K') : WOk n R A K' last x is :=
  ⟨fun e => let ⟨s, h1, h2, h3⟩ := h.right e; ⟨s, h1, h2.mono hK, h3⟩, h.whole⟩
/-- times that keep some arcs -/
structure Keeps (g : S_mend_Graph) (A : List S_mend_Arc) (u : Int → Int) : Prop where
  feas : Feas g.Ready.length (rdy g) A u
  lasts : ∀ v : Int, 0 ≤ v → v < g.Ready.length → 0 ≤ nI g.Last v → u v ≤ nI g.Last v
theorem Keeps.sub {g : S_mend_Graph} {A B : List S_mend_Arc} {u : Int → Int} (h : Keeps g B u) (hs : ∀ a ∈ A, a ∈ B) : Keeps g A u := ⟨⟨h.feas.ready, fun a ha => h.feas.arcs a (hs a ha)⟩, h.lasts⟩
theorem start_tot {g : S_mend_Graph} (hg : GoodG g) : Tot (mend_start g) (fun x => WOk g.Ready.length (rdy g) g.Arcs 250 g.Last x.1 x.2) := by
  have h1 := hg.nodes
  have h2 := hg.arcs
  have h3 := hg.last
  unfold mend_start
  refine tot_bind (P := (· = (g.Last, g.Ready, List.replicate g.Ready.length []))) ?_ fun s _ hs => ?_
  · refine tot_bind' (clone_eq (by omega)) (tot_bind' (gmake_eq (by omega) (by simp only [mkRoom]; omega) (by simp only [maxLen]; omega)) (tot_some ?_))
    simp
  subst hs
  refine tot_allX (P := fun i x => 0 ≤ nI g.Last (i : Nat) → x ≤ nI g.Last (i : Nat)) (E := fun y => y.2 = false ∧ ∀ u, ¬ Keeps g g.Arcs u) (fun i x hx => ?_) (fun hP => ?_) (fun y hy => tot_some ⟨fun h => (by rw [hy.1] at h; cases h), fun u hu hl => absurd ⟨hu, hl⟩ (hy.2 u)⟩)
  · have hi := (List.getElem?_eq_some_iff.1 hx).1
    simp only at hi
    have hx0 : rdy g (i : Nat) = x := nth_nat 0 hx
    simp only [mend_start_b1, tot_bind_iff]
    refine eq_tot (idx_nI (by omega) (by omega)) ?_
    simp only [tot_bind_iff, tot_some_iff, tot_ifb_iff, decide_eq_true_eq, decide_eq_false_iff_not]
    refine ⟨fun h => eq_tot (idx_nI (by omega) (by omega)) ⟨fun h' => ⟨trivial, fun u hu => ?_⟩, fun h' _ => by omega⟩, fun h => ⟨fun h => (by cases h), fun _ h' => by omega⟩⟩
    have k1 := hu.feas.ready (i : Nat) (by omega) (by omega)
    have k2 := hu.lasts (i : Nat) (by omega) (by omega) (by omega)
    omega
  · refine tot_bind (P := fun x => WOk g.Ready.length (rdy g) ([] ++ g.Arcs) (0 + g.Arcs.length) g.Last x.1 x.2.1) (with1_tot (A := []) (K := 0) h1 (rdy_le hg) (fun a ha => by simp at ha) hg.arc h2 (by omega) ?_) fun x _ hx => tot_some (hx.mono (by omega))
    have hr : ∀ v : Int, 0 ≤ v → v < g.Ready.length → 0 ≤ nI g.Ready v ∧ nI g.Ready v ≤ 28800 := fun v h0 h1 => hg.ready _ (nth_mem 0 h0 h1)
    have ho : ∀ v : Int, 0 ≤ v → v < g.Ready.length → nO (List.replicate g.Ready.length []) v = [] := fun v h0 h1 => nth_replicate h0 h1
    refine ⟨rfl, h3, by simp, fun v h0 h1 => by have := hr v h0 h1; simp only; omega, fun v h0 h1 => ⟨(hr v h0 h1).1, Int.le_refl _⟩, fun v h0 h1 => .inl rfl, fun u hu v h0 h1 => hu.ready v h0 h1, fun v h0 h1 hl => ?_, fun a ha => by simp at ha, fun v h0 h1 a => ?_, ?_⟩
    · obtain ⟨k, rfl⟩ := Int.eq_ofNat_of_zero_le h0
      have hk : k < g.Ready.length := by omega
      have := hP k _ (List.getElem?_eq_getElem hk) hl
      rw [← nth_get (0 : Int) hk] at this
      exact this
    · rw [ho v h0 h1]; simp
    · rw [sumN_eq (g := fun _ => 0) fun i hi => by simp only [outLen]; rw [ho _ (by omega) (by omega)]; rfl, sumN_const]; simp
/-- what is picked of a choice -/
def wayOf (g : S_mend_Graph) (i : Nat) (x : Int) : List S_mend_Arc := if 0 < x then nO (nth zCh g.Choices (i : Nat)).Ways (x - 1) else []
def arcsTo (g : S_mend_Graph) (p : List Int) (k : Nat) : List S_mend_Arc := g.Arcs ++ (List.range k).flatMap fun i => wayOf g i (nI p (i : Nat))
theorem arcsTo_succ (g : S_mend_Graph) (p : List Int) (k : Nat) : arcsTo g p (k + 1) = arcsTo g p k ++ wayOf g k (nI p (k : Nat)) := by
  unfold arcsTo
  rw [List.range_succ, List.flatMap_append, List.append_assoc]
  simp
theorem arcsTo_zero (g : S_mend_Graph) (p : List Int) : arcsTo g p 0 = g.Arcs := by simp [arcsTo]
theorem mem_arcsTo {g : S_mend_Graph} {p : List Int} {k : Nat} {a : S_mend_Arc} : a ∈ arcsTo g p k ↔ a ∈ g.Arcs ∨ ∃ i, i < k ∧ a ∈ wayOf g i (nI p (i : Nat)) := by
  unfold arcsTo
  simp [List.mem_flatMap]
theorem arcsTo_congr {g : S_mend_Graph} {p q : List Int} : ∀ {k : Nat}, (∀ i : Nat, i < k → nI p (i : Nat) = nI q (i : Nat)) → arcsTo g p k = arcsTo g q k
  | 0, _ => by rw [arcsTo_zero, arcsTo_zero]
  | k + 1, h => by rw [arcsTo_succ, arcsTo_succ, arcsTo_congr (k := k) fun i hi => h i (by omega), h k (by omega)]
/-- how many are picked -/
def nz (p : List Int) : Nat → Nat
  | 0 => 0
  | k + 1 => nz p k + if 0 < nI p (k : Nat) then 1 else 0
theorem nz_le (p : List Int) : ∀ k, nz p k ≤ k
  | 0 => Nat.le_refl _
  | k + 1 => by have := nz_le p k; simp only [nz]; split <;> omega
theorem nz_eq {p q : List Int} : ∀ {k : Nat}, (∀ i : Nat, i < k → nI p (i : Nat) = nI q (i : Nat)) → nz p k = nz q k
  | 0, _ => rfl
  | k + 1, h => by simp only [nz]; rw [nz_eq (k := k) fun i hi => h i (by omega), h k (by omega)]
theorem nz_set {p : List Int} {i : Nat} {x : Int} (hi : i < p.length) (h0 : nI p (i : Nat) = 0) (hx : 0 < x) : ∀ {k : Nat}, i < k → k ≤ p.length → nz (setI p (i : Nat) x) k = nz p k + 1
  | 0, h, _ => by omega
  | k + 1, h, hk => by
    simp only [nz]
    rw [show nI (setI p (i : Nat) x) (k : Nat) = if ((k : Nat) : Int) = (i : Nat) then x else nI p (k : Nat) from nth_setI 0 (by omega) (by omega) (by omega)]
    by_cases hik : i = k
    · subst hik
      rw [if_pos rfl, if_pos hx, h0, if_neg (by omega)]
      rw [nz_eq (q := p) fun j hj => by
        rw [show nI (setI p (i : Nat) x) (j : Nat) = if ((j : Nat) : Int) = (i : Nat) then x else nI p (j : Nat) from nth_setI 0 (by omega) (by omega) (by omega), if_neg (by omega)]]
    · have hne : ¬ ((k : Nat) : Int) = (i : Nat) := by omega
      simp only [if_neg hne]
      rw [nz_set hi h0 hx (k := k) (by omega) (by omega)]
      omega
section
variable {g : S_mend_Graph} {p : List Int}
theorem pick_at (hg : GoodG g) (hp : GoodPick g p) {i : Nat} {x : Int} (hx : p[i]? = some x) :
    i < g.Choices.length ∧ 0 ≤ x ∧ x ≤ (nth zCh g.Choices (i : Nat)).Ways.length ∧ nI p (i : Nat) = x ∧ nth zCh g.Choices (i : Nat) ∈ g.Choices := by
  have hi := (List.getElem?_eq_some_iff.1 hx).1
  have h1 : i < g.Choices.length := by have := hp.len; omega
  have h2 := hp.pick i x _ hx (List.getElem?_eq_getElem h1)
  rw [nth_get zCh h1]
  exact ⟨h1, h2.1, h2.2, nth_nat 0 hx, List.getElem_mem h1⟩
theorem wayOf_good (hg : GoodG g) (hp : GoodPick g p) {i : Nat} {x : Int} (hx : p[i]? = some x) : (∀ a ∈ wayOf g i x, GoodArc g.Ready.length a) ∧ (wayOf g i x).length ≤ 4 := by
  obtain ⟨h1, h2, h3, h4, h5⟩ := pick_at hg hp hx
  unfold wayOf
  split
  · have hw := (hg.ways _ h5).2 _ (nth_mem [] (show 0 ≤ x - 1 by omega) (by omega))
    exact ⟨hw.2, hw.1⟩
  · simp
theorem arcsTo_good (hg : GoodG g) (hp : GoodPick g p) : ∀ k, k ≤ p.length → (∀ a ∈ arcsTo g p k, GoodArc g.Ready.length a)
  | 0, _ => by rw [arcsTo_zero]; exact hg.arc
  | k + 1, hk => by
    have h1 := arcsTo_good hg hp k (by omega)
    have hx : p[k]? = some p[k] := List.getElem?_eq_getElem (by omega)
    obtain ⟨h3, h4⟩ := wayOf_good hg hp hx
    have e : nI p (k : Nat) = p[k] := nth_nat 0 hx
    rw [arcsTo_succ, e]
    exact fun a ha => (List.mem_append.1 ha).elim (h1 a) (h3 a)
theorem picked_tot (hg : GoodG g) (hp : GoodPick g p) : Tot (mend_picked g p) (fun x => WOk g.Ready.length (rdy g) (arcsTo g p p.length) (250 + 4 * nz p p.length) g.Last x.1 x.2) := by
  have hl := hp.len
  have hc := hg.choices
  unfold mend_picked
  refine tot_bind (start_tot hg) fun x _ hx => ?_
  refine tot_loopX (I := fun k x => k ≤ p.length ∧ WOk g.Ready.length (rdy g) (arcsTo g p k) (250 + 4 * nz p k) g.Last x.1 x.2)
    (J := fun x => WOk g.Ready.length (rdy g) (arcsTo g p p.length) (250 + 4 * nz p p.length) g.Last x.1 x.2) (E := fun _ => False) ⟨by omega, by rw [arcsTo_zero]; exact hx⟩ (fun k y s hy hI => ?_) (fun s hI => hI.2) (fun s hJ => tot_some hJ) (fun _ h => h.elim)
  obtain ⟨hk, hI⟩ := hI
  have hkl := (List.getElem?_eq_some_iff.1 hy).1
  obtain ⟨h1, h2, h3, h4, h5⟩ := pick_at hg hp hy
  obtain ⟨w1, w2⟩ := wayOf_good hg hp hy
  have a1 := arcsTo_good hg hp k hk
  have hz := nz_le p k
  unfold mend_picked_b1
  refine tot_bind (P := fun b => (b = true → s.2 = true ∧ 0 < y) ∧ (b = false → s.2 = false ∨ y = 0)) ?_ fun b _ hb => ?_
  · simp only [tot_ifb_iff, tot_some_iff, decide_eq_true_eq, decide_eq_false_iff_not]
    exact ⟨fun h => ⟨fun h' => ⟨h, h'⟩, fun h' => .inr (by omega)⟩, fun h => ⟨fun h' => (by cases h'), fun _ => .inl h⟩⟩
  refine tot_ifb (fun h => ?_) fun h => tot_some ⟨by omega, ?_⟩
  · obtain ⟨hs, hy0⟩ := hb.1 h
    obtain ⟨s', e, hS, hL⟩ := hI.right hs
    have e1 : w64 (y - 1) = y - 1 := w64_id (by omega) (by have := (hg.ways _ h5).1; omega)
    refine tot_bind' (idx_nth zCh (by omega) (by omega)) ?_
    rw [e1]
    refine tot_bind' (idx_nO (by omega) (by omega)) ?_
    have ew : nO (nth zCh g.Choices (k : Nat)).Ways (y - 1) = wayOf g k y := by unfold wayOf; rw [if_pos hy0]
    rw [ew, e]
    refine tot_bind (with_tot hg.nodes (rdy_le hg) a1 w1 (by omega) (by omega) hS hL) fun x _ hx => tot_some ⟨by omega, ?_⟩
    rw [arcsTo_succ, h4]
    refine hx.mono ?_
    simp only [nz, h4, if_pos hy0]
    omega
  · by_cases hy0 : y = 0
    · have : wayOf g k y = [] := by unfold wayOf; rw [if_neg (by omega)]
      rw [arcsTo_succ, h4, this, List.append_nil]
      exact hI.mono (by simp only [nz]; omega)
    · have hs : s.2 = false := (hb.2 h).resolve_right hy0
      refine ⟨fun h' => (by rw [hs] at h'; cases h'), fun u hu hul => ?_⟩
      refine hI.whole u ⟨hu.ready, fun a ha => hu.arcs a ?_⟩ hul
      rw [arcsTo_succ]
      exact List.mem_append_left _ ha
theorem times_tot (hg : GoodG g) (hp : GoodPick g p) :
    Tot (mend_Times g p) (fun x => (x.2 = 0 ∧ Done g.Ready.length (rdy g) (arcsTo g p p.length) g.Last x.1) ∨ (x.2 = 5 ∧ x.1 = [])) := by
  unfold mend_Times
  refine tot_bind' (checkPick_good hg hp) ?_
  refine tot_ifb (fun h => by simp at h) fun _ => ?_
  refine tot_bind (picked_tot hg hp) fun x _ hx => ?_
  refine tot_ifb (fun h => tot_some (.inr ⟨rfl, rfl⟩)) fun h => ?_
  obtain ⟨s', e, hS, _⟩ := hx.right (by simpa using h)
  refine tot_bind' e (tot_some (.inl ⟨rfl, ?_⟩))
  exact ⟨hS.lt, hS.up, hS.low, hS.tight, hS.least, hS.lasts, hS.sat⟩
end
/-! ### delays -/
/-- seconds that can be handed in -/
structure Secs (g : S_mend_Graph) (t : List Int) : Prop where
  len : t.length = g.Ready.length
  rng : ∀ v : Int, 0 ≤ v → v < g.Ready.length → 0 ≤ nI t v ∧ nI t v ≤ 1099511627776
def late1 (g : S_mend_Graph) (t : List Int) (i : Nat) : Int := if 0 ≤ nI g.Due (i : Nat) then max 0 (nI t (i : Nat) - nI g.Due (i : Nat)) else 0
def late (g : S_mend_Graph) (t : List Int) : Int := sumN (late1 g t) g.Ready.length
theorem late_mono {g : S_mend_Graph} {t u : List Int} (h : ∀ v : Int, 0 ≤ v → v < g.Ready.length → nI t v ≤ nI u v) : late g t ≤ late g u := by
  refine sumN_le fun i hi => ?_
  have := h (i : Nat) (by omega) (by omega)
  unfold late1
  split <;> omega
theorem late_pos (g : S_mend_Graph) (t : List Int) : 0 ≤ late g t := sumN_pos fun i _ => by
  unfold late1
  split <;> omega
theorem delay_eq {g : S_mend_Graph} (hg : GoodG g) {t : List Int} (ht : Secs g t) : mend_delay g t = some (late g t) := by
  refine tot_eq ?_
  have h1 := hg.nodes
  have h2 := hg.due
  have h3 := ht.len
  unfold mend_delay
  refine tot_loopX (I := fun k s => k ≤ g.Due.length ∧ s = sumN (late1 g t) k) (J := fun s => s = late g t) (E := fun _ => False) ⟨by omega, rfl⟩ (fun k y s hy hI => ?_) (fun s hI => by rw [hI.2, h2]; rfl) (fun s hJ => tot_some hJ) (fun _ h => h.elim)
  obtain ⟨hk, hs⟩ := hI
  have hkl := (List.getElem?_eq_some_iff.1 hy).1
  have hy0 : nI g.Due (k : Nat) = y := nth_nat 0 hy
  have hyr := hg.dues y (List.mem_of_getElem? hy)
  have hr := ht.rng (k : Nat) (by omega) (by omega)
  have b1 : sumN (late1 g t) k ≤ sumN (fun _ => 1099511627776) k := sumN_le fun i hi => by
    have := ht.rng (i : Nat) (by omega) (by omega)
    unfold late1
    split <;> omega
  have b0 : 0 ≤ sumN (late1 g t) k := sumN_pos fun i _ => by
    unfold late1
    split <;> omega
  rw [sumN_const] at b1
  unfold mend_delay_b1
  refine tot_ifb (fun h => ?_) fun h => tot_some ⟨by omega, ?_⟩
  · simp only [decide_eq_true_eq] at h
    refine tot_bind' (idx_nI (by omega) (by omega)) ?_
    have e1 : w64 (nI t (k : Nat) - y) = nI t (k : Nat) - y := w64_id (by omega) (by omega)
    have e2 : w64 (s + gmax 0 (nI t (k : Nat) - y)) = s + max 0 (nI t (k : Nat) - y) := by rw [gmax_eq]; exact w64_id (by omega) (by omega)
    rw [e1, e2]
    refine tot_some ⟨by omega, ?_⟩
    simp only [sumN, late1]
    rw [hy0, if_pos (by omega), hs]
  · simp only [decide_eq_false_iff_not] at h
    simp only [sumN, late1]
    rw [hy0, if_neg (by omega), hs]
    omega
theorem Delay_eq {g : S_mend_Graph} (hg : GoodG g) {t : List Int} (ht : Secs g t) : mend_Delay g t = some (late g t, 0) := by
  refine tot_eq ?_
  unfold mend_Delay
  refine tot_bind' (checkGraph_good hg) ?_
  refine tot_ifb (fun h => by simp at h) fun _ => ?_
  refine tot_ifb (fun h => by have := ht.len; simp at h; omega) fun _ => ?_
  refine tot_allX (P := fun _ _ => True) (E := fun _ => False) (fun i x hx => ?_) (fun _ => ?_) (fun y hy => hy.elim)
  · have hi := (List.getElem?_eq_some_iff.1 hx).1
    have hx0 : nI t (i : Nat) = x := nth_nat 0 hx
    have hl := ht.len
    have hr := ht.rng (i : Nat) (by omega) (by omega)
    simp only [mend_Delay_b1, within_eq', tot_bind_iff, tot_some_iff, tot_ifb_iff]
    refine ⟨fun h => ?_, fun h => trivial⟩
    simp at h; omega
  · exact tot_bind' (delay_eq hg ht) (tot_some rfl)
theorem Done.secs {g : S_mend_Graph} {A : List S_mend_Arc} {t : List Int} (h : Done g.Ready.length (rdy g) A g.Last t) : Secs g t := ⟨h.lt, fun v h0 h1 => ⟨by have := h.low v h0 h1; omega, h.up v h0 h1⟩⟩
theorem Solved.secs {g : S_mend_Graph} {A : List S_mend_Arc} {K : Nat} {t : List Int} {o : List (List S_mend_Arc)} (h : Solved g.Ready.length (rdy g) A K t g.Last o) : Secs g t := ⟨h.lt, fun v h0 h1 => ⟨by have := h.low v h0 h1; omega, h.up v h0 h1⟩⟩
theorem awake : fishkeep2_awakeMend = some true := by kernel_rfl
theorem graphs : fishkeep2_graphs = some true := by kernel_rfl
end Mb

/- The mend laws, the plain side: what follows from a pick: forced, Bound. -/
set_option linter.unusedVariables false
set_option linter.unusedSimpArgs false
namespace Mb
open Go Hk Hd

/-- a full pick, with seconds that keep it -/
structure Full (g : S_mend_Graph) (f t : List Int) : Prop where
  pick : GoodPick g f
  all : ∀ i : Nat, i < g.Choices.length → 1 ≤ nI f (i : Nat)
  keeps : Keeps g (arcsTo g f g.Choices.length) (nI t)
  secs : Secs g t
theorem Full.at {g : S_mend_Graph} {f t : List Int} (hg : GoodG g) (h : Full g f t) {i : Nat} (hi : i < g.Choices.length) :
    1 ≤ nI f (i : Nat) ∧ nI f (i : Nat) ≤ (nth zCh g.Choices (i : Nat)).Ways.length ∧ nth zCh g.Choices (i : Nat) ∈ g.Choices ∧ (∀ a ∈ wayOf g i (nI f (i : Nat)), GoodArc g.Ready.length a ∧ a ∈ arcsTo g f g.Choices.length) ∧ (wayOf g i (nI f (i : Nat))).length ≤ 4 := by
  have hl := h.pick.len
  have hx : f[i]? = some f[i] := List.getElem?_eq_getElem (by omega)
  obtain ⟨h1, h2, h3, h4, h5⟩ := pick_at hg h.pick hx
  obtain ⟨w1, w2⟩ := wayOf_good hg h.pick hx
  have := h.all i hi
  rw [h4] at this ⊢
  refine ⟨this, h3, h5, fun a ha => ⟨w1 a ha, mem_arcsTo.2 (.inr ⟨i, hi, ?_⟩)⟩, w2⟩
  rw [h4]; exact ha
/-- a solver that has arcs of the full pick alone -/
structure SubS (g : S_mend_Graph) (A : List S_mend_Arc) (K : Nat) (s : S_mend_solver) : Prop where
  solved : Solved g.Ready.length (rdy g) A K s.times g.Last s.outs
  last : s.last = g.Last
  good : ∀ a ∈ A, GoodArc g.Ready.length a
theorem SubS.mono {g : S_mend_Graph} {A : List S_mend_Arc} {K K' : Nat} {s : S_mend_solver} (h : SubS g A K s) (hK : K ≤ K') : SubS g A K' s := ⟨h.solved.mono hK, h.last, h.good⟩
theorem SubS.le {g : S_mend_Graph} {A : List S_mend_Arc} {K : Nat} {s : S_mend_solver} {f t : List Int} (h : SubS g A K s) (hf : Full g f t) (hA : ∀ a ∈ A, a ∈ arcsTo g f g.Choices.length) : late g s.times ≤ late g t :=
  late_mono fun v h0 h1 => h.solved.least _ (hf.keeps.sub hA).feas v h0 h1
/-- one way more -/
theorem SubS.with {g : S_mend_Graph} (hg : GoodG g) {A : List S_mend_Arc} {K : Nat} {s : S_mend_solver} (h : SubS g A K s) {w : List S_mend_Arc} (hw : ∀ a ∈ w, GoodArc g.Ready.length a) (hl : w.length ≤ 4) (hK : K ≤ 1900) :
    Tot (mend_solver_with_v2 (some s) w) (fun x => (x.2 = true → ∃ s', x.1 = some s' ∧ SubS g (A ++ w) (K + 4) s') ∧ ((∃ u, Keeps g (A ++ w) u) → x.2 = true)) := by
  refine tot_mono (with_tot hg.nodes (rdy_le hg) h.good hw (by omega) (by omega) h.solved h.last) fun x hx => ⟨fun e => ?_, fun ⟨u, hu⟩ => hx.whole u hu.feas hu.lasts⟩
  obtain ⟨s', h1, h2, h3⟩ := hx.right e
  exact ⟨s', h1, h2.mono (by omega), h3, fun a ha => (List.mem_append.1 ha).elim (h.good a) (hw a)⟩
structure FI (g : S_mend_Graph) (f : List Int) (s : Option S_mend_solver) (pick : List Int) : Prop where
  ex : ∃ s' A, s = some s' ∧ SubS g A (250 + 4 * nz pick g.Choices.length) s' ∧ ∀ a ∈ A, a ∈ arcsTo g f g.Choices.length
  len : pick.length = g.Choices.length
  agr : ∀ i : Nat, i < g.Choices.length → nI pick (i : Nat) = 0 ∨ nI pick (i : Nat) = nI f (i : Nat)
section
variable {g : S_mend_Graph} {f t : List Int}
theorem ways_tot (hg : GoodG g) (hf : Full g f t) {s15 : Option S_mend_solver × Bool × List Int} {s' : S_mend_solver} {A : List S_mend_Arc} {K : Nat} (hs : s15.1 = some s') (hS : SubS g A K s') (hK : K ≤ 1900) (hA : ∀ a ∈ A, a ∈ arcsTo g f g.Choices.length) {i : Nat} (hi : i < g.Choices.length)
    {c : S_mend_Choice} (hc : nth zCh g.Choices (i : Nat) = c) {β : Type} {F : Int × Int × Option S_mend_solver → Option β} {H : Empty → Option β} {Q : β → Prop}
    (hF : ∀ s, 1 ≤ s.2.1 → (s.2.1 = 1 → s.1 = nI f (i : Nat) ∧ ∃ s2, s.2.2 = some s2 ∧ SubS g (A ++ wayOf g i (nI f (i : Nat))) (K + 4) s2) → Tot (F s) Q) :
    Tot ((forX (mend_forced_b3 s15) c.Ways (0, 0, (none : Option S_mend_solver))).bind fun c => Ctl.on c F H) Q := by
  obtain ⟨f1, f2, f3, f4, f5⟩ := hf.at hg hi
  rw [hc] at f2 f3
  have hws := hg.ways c f3
  refine tot_loopX (I := fun k s => k ≤ c.Ways.length ∧ 0 ≤ s.2.1 ∧ s.2.1 ≤ k ∧ (nI f (i : Nat) ≤ k → 1 ≤ s.2.1) ∧ (nI f (i : Nat) ≤ k → s.2.1 = 1 → s.1 = nI f (i : Nat) ∧ ∃ s2, s.2.2 = some s2 ∧ SubS g (A ++ wayOf g i (nI f (i : Nat))) (K + 4) s2))
    (J := fun s => 1 ≤ s.2.1 ∧ (s.2.1 = 1 → s.1 = nI f (i : Nat) ∧ ∃ s2, s.2.2 = some s2 ∧ SubS g (A ++ wayOf g i (nI f (i : Nat))) (K + 4) s2)) (E := fun _ => False) ⟨by omega, by simp, by simp, fun h => by omega, fun h => by omega⟩ (fun k w s hw hI => ?_) (fun s hI => ⟨hI.2.2.2.1 f2, hI.2.2.2.2 f2⟩) (fun s hJ => hF s hJ.1 hJ.2) (fun _ h => h.elim)
  obtain ⟨hk, m0, m1, i1, i2⟩ := hI
  have hkl := (List.getElem?_eq_some_iff.1 hw).1
  have hwg := hws.2 w (List.mem_of_getElem? hw)
  have hwe : nI f (i : Nat) = (k : Int) + 1 → w = wayOf g i (nI f (i : Nat)) := fun e => by
    unfold wayOf
    rw [hc, if_pos (by omega), e, show (k : Int) + 1 - 1 = (k : Nat) by omega]
    exact (nth_nat [] hw).symm
  unfold mend_forced_b3
  rw [hs]
  refine tot_bind (hS.with hg hwg.2 hwg.1 hK) fun x _ hx => ?_
  obtain ⟨x1, x2⟩ := hx
  have e1 : w64 ((k : Int) + 1) = (k : Int) + 1 := w64_id (by omega) (by have := hws.1; omega)
  have e2 : w64 (s.2.1 + 1) = s.2.1 + 1 := w64_id (by omega) (by have := hws.1; omega)
  rw [e1, e2]
  refine tot_ifb (fun h => tot_some ⟨by omega, by simp only; omega, by simp only; omega, fun hle => by simp only; omega, fun hle hm => ?_⟩) fun h => tot_some ⟨by omega, m0, by simp only; omega, fun hle => ?_, fun hle hm => ?_⟩
  · simp only at hm ⊢
    by_cases hfk : nI f (i : Nat) ≤ k
    · have := i1 hfk; omega
    · have hfe : nI f (i : Nat) = (k : Int) + 1 := by omega
      obtain ⟨s2, y1, y2⟩ := x1 h
      rw [hwe hfe] at y2
      exact ⟨hfe.symm, s2, y1, y2⟩
  · by_cases hfk : nI f (i : Nat) ≤ k
    · exact i1 hfk
    · have hfe : nI f (i : Nat) = (k : Int) + 1 := by omega
      exfalso
      have := x2 ⟨nI t, hf.keeps.sub fun a ha => ?_⟩
      · rw [h] at this; cases this
      · rcases List.mem_append.1 ha with ha | ha
        · exact hA a ha
        · rw [hwe hfe] at ha; exact (f4 a ha).2
  · by_cases hfk : nI f (i : Nat) ≤ k
    · exact i2 hfk hm
    · have hfe : nI f (i : Nat) = (k : Int) + 1 := by omega
      exfalso
      have := x2 ⟨nI t, hf.keeps.sub fun a ha => ?_⟩
      · rw [h] at this; cases this
      · rcases List.mem_append.1 ha with ha | ha
        · exact hA a ha
        · rw [hwe hfe] at ha; exact (f4 a ha).2
theorem forced_tot (hg : GoodG g) (hf : Full g f t) {p : List Int} (hp : GoodPick g p) (hpf : ∀ i : Nat, i < g.Choices.length → nI p (i : Nat) = 0 ∨ nI p (i : Nat) = nI f (i : Nat)) :
    Tot (mend_forced g p) (fun x => x.2.1 = true ∧ FI g f x.1 x.2.2) := by
  have hl := hp.len
  have hc := hg.choices
  have hsub : ∀ a ∈ arcsTo g p p.length, a ∈ arcsTo g f g.Choices.length := fun a ha => by
    rcases mem_arcsTo.1 ha with ha | ⟨i, hi, ha⟩
    · exact mem_arcsTo.2 (.inl ha)
    · refine mem_arcsTo.2 (.inr ⟨i, by omega, ?_⟩)
      rcases hpf i (by omega) with h | h
      · rw [h] at ha; unfold wayOf at ha; rw [if_neg (by omega)] at ha; simp at ha
      · rwa [h] at ha
  unfold mend_forced
  refine tot_bind (picked_tot hg hp) fun x _ hx => ?_
  have hok := hx.whole _ (hf.keeps.sub hsub).feas hf.keeps.lasts
  refine tot_ifb (fun h => by rw [hok] at h; cases h) fun _ => ?_
  obtain ⟨s', e, hS, hL⟩ := hx.right hok
  refine tot_bind' (clone_eq3 (by omega)) ?_
  have h0 : FI g f x.1 p := ⟨⟨s', _, e, ⟨by rw [← hl]; exact hS, hL, arcsTo_good hg hp _ (Nat.le_refl _)⟩, hsub⟩, hl, hpf⟩
  refine tot_bind (P := fun c => match c with | .go s => FI g f s.1 s.2 | .out _ => False)
    (tot_iter (I := fun s => FI g f s.1 s.2.2) (μ := fun s => 2 * (300 - nz s.2.2 g.Choices.length) + if s.2.1 = true then 1 else 0) h0 (by simp only [bigN]; split <;> omega) (fun s hI => ?_)) fun c _ hc => ?_
  · unfold mend_forced_b1
    refine tot_ifb (fun ha => ?_) fun _ => tot_some hI
    rw [if_pos ha]
    refine tot_loopX (I := fun k s2 => k ≤ g.Choices.length ∧ FI g f s2.1 s2.2.2 ∧ nz s.2.2 g.Choices.length ≤ nz s2.2.2 g.Choices.length ∧ (s2.2.1 = true → nz s.2.2 g.Choices.length < nz s2.2.2 g.Choices.length))
      (J := fun s2 => FI g f s2.1 s2.2.2 ∧ nz s.2.2 g.Choices.length ≤ nz s2.2.2 g.Choices.length ∧ (s2.2.1 = true → nz s.2.2 g.Choices.length < nz s2.2.2 g.Choices.length)) (E := fun _ => False) ⟨by omega, hI, Nat.le_refl _, fun h => (by cases h)⟩ (fun k c s2 hc hI2 => ?_) (fun s2 hI2 => hI2.2) (fun s2 hJ => tot_some ⟨hJ.1, ?_⟩) (fun _ h => h.elim)
    · obtain ⟨hk, hF, z1, z2⟩ := hI2
      have hkl := (List.getElem?_eq_some_iff.1 hc).1
      have hce : nth zCh g.Choices (k : Nat) = c := nth_nat zCh hc
      have hlen := hF.len
      obtain ⟨s3, A, e3, hS3, hA3⟩ := hF.ex
      have hz := nz_le s2.2.2 g.Choices.length
      unfold mend_forced_b2
      refine tot_bind' (idx_nI (by omega) (by omega)) ?_
      refine tot_ifb (fun h => tot_some ⟨by omega, hF, z1, z2⟩) fun h => ?_
      simp only [decide_eq_false_iff_not] at h
      have hfa := (hf.at hg hkl).1
      have hp0 : nI s2.2.2 (k : Nat) = 0 := by rcases hF.agr k hkl with h' | h' <;> omega
      refine ways_tot hg hf e3 hS3 (by omega) hA3 hkl hce fun s4 m1 m2 => ?_
      refine tot_ifb (fun h => by simp at h; omega) fun _ => tot_ifb (fun h1 => ?_) fun _ => tot_some ⟨by omega, hF, z1, z2⟩
      obtain ⟨m3, s5, m4, m5⟩ := m2 (by simpa using h1)
      refine tot_bind' (idx_nI (by omega) (by omega)) (tot_some ?_)
      have hnz : nz (setI s2.2.2 (k : Nat) s4.1) g.Choices.length = nz s2.2.2 g.Choices.length + 1 := by
        rw [m3]
        exact nz_set (by omega) hp0 (by omega) hkl (by omega)
      refine ⟨by omega, ⟨⟨s5, A ++ wayOf g k (nI f (k : Nat)), m4, ?_, fun a ha => ?_⟩, by rw [setI_length]; exact hlen, fun i hi => ?_⟩, by simp only; omega, fun _ => by simp only; omega⟩
      · exact m5.mono (by simp only; omega)
      · rcases List.mem_append.1 ha with ha | ha
        · exact hA3 a ha
        · exact ((hf.at hg hkl).2.2.2.1 a ha).2
      · have hset : nI (setI s2.2.2 (k : Nat) s4.1) (i : Nat) = if ((i : Nat) : Int) = (k : Nat) then s4.1 else nI s2.2.2 (i : Nat) := nth_setI 0 (by omega) (by omega) (by omega)
        simp only
        rw [hset]
        by_cases hik : i = k
        · subst hik
          rw [if_pos rfl]
          exact .inr m3
        · rw [if_neg (by omega)]
          exact hF.agr i hi
    · obtain ⟨_, j2, j3⟩ := hJ
      have hz := nz_le s2.2.2 g.Choices.length
      simp only
      split
      · rename_i h; have := j3 h; omega
      · omega
  · rcases c with s | x
    · exact tot_some ⟨rfl, hc⟩
    · exact hc.elim
theorem bound_le (hg : GoodG g) (hf : Full g f t) {p : List Int} (hp : GoodPick g p) (hpf : ∀ i : Nat, i < g.Choices.length → nI p (i : Nat) = 0 ∨ nI p (i : Nat) = nI f (i : Nat)) :
    Tot (mend_Bound g p) (fun x => x.2 = 0 ∧ x.1 ≤ late g t) := by
  unfold mend_Bound
  refine tot_bind' (checkPick_good hg hp) ?_
  refine tot_ifb (fun h => by simp at h) fun _ => ?_
  refine tot_bind (forced_tot hg hf hp hpf) fun x _ hx => ?_
  obtain ⟨x1, x2⟩ := hx
  refine tot_ifb (fun h => by rw [x1] at h; cases h) fun _ => ?_
  obtain ⟨s', A, e, hS, hA⟩ := x2.ex
  refine tot_bind' e ?_
  refine tot_bind' (delay_eq hg hS.solved.secs) (tot_some ⟨rfl, hS.le hf hA⟩)
end
end Mb

/- The mend laws, the plain side: Best. -/
set_option linter.unusedVariables false
set_option linter.unusedSimpArgs false
namespace Mb
open Go Hk Hd

abbrev RSt := List Int × List Int × List Int × List Int × List S_mend_Arc × List S_mend_Choice × Int × List Int × List Int
abbrev RSt.least (st : RSt) : Int := st.2.2.2.2.2.2.1
abbrev RSt.times (st : RSt) : List Int := st.2.2.2.2.2.2.2.1
/-- what the search leaves -/
structure BP (g : S_mend_Graph) (least : Int) (st : RSt) : Prop where
  g1 : st.2.1 = g.Ready
  g2 : st.2.2.1 = g.Last
  g3 : st.2.2.2.1 = g.Due
  g4 : st.2.2.2.2.1 = g.Arcs
  g5 : st.2.2.2.2.2.1 = g.Choices
  pl : st.1.length = g.Choices.length
  ok : 0 ≤ RSt.least st → Secs g (RSt.times st) ∧ late g (RSt.times st) = RSt.least st
  mono : 0 ≤ least → 0 ≤ RSt.least st ∧ RSt.least st ≤ least
section
variable {g : S_mend_Graph} {f t : List Int}
theorem best_tot (hg : GoodG g) (hf : Full g f t) {op : List Int} (ho : ∀ x ∈ op, 0 ≤ x ∧ x < g.Choices.length) (hol : op.length ≤ 10) : ∀ (N k : Nat) (s : S_mend_solver) (A : List S_mend_Arc) (K : Nat) (pick : List Int) (least : Int) (best times : List Int),
    op.length < N + k → k ≤ op.length → SubS g A K s → K ≤ 1450 + 4 * k → pick.length = g.Choices.length → (0 ≤ least → Secs g times ∧ late g times = least) →
    Tot (mend_Best_1_v2_n N (k : Int) (some s) g.Ready g.Last g.Due g.Arcs g.Choices least op pick best times) (fun st => BP g least st ∧ ((∀ a ∈ A, a ∈ arcsTo g f g.Choices.length) → 0 ≤ RSt.least st ∧ RSt.least st ≤ late g t)) := by
  intro N
  induction N with
  | zero => intro k s A K pick least best times h1 h2; omega
  | succ N ih =>
    intro k s A K pick least best times h1 h2 hS hK hpl hls
    have hcl := hg.choices
    show Tot (mend_Best_1_v2_step (mend_Best_1_v2_n N) (k : Int) (some s) g.Ready g.Last g.Due g.Arcs g.Choices least op pick best times) _
    unfold mend_Best_1_v2_step
    refine tot_bind' rfl ?_
    refine tot_bind' (delay_eq hg hS.solved.secs) ?_
    have hd0 := late_pos g s.times
    refine tot_bind (P := fun b => (b = true ↔ 0 ≤ least ∧ least ≤ late g s.times)) ?_ fun b _ hb => ?_
    · simp only [tot_ifb_iff, tot_some_iff, decide_eq_true_eq, decide_eq_false_iff_not, Bool.false_eq_true, false_iff]
      exact ⟨fun h => ⟨fun h' => ⟨by omega, by omega⟩, fun h' => by omega⟩, fun h h' => by omega⟩
    refine tot_ifb (fun h => tot_some ⟨⟨rfl, rfl, rfl, rfl, rfl, hpl, hls, fun h => ⟨h, Int.le_refl _⟩⟩, fun hA => ?_⟩) fun h => ?_
    · obtain ⟨b1, b2⟩ := hb.1 h
      have := hS.le hf hA
      exact ⟨b1, by show least ≤ _; omega⟩
    have hb' : 0 ≤ least → late g s.times < least := fun h0 => by
      rcases Int.lt_or_le (late g s.times) least with h' | h'
      · exact h'
      · rw [hb.2 ⟨h0, h'⟩] at h; cases h
    refine tot_ifb (fun h => ?_) fun h => ?_
    · refine tot_bind' (clone_eq3 (by omega)) (tot_bind' rfl (tot_some ⟨⟨rfl, rfl, rfl, rfl, rfl, hpl, fun _ => ⟨hS.solved.secs, rfl⟩, fun h0 => ⟨hd0, ?_⟩⟩, fun hA => ⟨hd0, hS.le hf hA⟩⟩))
      have := hb' h0
      show late g s.times ≤ least
      omega
    have hkl : k < op.length := by
      rcases Nat.lt_or_ge k op.length with h' | h'
      · exact h'
      · have : k = op.length := by omega
        subst this
        simp at h
    have hoi : op[k]? = some op[k] := List.getElem?_eq_getElem hkl
    have hoe := ho op[k] (List.getElem_mem hkl)
    generalize hi0 : op[k] = oi at hoi hoe
    obtain ⟨i, rfl⟩ := Int.eq_ofNat_of_zero_le hoe.1
    have hi : i < g.Choices.length := by omega
    refine tot_bind' (show idx op (k : Int) = some (i : Int) by rw [idx_get hkl, hi0]) ?_
    refine tot_bind' (idx_get hi) ?_
    have hce : nth zCh g.Choices (i : Nat) = g.Choices[i] := nth_get zCh hi
    generalize g.Choices[i] = c at hce
    obtain ⟨f1, f2, f3, f4, f5⟩ := hf.at hg hi
    rw [hce] at f2 f3
    have hws := hg.ways c f3
    refine tot_loopX (I := fun j st => j ≤ c.Ways.length ∧ BP g least st ∧ ((∀ a ∈ A, a ∈ arcsTo g f g.Choices.length) → nI f (i : Nat) ≤ j → 0 ≤ RSt.least st ∧ RSt.least st ≤ late g t))
      (J := fun st => BP g least st ∧ ((∀ a ∈ A, a ∈ arcsTo g f g.Choices.length) → 0 ≤ RSt.least st ∧ RSt.least st ≤ late g t)) (E := fun _ => False) ⟨by omega, ⟨rfl, rfl, rfl, rfl, rfl, hpl, hls, fun h => ⟨h, Int.le_refl _⟩⟩, fun _ h => by omega⟩ (fun j w st hw hI => ?_) (fun st hI => ⟨hI.2.1, fun hA => hI.2.2 hA f2⟩) (fun st hJ => ?_) (fun _ h => h.elim)
    · obtain ⟨hj, hP, hC⟩ := hI
      obtain ⟨q0, q1, q2, q3, q4, q5, q6, q7, q8⟩ := st
      obtain ⟨p1, p2, p3, p4, p5, p6, p7, p8⟩ := hP
      simp only at p1 p2 p3 p4 p5 p6
      subst p1 p2 p3 p4 p5
      have hjl := (List.getElem?_eq_some_iff.1 hw).1
      have hwg := hws.2 w (List.mem_of_getElem? hw)
      have hwe : nI f (i : Nat) = (j : Int) + 1 → w = wayOf g i (nI f (i : Nat)) := fun e => by
        unfold wayOf
        rw [hce, if_pos (by omega), e, show (j : Int) + 1 - 1 = (j : Nat) by omega]
        exact (nth_nat [] hw).symm
      have e1 : w64 ((j : Int) + 1) = (j : Int) + 1 := w64_id (by omega) (by have := hws.1; omega)
      have e2 : w64 ((k : Int) + 1) = ((k + 1 : Nat) : Int) := by rw [w64_id (by omega) (by omega)]; omega
      unfold mend_Best_1_v2_b1
      refine tot_bind (hS.with hg hwg.2 hwg.1 (by omega)) fun x _ hx => ?_
      obtain ⟨x1, x2⟩ := hx
      have hcomp : (∀ a ∈ A, a ∈ arcsTo g f g.Choices.length) → nI f (i : Nat) = (j : Int) + 1 → ∀ a ∈ A ++ w, a ∈ arcsTo g f g.Choices.length := fun hA hfe a ha => by
        rcases List.mem_append.1 ha with ha | ha
        · exact hA a ha
        · rw [hwe hfe] at ha; exact (f4 a ha).2
      refine tot_ifb (fun h => ?_) fun h => tot_some ⟨by omega, ⟨rfl, rfl, rfl, rfl, rfl, p6, p7, p8⟩, fun hA hle => ?_⟩
      · obtain ⟨s2, y1, y2⟩ := x1 h
        refine tot_bind' (idx_nI (by omega) (by simp only; omega)) ?_
        simp only [y1, e1, e2]
        refine tot_bind (ih (k + 1) s2 _ _ (setI q0 (i : Int) ((j : Int) + 1)) q6 q8 q7 (by omega) (by omega) y2 (by omega) (by rw [setI_length]; exact p6) p7) fun st' _ hst => tot_some ?_
        obtain ⟨z, zc⟩ := hst
        refine ⟨by omega, ⟨z.g1, z.g2, z.g3, z.g4, z.g5, z.pl, z.ok, fun h0 => ?_⟩, fun hA hle => ?_⟩
        · have k1 := p8 h0
          have k2 := z.mono k1.1
          exact ⟨k2.1, Int.le_trans k2.2 k1.2⟩
        · by_cases hfj : nI f (i : Nat) ≤ j
          · have k1 := hC hA hfj
            have k2 := z.mono k1.1
            exact ⟨k2.1, Int.le_trans k2.2 k1.2⟩
          · exact zc (hcomp hA (by omega))
      · by_cases hfj : nI f (i : Nat) ≤ j
        · exact hC hA hfj
        · exfalso
          have := x2 ⟨nI t, hf.keeps.sub (hcomp hA (by omega))⟩
          rw [h] at this; cases this
    · obtain ⟨hP, hC⟩ := hJ
      have := hP.pl
      refine tot_bind' (idx_nI (by omega) (by omega)) (tot_some ⟨⟨hP.g1, hP.g2, hP.g3, hP.g4, hP.g5, by rw [setI_length]; exact hP.pl, hP.ok, hP.mono⟩, hC⟩)
theorem best1_eq (k : Int) (s : Option S_mend_solver) (a b c : List Int) (d : List S_mend_Arc) (e : List S_mend_Choice) (l : Int) (op pick : List Int) : mend_Best_1 k s a b c d e l op pick = mend_Best_1_v2_n (bigN + 1) k s a b c d e l op pick [] [] := by
  unfold mend_Best_1
  have h : ∀ N, mend_Best_1_n (N + 1) k s a b c d e l op pick = mend_Best_1_v2_n (bigN + 1) k s a b c d e l op pick [] [] := fun N => rfl
  exact h (bigN - 1)
/-- the open ones -/
theorem open_tot {β : Type} {pick : List Int} (hl : pick.length ≤ 300) {F : List Int → Option β} {H : Empty → Option β} {Q : β → Prop} (hF : ∀ op : List Int, (∀ x ∈ op, 0 ≤ x ∧ x < pick.length) → Tot (F op) Q) :
    Tot ((forX mend_Best_b1 pick ([] : List Int)).bind fun c => Ctl.on c F H) Q := by
  refine tot_loopX (I := fun k s => k ≤ pick.length ∧ s.length ≤ k ∧ ∀ x ∈ s, 0 ≤ x ∧ x < pick.length) (J := fun s => ∀ x ∈ s, 0 ≤ x ∧ x < pick.length) (E := fun _ => False) ⟨by omega, by simp, fun x hx => by simp at hx⟩ (fun k y s hy hI => ?_) (fun s hI => hI.2.2) (fun s hJ => hF s hJ) (fun _ h => h.elim)
  obtain ⟨hk, i1, i2⟩ := hI
  have hkl := (List.getElem?_eq_some_iff.1 hy).1
  unfold mend_Best_b1
  refine tot_ifb (fun h => ?_) fun h => tot_some ⟨by omega, by omega, i2⟩
  refine tot_bind' (gapp_eq (by simp only [apRoom, List.length_singleton]; omega) (by simp only [maxLen, List.length_singleton]; omega)) (tot_some ⟨by omega, by simp; omega, fun x hx => ?_⟩)
  rcases List.mem_append.1 hx with hx | hx
  · exact i2 x hx
  · rw [List.mem_singleton.1 hx]; omega
/-- it is too large, or no full pick has less delay -/
theorem best_le (hg : GoodG g) (hf : Full g f t) : Tot (mend_Best g) (fun x => x.2.1 = 4 ∨ (x.2.1 = 0 ∧ Secs g x.1 ∧ late g x.1 ≤ late g t)) := by
  have hcl := hg.choices
  have hz : ∀ i : Nat, i < g.Choices.length → nI (List.replicate g.Choices.length 0) (i : Nat) = 0 := fun i hi => nth_replicate (by omega) (by omega)
  unfold mend_Best
  refine tot_bind' (checkGraph_good hg) ?_
  refine tot_ifb (fun h => by simp at h) fun _ => ?_
  refine tot_bind (P := fun x => x.2.1 = true ∧ FI g f x.1 x.2.2) ?_ fun x _ hx => ?_
  · refine tot_bind' (gmake_eq (by omega) (by simp only [mkRoom]; omega) (by simp only [maxLen]; omega)) ?_
    rw [Int.toNat_natCast]
    refine tot_bind (forced_tot hg hf ⟨by simp, fun i x c hx hc => ?_⟩ fun i hi => .inl (hz i hi)) fun x _ hx => tot_some hx
    have hi := (List.getElem?_eq_some_iff.1 hc).1
    have := hz i hi
    rw [show nI (List.replicate g.Choices.length 0) (i : Nat) = x from nth_nat 0 hx] at this
    omega
  obtain ⟨x1, hF⟩ := hx
  refine tot_ifb (fun h => by rw [x1] at h; cases h) fun _ => ?_
  obtain ⟨s', A, e, hS, hA⟩ := hF.ex
  have hpl := hF.len
  have hz2 := nz_le x.2.2 g.Choices.length
  refine open_tot (by omega) fun op ho => ?_
  refine tot_ifb (fun h => tot_some (.inl rfl)) fun h => ?_
  simp only [decide_eq_false_iff_not] at h
  rw [e, best1_eq]
  refine tot_bind (best_tot hg hf (op := op) (fun x hx => by have := ho x hx; omega) (by omega) (bigN + 1) 0 s' A _ x.2.2 (-1) [] [] (by simp only [bigN]; omega) (by omega) hS (by omega) hpl (fun h => by omega)) fun st _ hst => ?_
  obtain ⟨z, zc⟩ := hst
  obtain ⟨z1, z2⟩ := zc hA
  refine tot_ifb (fun h => ?_) fun _ => tot_some (.inr ⟨rfl, ?_⟩)
  · simp only [decide_eq_true_eq] at h
    exfalso
    have z1 : 0 ≤ st.2.2.2.2.2.2.1 := z1
    omega
  · obtain ⟨y1, y2⟩ := z.ok z1
    exact ⟨y1, by show late g (RSt.times st) ≤ _; omega⟩
end
end Mb
