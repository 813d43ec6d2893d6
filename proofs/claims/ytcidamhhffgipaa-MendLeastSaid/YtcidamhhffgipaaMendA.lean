/- MendLeast, the plain side: what the checkers let in. -/
import Derived.Test.YtcidamhhffgipaaMLe
import Derived.Test.YtcidamhhffgipaaHkP
set_option linter.unusedVariables false
set_option linter.unusedSimpArgs false
namespace Hk
open Go

structure GoodArc (n : Nat) (a : S_mend_Arc) : Prop where
  f0 : 0 ≤ a.From
  f1 : a.From < n
  t0 : 0 ≤ a.To
  t1 : a.To < n
  ne : a.From ≠ a.To
  l0 : -28800 ≤ a.Len
  l1 : a.Len ≤ 28800
structure GoodG (g : S_mend_Graph) : Prop where
  nodes : g.Ready.length ≤ 24
  arcs : g.Arcs.length ≤ 250
  choices : g.Choices.length ≤ 300
  last : g.Last.length = g.Ready.length
  due : g.Due.length = g.Ready.length
  ready : ∀ x ∈ g.Ready, 0 ≤ x ∧ x ≤ 28800
  lasts : ∀ x ∈ g.Last, -1 ≤ x ∧ x ≤ 28800
  dues : ∀ x ∈ g.Due, -1 ≤ x ∧ x ≤ 28800
  arc : ∀ a ∈ g.Arcs, GoodArc g.Ready.length a
  ways : ∀ c ∈ g.Choices, c.Ways.length ≤ 3 ∧ ∀ w ∈ c.Ways, w.length ≤ 4 ∧ ∀ a ∈ w, GoodArc g.Ready.length a
structure GoodPick (g : S_mend_Graph) (p : List Int) : Prop where
  len : p.length = g.Choices.length
  pick : ∀ (i : Nat) (x : Int) (c : S_mend_Choice), p[i]? = some x → g.Choices[i]? = some c → 0 ≤ x ∧ x ≤ c.Ways.length

theorem within_eq (n l h : Int) : fishref2_within n l h = some (decide (l ≤ n ∧ n ≤ h)) := by
  simp [fishref2_within, ifb_and]
theorem within_eq' (n l h : Int) : mend_within n l h = some (decide (l ≤ n ∧ n ≤ h)) := by
  simp [mend_within, ifb_and]
theorem arcFault_tot (a : S_mend_Arc) (n : Nat) : Tot (fishref2_arcFault a n) (fun e => e = 0 → GoodArc n a) := by
  simp only [fishref2_arcFault, within_eq, tot_bind_iff, tot_some_iff, tot_ifb_iff]
  refine ⟨fun h => ?_, fun h => ⟨fun h => ?_, fun h => ⟨fun h => ?_, fun h => ?_⟩⟩⟩ <;> simp_all
  intros; constructor <;> omega
theorem goodArc_fault {a : S_mend_Arc} {n : Nat} (h : GoodArc n a) : fishref2_arcFault a n = some 0 := by
  obtain ⟨h1, h2, h3, h4, h5, h6, h7⟩ := h
  refine tot_eq ?_
  simp only [fishref2_arcFault, within_eq, tot_bind_iff, tot_some_iff, tot_ifb_iff]
  refine ⟨fun h => ?_, fun h => ⟨fun h => ?_, fun h => ⟨fun h => ?_, fun h => ?_⟩⟩⟩ <;> simp_all <;> omega
/-- a loop over a list that leaves with what is no 0 -/
theorem tot_all {α β : Type} {body : Nat → α → Unit → Option (Ctl Unit (Ctl Unit Int))} {xs : List α} {F : Unit → Option β} {H : Int → Option β} {Q : β → Prop} (P : Nat → α → Prop)
    (hstep : ∀ i x, xs[i]? = some x → Tot (body i x ()) (fun c => match c with | .go _ => P i x | .out (.go _) => False | .out (.out y) => y ≠ 0))
    (hF : (∀ (i : Nat) x, xs[i]? = some x → P i x) → Tot (F ()) Q) (hH : ∀ y, y ≠ 0 → Tot (H y) Q) : Tot ((forC body xs ()).bind fun c => Ctl.on c F H) Q := by
  refine tot_loop (I := fun k _ => ∀ i x, i < k → xs[i]? = some x → P i x) (J := fun _ => ∀ (i : Nat) x, xs[i]? = some x → P i x) (E := fun y => y ≠ 0) (fun i x h => by omega) (fun i x s hx hI => tot_mono (hstep i x hx) fun c hc => ?_) (fun s hI i x hx => hI i x (List.getElem?_eq_some_iff.1 hx).1 hx) (fun s hJ => hF hJ) hH
  rcases c with _ | (_ | y)
  · intro j y hj hy
    by_cases h : j = i
    · subst h; rw [hx] at hy; injection hy with hy; subst hy; exact hc
    · exact hI j y (by omega) hy
  · exact hc.elim
  · exact hc
theorem mem_of_all {α : Type} {xs : List α} {P : α → Prop} (h : ∀ (i : Nat) x, xs[i]? = some x → P x) : ∀ x ∈ xs, P x := fun x hx => by
  obtain ⟨i, hi⟩ := List.getElem?_of_mem hx
  exact h i x hi
theorem graphFault_tot (g : S_mend_Graph) : Tot (fishref2_GraphFault g) (fun e => e = 0 → GoodG g) := by
  unfold fishref2_GraphFault
  refine tot_bind (P := fun b => b = false → g.Ready.length ≤ 24 ∧ g.Arcs.length ≤ 250 ∧ g.Choices.length ≤ 300) ?_ fun b _ hb => ?_
  · simp only [tot_ifb_iff, tot_some_iff, decide_eq_true_eq, decide_eq_false_iff_not]
    refine ⟨fun h => by simp, fun h => ⟨fun h => by simp, fun h h' => ?_⟩⟩
    omega
  refine tot_ifb (fun h => tot_some (by simp)) fun h => ?_
  obtain ⟨b1, b2, b3⟩ := hb h
  refine tot_bind (P := fun b => b = false → g.Last.length = g.Ready.length ∧ g.Due.length = g.Ready.length) ?_ fun b _ hb => ?_
  · simp only [tot_ifb_iff, tot_some_iff, bne_iff_ne, bne_eq_false_iff_eq]
    refine ⟨fun h => by simp, fun h h' => ?_⟩
    omega
  refine tot_ifb (fun h => tot_some (by simp)) fun h => ?_
  obtain ⟨b4, b5⟩ := hb h
  refine tot_all (P := fun i x => (0 ≤ x ∧ x ≤ 28800) ∧ (∀ y, g.Last[i]? = some y → -1 ≤ y ∧ y ≤ 28800) ∧ (∀ y, g.Due[i]? = some y → -1 ≤ y ∧ y ≤ 28800)) (fun i x hx => ?_) (fun hR => ?_) (fun y hy => tot_some (fun h => absurd h hy))
  · have hi := (List.getElem?_eq_some_iff.1 hx).1
    have h1 : i < g.Last.length := by omega
    have h2 : i < g.Due.length := by omega
    simp only [fishref2_GraphFault_b6, within_eq, tot_bind_iff, tot_some_iff, tot_ifb_iff, tot_idx_iff]
    refine ⟨fun h => ⟨fun _ => by simp, fun h => by simp at h⟩, fun h => ⟨h1, ⟨fun h => ⟨fun _ => by simp, fun h => by simp at h⟩, fun h' => ⟨h2, ⟨fun _ => by simp, fun h'' => ?_⟩⟩⟩⟩⟩
    simp at h h' h''
    refine ⟨h, fun y hy => ?_, fun y hy => ?_⟩
    · rw [List.getElem?_eq_getElem h1] at hy; injection hy with hy; subst hy; exact h'
    · rw [List.getElem?_eq_getElem h2] at hy; injection hy with hy; subst hy; exact h''
  refine tot_all (P := fun i x => GoodArc g.Ready.length x) (fun i x hx => ?_) (fun hA => ?_) (fun y hy => tot_some (fun h => absurd h hy))
  · unfold fishref2_GraphFault_b7
    refine tot_bind (arcFault_tot x _) fun e _ he => tot_ifb (fun h => tot_some ?_) fun h => tot_some ?_
    · simpa using h
    · exact he (by simpa using h)
  refine tot_all (P := fun i c => c.Ways.length ≤ 3 ∧ ∀ w ∈ c.Ways, w.length ≤ 4 ∧ ∀ a ∈ w, GoodArc g.Ready.length a) (fun i c hc => ?_) (fun hC => ?_) (fun y hy => tot_some (fun h => absurd h hy))
  · unfold fishref2_GraphFault_b10
    refine tot_ifb (fun h => tot_some (by simp)) fun h => ?_
    simp only [decide_eq_false_iff_not] at h
    refine tot_all (P := fun i w => w.length ≤ 4 ∧ ∀ a ∈ w, GoodArc g.Ready.length a) (fun i w hw => ?_) (fun hW => tot_some ⟨by omega, mem_of_all hW⟩) (fun y hy => tot_some hy)
    unfold fishref2_GraphFault_b12
    refine tot_ifb (fun h => tot_some (by simp)) fun h => ?_
    simp only [decide_eq_false_iff_not] at h
    refine tot_all (P := fun i a => GoodArc g.Ready.length a) (fun i x hx => ?_) (fun hA' => tot_some ⟨by omega, mem_of_all hA'⟩) (fun y hy => tot_some hy)
    unfold fishref2_GraphFault_b13
    refine tot_bind (arcFault_tot x _) fun e _ he => tot_ifb (fun h => tot_some ?_) fun h => tot_some ?_
    · simpa using h
    · exact he (by simpa using h)
  refine tot_some fun _ => ⟨b1, b2, b3, b4, b5, mem_of_all fun i x hx => (hR i x hx).1, mem_of_all fun i x hx => ?_, mem_of_all fun i x hx => ?_, mem_of_all hA, mem_of_all hC⟩
  · have hi := (List.getElem?_eq_some_iff.1 hx).1
    exact (hR i _ (List.getElem?_eq_getElem (by omega))).2.1 x hx
  · have hi := (List.getElem?_eq_some_iff.1 hx).1
    exact (hR i _ (List.getElem?_eq_getElem (by omega))).2.2 x hx
theorem pickFault_tot (g : S_mend_Graph) (p : List Int) : Tot (fishref2_PickFault g p) (fun e => e = 0 → GoodG g ∧ GoodPick g p) := by
  unfold fishref2_PickFault
  refine tot_bind (graphFault_tot g) fun e _ he => tot_ifb (fun h => tot_some ?_) fun h => ?_
  · intro h0; subst h0; simp at h
  have hG := he (by simpa using h)
  refine tot_ifb (fun h => tot_some (by simp)) fun h => ?_
  have hl : p.length = g.Choices.length := by simp at h; omega
  refine tot_all (P := fun i x => ∀ c, g.Choices[i]? = some c → 0 ≤ x ∧ x ≤ c.Ways.length) (fun i x hx => ?_) (fun hP => tot_some fun _ => ⟨hG, hl, fun i x c hx hc => hP i x hx c hc⟩) (fun y hy => tot_some (fun h => absurd h hy))
  have hi := (List.getElem?_eq_some_iff.1 hx).1
  have h1 : i < g.Choices.length := by omega
  simp only [fishref2_PickFault_b2, tot_bind_iff, tot_some_iff, tot_ifb_iff, tot_idx_iff]
  refine ⟨fun h => ⟨fun _ => by simp, fun h => by simp at h⟩, fun h => ⟨h1, ⟨fun _ => by simp, fun h' c hc => ?_⟩⟩⟩
  simp at h h'
  rw [List.getElem?_eq_getElem h1] at hc; injection hc with hc; subst hc
  omega
/-! ### mend's own checkers -/
theorem checkArcs_good {g : S_mend_Graph} {l : List S_mend_Arc} (hn : g.Ready.length ≤ 24) (h : ∀ a ∈ l, GoodArc g.Ready.length a) : mend_checkArcs g l = some 0 := by
  refine tot_eq ?_
  unfold mend_checkArcs
  refine tot_loop (I := fun _ _ => True) (J := fun _ => True) (E := fun _ => False) trivial (fun i x s hx _ => ?_) (fun _ _ => trivial) (fun _ _ => tot_some rfl) (fun _ h => h.elim)
  obtain ⟨h1, h2, h3, h4, h5, h6, h7⟩ := h x (List.mem_of_getElem? hx)
  have hw : w64 ((g.Ready.length : Int) - 1) = (g.Ready.length : Int) - 1 := w64_id (by omega) (by omega)
  simp only [mend_checkArcs_b2, within_eq', hw, tot_bind_iff, tot_some_iff, tot_ifb_iff]
  refine ⟨fun h => ?_, fun h => ⟨fun h => ?_, fun h => ⟨fun h => ?_, fun h => ⟨fun h => ?_, fun h => trivial⟩⟩⟩⟩
  · simp at h; omega
  · simp at h; omega
  · simp at h; omega
  · simp at h; omega
theorem checkGraph_good {g : S_mend_Graph} (h : GoodG g) : mend_CheckGraph g = some 0 := by
  obtain ⟨h1, h2, h3, h4, h5, h6, h7, h8, h9, h10⟩ := h
  refine tot_eq ?_
  unfold mend_CheckGraph
  refine tot_bind (P := (· = false)) ?_ fun b _ hb => ?_
  · simp only [tot_ifb_iff, tot_some_iff, decide_eq_true_eq, decide_eq_false_iff_not]
    exact ⟨fun h => by omega, fun h => ⟨fun h => by omega, fun h => by omega⟩⟩
  subst hb
  rw [ifb_false]
  refine tot_bind (P := (· = false)) ?_ fun b _ hb => ?_
  · simp only [tot_ifb_iff, tot_some_iff, bne_iff_ne, bne_eq_false_iff_eq]
    exact ⟨fun h => by omega, fun h => by omega⟩
  subst hb
  rw [ifb_false]
  refine tot_loop (I := fun _ _ => True) (J := fun _ => True) (E := fun _ => False) trivial (fun i x s hx _ => ?_) (fun _ _ => trivial) (fun _ _ => ?_) (fun _ h => h.elim)
  · have hi := (List.getElem?_eq_some_iff.1 hx).1
    have e1 : i < g.Last.length := by omega
    have e2 : i < g.Due.length := by omega
    have k1 := h6 x (List.mem_of_getElem? hx)
    have k2 := h7 _ (List.getElem_mem e1)
    have k3 := h8 _ (List.getElem_mem e2)
    simp only [mend_CheckGraph_b4, within_eq', tot_bind_iff, tot_some_iff, tot_ifb_iff, tot_idx_iff]
    refine ⟨fun h => ?_, fun h => ⟨e1, ⟨fun h => ?_, fun h => ⟨e2, ⟨fun h => ?_, fun h => trivial⟩⟩⟩⟩⟩
    · simp at h; omega
    · simp at h; omega
    · simp at h; omega
  refine tot_bind' (checkArcs_good h1 h9) ?_
  refine tot_ifb (fun h => by simp at h) fun _ => ?_
  refine tot_loop (I := fun _ _ => True) (J := fun _ => True) (E := fun _ => False) trivial (fun i c s hc _ => ?_) (fun _ _ => trivial) (fun _ _ => tot_some rfl) (fun _ h => h.elim)
  obtain ⟨k1, k2⟩ := h10 c (List.mem_of_getElem? hc)
  unfold mend_CheckGraph_b6
  refine tot_ifb (fun h => by simp at h; omega) fun _ => ?_
  refine tot_loop (I := fun _ _ => True) (J := fun _ => True) (E := fun _ => False) trivial (fun i w s hw _ => ?_) (fun _ _ => trivial) (fun _ _ => tot_some trivial) (fun _ h => h.elim)
  obtain ⟨k3, k4⟩ := k2 w (List.mem_of_getElem? hw)
  unfold mend_CheckGraph_b7
  refine tot_ifb (fun h => by simp at h; omega) fun _ => ?_
  refine tot_bind' (checkArcs_good h1 k4) ?_
  exact tot_ifb (fun h => by simp at h) fun _ => tot_some trivial
theorem checkPick_good {g : S_mend_Graph} {p : List Int} (hg : GoodG g) (hp : GoodPick g p) : mend_checkPick g p = some 0 := by
  refine tot_eq ?_
  unfold mend_checkPick
  refine tot_bind' (checkGraph_good hg) ?_
  refine tot_ifb (fun h => by simp at h) fun _ => ?_
  refine tot_ifb (fun h => by have := hp.len; simp at h; omega) fun _ => ?_
  refine tot_loop (I := fun _ _ => True) (J := fun _ => True) (E := fun _ => False) trivial (fun i x s hx _ => ?_) (fun _ _ => trivial) (fun _ _ => tot_some rfl) (fun _ h => h.elim)
  have hi := (List.getElem?_eq_some_iff.1 hx).1
  have h1 : i < g.Choices.length := by have := hp.len; omega
  have h2 := hp.pick i x _ hx (List.getElem?_eq_getElem h1)
  simp only [mend_checkPick_b2, within_eq', tot_bind_iff, tot_some_iff, tot_ifb_iff, tot_idx_iff]
  refine ⟨h1, fun h => ?_, fun h => trivial⟩
  simp at h; omega
end Hk
