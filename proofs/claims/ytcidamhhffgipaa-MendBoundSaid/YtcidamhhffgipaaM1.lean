/- The mend laws, the plain side: what the checkers let in. -/
import Derived.Test.YtcidamhhffgipaaMBP
import Derived.Test.YtcidamhhffgipaaK5
set_option linter.unusedVariables false
set_option linter.unusedSimpArgs false
namespace Mb
open Go Hk Hd

structure GoodArc (n : Nat) (a : S_mend_Arc) : Prop where
  f0 : 0 ≤ a.From
  f1 : a.From < n
  t0 : 0 ≤ a.To
  t1 : a.To < n
  ne : a.From ≠ a.To
  l0 : -28800 ≤ a.Len
  l1 : a.Len ≤ 28800
structure GoodG (g : S_mend_Graph) : Prop where
  nodes : g.Ready.length ≤ 24
  arcs : g.Arcs.length ≤ 250
  choices : g.Choices.length ≤ 300
  last : g.Last.length = g.Ready.length
  due : g.Due.length = g.Ready.length
  ready : ∀ x ∈ g.Ready, 0 ≤ x ∧ x ≤ 28800
  lasts : ∀ x ∈ g.Last, -1 ≤ x ∧ x ≤ 28800
  dues : ∀ x ∈ g.Due, -1 ≤ x ∧ x ≤ 28800
  arc : ∀ a ∈ g.Arcs, GoodArc g.Ready.length a
  ways : ∀ c ∈ g.Choices, c.Ways.length ≤ 3 ∧ ∀ w ∈ c.Ways, w.length ≤ 4 ∧ ∀ a ∈ w, GoodArc g.Ready.length a
structure GoodPick (g : S_mend_Graph) (p : List Int) : Prop where
  len : p.length = g.Choices.length
  pick : ∀ (i : Nat) (x : Int) (c : S_mend_Choice), p[i]? = some x → g.Choices[i]? = some c → 0 ≤ x ∧ x ≤ c.Ways.length

theorem within_eq (n l h : Int) : fishref2_within n l h = some (decide (l ≤ n ∧ n ≤ h)) := by
  simp [fishref2_within, ifb_and]
theorem within_eq' (n l h : Int) : mend_within n l h = some (decide (l ≤ n ∧ n ≤ h)) := by
  simp [mend_within, ifb_and]
theorem arcFault_tot (a : S_mend_Arc) (n : Nat) : Tot (fishref2_arcFault a n) (fun e => e = 0 → GoodArc n a) := by
  simp only [fishref2_arcFault, within_eq, tot_bind_iff, tot_some_iff, tot_ifb_iff]
  refine ⟨fun h => ?_, fun h => ⟨fun h => ?_, fun h => ⟨fun h => ?_, fun h => ?_⟩⟩⟩ <;> simp_all
  intros; constructor <;> omega
theorem goodArc_fault {a : S_mend_Arc} {n : Nat} (h : GoodArc n a) : fishref2_arcFault a n = some 0 := by
  obtain ⟨h1, h2, h3, h4, h5, h6, h7⟩ := h
  refine tot_eq ?_
  simp only [fishref2_arcFault, within_eq, tot_bind_iff, tot_some_iff, tot_ifb_iff]
  refine ⟨fun h => ?_, fun h => ⟨fun h => ?_, fun h => ⟨fun h => ?_, fun h => ?_⟩⟩⟩ <;> simp_all <;> omega
theorem graphFault_tot (g : S_mend_Graph) : Tot (fishref2_GraphFault g) (fun e => e = 0 → GoodG g) := by
  unfold fishref2_GraphFault
  refine tot_bind (P := fun b => b = false → g.Ready.length ≤ 24 ∧ g.Arcs.length ≤ 250 ∧ g.Choices.length ≤ 300) ?_ fun b _ hb => ?_
  · simp only [tot_ifb_iff, tot_some_iff, decide_eq_true_eq, decide_eq_false_iff_not]
    refine ⟨fun h => by simp, fun h => ⟨fun h => by simp, fun h h' => ?_⟩⟩
    omega
  refine tot_ifb (fun h => tot_some (by simp)) fun h => ?_
  obtain ⟨b1, b2, b3⟩ := hb h
  refine tot_bind (P := fun b => b = false → g.Last.length = g.Ready.length ∧ g.Due.length = g.Ready.length) ?_ fun b _ hb => ?_
  · simp only [tot_ifb_iff, tot_some_iff, bne_iff_ne, bne_eq_false_iff_eq]
    refine ⟨fun h => by simp, fun h h' => ?_⟩
    omega
  refine tot_ifb (fun h => tot_some (by simp)) fun h => ?_
  obtain ⟨b4, b5⟩ := hb h
  refine tot_allN (P := fun i => (∀ y, g.Ready[i]? = some y → 0 ≤ y ∧ y ≤ 28800) ∧ (∀ y, g.Last[i]? = some y → -1 ≤ y ∧ y ≤ 28800) ∧ (∀ y, g.Due[i]? = some y → -1 ≤ y ∧ y ≤ 28800)) (E := fun y => y ≠ 0) (fun i hi => ?_) (fun hR => ?_) (fun y hy => tot_some (fun h => absurd h hy))
  · have h1 : i < g.Last.length := by omega
    have h2 : i < g.Due.length := by omega
    simp only [fishref2_GraphFault_b1, within_eq, tot_bind_iff, tot_some_iff, tot_ifb_iff, tot_idx_iff]
    refine ⟨hi, fun h => ⟨fun _ => by simp, fun h => by simp at h⟩, fun h => ⟨h1, ⟨fun h => ⟨fun _ => by simp, fun h => by simp at h⟩, fun h' => ⟨h2, ⟨fun _ => by simp, fun h'' => ?_⟩⟩⟩⟩⟩
    simp at h h' h''
    refine ⟨fun y hy => ?_, fun y hy => ?_, fun y hy => ?_⟩
    · rw [List.getElem?_eq_getElem hi] at hy; injection hy with hy; subst hy; exact h
    · rw [List.getElem?_eq_getElem h1] at hy; injection hy with hy; subst hy; exact h'
    · rw [List.getElem?_eq_getElem h2] at hy; injection hy with hy; subst hy; exact h''
  refine tot_allX (P := fun i x => GoodArc g.Ready.length x) (E := fun y => y ≠ 0) (fun i x hx => ?_) (fun hA => ?_) (fun y hy => tot_some (fun h => absurd h hy))
  · unfold fishref2_GraphFault_b2
    refine tot_bind (arcFault_tot x _) fun e _ he => tot_ifb (fun h => tot_some ?_) fun h => tot_some ?_
    · simpa using h
    · exact he (by simpa using h)
  refine tot_allX (P := fun i c => c.Ways.length ≤ 3 ∧ ∀ w ∈ c.Ways, w.length ≤ 4 ∧ ∀ a ∈ w, GoodArc g.Ready.length a) (E := fun y => y ≠ 0) (fun i c hc => ?_) (fun hC => ?_) (fun y hy => tot_some (fun h => absurd h hy))
  · unfold fishref2_GraphFault_b3
    refine tot_ifb (fun h => tot_some (by simp)) fun h => ?_
    simp only [decide_eq_false_iff_not] at h
    refine tot_allX (P := fun i w => w.length ≤ 4 ∧ ∀ a ∈ w, GoodArc g.Ready.length a) (E := fun y => y ≠ 0) (fun i w hw => ?_) (fun hW => tot_some ⟨by omega, mem_of_all hW⟩) (fun y hy => tot_some hy)
    unfold fishref2_GraphFault_b4
    refine tot_ifb (fun h => tot_some (by simp)) fun h => ?_
    simp only [decide_eq_false_iff_not] at h
    refine tot_allX (P := fun i a => GoodArc g.Ready.length a) (E := fun y => y ≠ 0) (fun i x hx => ?_) (fun hA' => tot_some ⟨by omega, mem_of_all hA'⟩) (fun y hy => tot_some hy)
    unfold fishref2_GraphFault_b5
    refine tot_bind (arcFault_tot x _) fun e _ he => tot_ifb (fun h => tot_some ?_) fun h => tot_some ?_
    · simpa using h
    · exact he (by simpa using h)
  refine tot_some fun _ => ⟨b1, b2, b3, b4, b5, mem_of_all fun i x hx => ?_, mem_of_all fun i x hx => ?_, mem_of_all fun i x hx => ?_, mem_of_all hA, mem_of_all hC⟩
  · have hi := (List.getElem?_eq_some_iff.1 hx).1
    exact (hR i hi).1 x hx
  · have hi := (List.getElem?_eq_some_iff.1 hx).1
    exact (hR i (by omega)).2.1 x hx
  · have hi := (List.getElem?_eq_some_iff.1 hx).1
    exact (hR i (by omega)).2.2 x hx
theorem pickFault_tot (g : S_mend_Graph) (p : List Int) : Tot (fishref2_PickFault g p) (fun e => e = 0 → GoodG g ∧ GoodPick g p) := by
  unfold fishref2_PickFault
  refine tot_bind (graphFault_tot g) fun e _ he => tot_ifb (fun h => tot_some ?_) fun h => ?_
  · intro h0; subst h0; simp at h
  have hG := he (by simpa using h)
  refine tot_ifb (fun h => tot_some (by simp)) fun h => ?_
  have hl : p.length = g.Choices.length := by simp at h; omega
  refine tot_allX (P := fun i x => ∀ c, g.Choices[i]? = some c → 0 ≤ x ∧ x ≤ c.Ways.length) (E := fun y => y ≠ 0) (fun i x hx => ?_) (fun hP => tot_some fun _ => ⟨hG, hl, fun i x c hx hc => hP i x hx c hc⟩) (fun y hy => tot_some (fun h => absurd h hy))
  have hi := (List.getElem?_eq_some_iff.1 hx).1
  have h1 : i < g.Choices.length := by omega
  simp only [fishref2_PickFault_b1, tot_bind_iff, tot_some_iff, tot_ifb_iff, tot_idx_iff]
  refine ⟨fun h => ⟨fun _ => by simp, fun h => by simp at h⟩, fun h => ⟨h1, ⟨fun _ => by simp, fun h' c hc => ?_⟩⟩⟩
  simp at h h'
  rw [List.getElem?_eq_getElem h1] at hc; injection hc with hc; subst hc
  omega
/-! ### mend's own checkers -/
theorem checkArcs_good {g : S_mend_Graph} {l : List S_mend_Arc} (hn : g.Ready.length ≤ 24) (h : ∀ a ∈ l, GoodArc g.Ready.length a) : mend_checkArcs g l = some 0 := by
  refine tot_eq ?_
  unfold mend_checkArcs
  refine tot_loopX (I := fun _ _ => True) (J := fun _ => True) (E := fun _ => False) trivial (fun i x s hx _ => ?_) (fun _ _ => trivial) (fun _ _ => tot_some rfl) (fun _ h => h.elim)
  obtain ⟨h1, h2, h3, h4, h5, h6, h7⟩ := h x (List.mem_of_getElem? hx)
  have hw : w64 ((g.Ready.length : Int) - 1) = (g.Ready.length : Int) - 1 := w64_id (by omega) (by omega)
  simp only [mend_checkArcs_b1, within_eq', hw, tot_bind_iff, tot_some_iff, tot_ifb_iff]
  refine ⟨fun h => ?_, fun h => ⟨fun h => ?_, fun h => ⟨fun h => ?_, fun h => ⟨fun h => ?_, fun h => trivial⟩⟩⟩⟩
  · simp at h; omega
  · simp at h; omega
  · simp at h; omega
  · simp at h; omega
theorem checkGraph_good {g : S_mend_Graph} (h : GoodG g) : mend_CheckGraph g = some 0 := by
  obtain ⟨h1, h2, h3, h4, h5, h6, h7, h8, h9, h10⟩ := h
  refine tot_eq ?_
  unfold mend_CheckGraph
  refine tot_bind (P := (· = false)) ?_ fun b _ hb => ?_
  · simp only [tot_ifb_iff, tot_some_iff, decide_eq_true_eq, decide_eq_false_iff_not]
    exact ⟨fun h => by omega, fun h => ⟨fun h => by omega, fun h => by omega⟩⟩
  subst hb
  rw [ifb_false]
  refine tot_bind (P := (· = false)) ?_ fun b _ hb => ?_
  · simp only [tot_ifb_iff, tot_some_iff, bne_iff_ne, bne_eq_false_iff_eq]
    exact ⟨fun h => by omega, fun h => by omega⟩
  subst hb
  rw [ifb_false]
  refine tot_loopN (I := fun _ _ => True) (J := fun _ => True) (E := fun _ => False) trivial (fun i s hi _ => ?_) (fun _ _ => trivial) (fun _ _ => ?_) (fun _ h => h.elim)
  · have e1 : i < g.Last.length := by omega
    have e2 : i < g.Due.length := by omega
    have k1 := h6 _ (List.getElem_mem hi)
    have k2 := h7 _ (List.getElem_mem e1)
    have k3 := h8 _ (List.getElem_mem e2)
    simp only [mend_CheckGraph_b1, within_eq', tot_bind_iff, tot_some_iff, tot_ifb_iff, tot_idx_iff]
    refine ⟨hi, fun h => ?_, fun h => ⟨e1, ⟨fun h => ?_, fun h => ⟨e2, ⟨fun h => ?_, fun h => trivial⟩⟩⟩⟩⟩
    · simp at h; omega
    · simp at h; omega
    · simp at h; omega
  refine tot_bind' (checkArcs_good h1 h9) ?_
  refine tot_ifb (fun h => by simp at h) fun _ => ?_
  refine tot_loopX (I := fun _ _ => True) (J := fun _ => True) (E := fun _ => False) trivial (fun i c s hc _ => ?_) (fun _ _ => trivial) (fun _ _ => tot_some rfl) (fun _ h => h.elim)
  obtain ⟨k1, k2⟩ := h10 c (List.mem_of_getElem? hc)
  unfold mend_CheckGraph_b2
  refine tot_ifb (fun h => by simp at h; omega) fun _ => ?_
  refine tot_loopX (I := fun _ _ => True) (J := fun _ => True) (E := fun _ => False) trivial (fun i w s hw _ => ?_) (fun _ _ => trivial) (fun _ _ => tot_some trivial) (fun _ h => h.elim)
  obtain ⟨k3, k4⟩ := k2 w (List.mem_of_getElem? hw)
  unfold mend_CheckGraph_b3
  refine tot_ifb (fun h => by simp at h; omega) fun _ => ?_
  refine tot_bind' (checkArcs_good h1 k4) ?_
  exact tot_ifb (fun h => by simp at h) fun _ => tot_some trivial
theorem checkPick_good {g : S_mend_Graph} {p : List Int} (hg : GoodG g) (hp : GoodPick g p) : mend_checkPick g p = some 0 := by
  refine tot_eq ?_
  unfold mend_checkPick
  refine tot_bind' (checkGraph_good hg) ?_
  refine tot_ifb (fun h => by simp at h) fun _ => ?_
  refine tot_ifb (fun h => by have := hp.len; simp at h; omega) fun _ => ?_
  refine tot_loopX (I := fun _ _ => True) (J := fun _ => True) (E := fun _ => False) trivial (fun i x s hx _ => ?_) (fun _ _ => trivial) (fun _ _ => tot_some rfl) (fun _ h => h.elim)
  have hi := (List.getElem?_eq_some_iff.1 hx).1
  have h1 : i < g.Choices.length := by have := hp.len; omega
  have h2 := hp.pick i x _ hx (List.getElem?_eq_getElem h1)
  simp only [mend_checkPick_b1, within_eq', tot_bind_iff, tot_some_iff, tot_ifb_iff, tot_idx_iff]
  refine ⟨h1, fun h => ?_, fun h => trivial⟩
  simp at h; omega
end Mb

/- The mend laws, the plain side: one try of the solver. -/
set_option linter.unusedVariables false
set_option linter.unusedSimpArgs false
namespace Mb
open Go Hk Hd

abbrev nI (xs : List Int) (i : Int) : Int := nth 0 xs i
abbrev nB (xs : List Bool) (i : Int) : Bool := nth false xs i
abbrev nO (xs : List (List S_mend_Arc)) (i : Int) : List S_mend_Arc := nth [] xs i
theorem idx_nI {xs : List Int} {i : Int} (h0 : 0 ≤ i) (h1 : i < xs.length) : idx xs i = some (nI xs i) := idx_nth 0 h0 h1
theorem idx_nB {xs : List Bool} {i : Int} (h0 : 0 ≤ i) (h1 : i < xs.length) : idx xs i = some (nB xs i) := idx_nth false h0 h1
theorem idx_nO {xs : List (List S_mend_Arc)} {i : Int} (h0 : 0 ≤ i) (h1 : i < xs.length) : idx xs i = some (nO xs i) := idx_nth [] h0 h1
def sumI : List Int → Int
  | [] => 0
  | x :: xs => x + sumI xs
theorem sumI_set : ∀ (xs : List Int) (k : Nat) (v : Int), k < xs.length → sumI (xs.set k v) = sumI xs - nI xs k + v
  | [], k, v, h => by simp at h
  | x :: xs, 0, v, h => by simp [sumI, nth]; omega
  | x :: xs, k + 1, v, h => by
    have := sumI_set xs k v (by simpa using h)
    simp only [List.set_cons_succ, sumI, this, nI, nth] 
    simp
    omega
theorem sumI_setI {xs : List Int} {i v : Int} (h0 : 0 ≤ i) (h1 : i < xs.length) : sumI (setI xs i v) = sumI xs - nI xs i + v := by
  unfold setI
  rw [sumI_set xs i.toNat v (by omega), Int.toNat_of_nonneg h0]
theorem sumI_le {c : Int} : ∀ (xs : List Int), (∀ x ∈ xs, x ≤ c) → sumI xs ≤ xs.length * c
  | [], _ => by simp [sumI]
  | x :: xs, h => by
    have h1 := sumI_le xs fun y hy => h y (by simp [hy])
    have h2 := h x (by simp)
    simp only [sumI, List.length_cons]
    have : ((xs.length + 1 : Nat) : Int) * c = xs.length * c + c := by rw [Int.natCast_add, Int.add_mul]; simp
    omega
theorem le_sumI : ∀ (xs : List Int), (∀ x ∈ xs, 0 ≤ x) → 0 ≤ sumI xs ∧ ∀ x ∈ xs, x ≤ sumI xs
  | [], _ => by simp [sumI]
  | x :: xs, h => by
    obtain ⟨h1, h2⟩ := le_sumI xs fun y hy => h y (by simp [hy])
    have h3 := h x (by simp)
    refine ⟨by simp only [sumI]; omega, fun y hy => ?_⟩
    simp only [sumI]
    rcases List.mem_cons.1 hy with rfl | hy
    · omega
    · have := h2 y hy; omega
theorem sumI_zero (n : Nat) : sumI (List.replicate n 0) = 0 := by
  induction n with
  | zero => rfl
  | succ n ih => simp [List.replicate_succ, sumI, ih]
theorem all_nth {α : Type} (z : α) {xs : List α} {P : α → Prop} (h : ∀ i : Int, 0 ≤ i → i < xs.length → P (nth z xs i)) : ∀ x ∈ xs, P x := fun x hx => by
  obtain ⟨i, hi⟩ := List.getElem?_of_mem hx
  have := h i (by omega) (by have := (List.getElem?_eq_some_iff.1 hi).1; omega)
  rwa [nth_nat z hi] at this

/-- the seconds that keep all -/
structure Feas (n : Nat) (R : Int → Int) (A : List S_mend_Arc) (u : Int → Int) : Prop where
  ready : ∀ v : Int, 0 ≤ v → v < n → R v ≤ u v
  arcs : ∀ a ∈ A, u a.From + a.Len ≤ u a.To
/-- what holds of a state of the solver's work, whatever is still to be done -/
structure Work (n : Nat) (R : Int → Int) (A : List S_mend_Arc) (last : List Int) (T : Int) (t r : List Int) (ok : Bool) (w : List Bool) (q : List Int) : Prop where
  lt : t.length = n
  lr : r.length = n
  lw : w.length = n
  ll : last.length = n
  up : ∀ v : Int, 0 ≤ v → v < n → nI t v ≤ T
  low : ∀ v : Int, 0 ≤ v → v < n → 0 ≤ R v ∧ R v ≤ nI t v
  tight : ∀ v : Int, 0 ≤ v → v < n → nI t v = R v ∨ ∃ a ∈ A, a.To = v ∧ nI t v ≤ nI t a.From + a.Len
  least : ∀ u, Feas n R A u → ∀ v : Int, 0 ≤ v → v < n → nI t v ≤ u v
  r0 : ∀ v : Int, 0 ≤ v → v < n → 0 ≤ nI r v
  q0 : ∀ v ∈ q, 0 ≤ v ∧ v < n
  wq : ∀ v : Int, 0 ≤ v → v < n → nB w v = true → v ∈ q
  qr : (q.length : Int) ≤ sumI r
  okt : ok = true → ∀ v : Int, 0 ≤ v → v < n → nI t v ≤ 1099511627776
  okl : ok = true → ∀ v : Int, 0 ≤ v → v < n → 0 ≤ nI last v → nI t v ≤ nI last v
  okr : ok = true → ∀ v : Int, 0 ≤ v → v < n → nI r v ≤ 65536
/-- from one state to the next, over an arc -/
structure Step (n : Nat) (last : List Int) (a : S_mend_Arc) (t r : List Int) (ok : Bool) (w : List Bool) (q : List Int) (t' r' : List Int) (ok' : Bool) (w' : List Bool) (q' : List Int) : Prop where
  ge : ∀ v : Int, 0 ≤ v → v < n → nI t v ≤ nI t' v
  same : ∀ v : Int, 0 ≤ v → v < n → v ≠ a.To → nI t' v = nI t v
  sat : nI t' a.From + a.Len ≤ nI t' a.To
  still : ∀ v : Int, 0 ≤ v → v < n → nB w' v = false → nB w v = false ∧ nI t' v = nI t v
  sum : (sumI r' = sumI r ∧ q'.length = q.length) ∨ (sumI r' = sumI r + 1 ∧ q'.length ≤ q.length + 1)
  okc : ok = true → (nI t' a.To ≤ nI t a.To ∨ (nI t' a.To ≤ 1099511627776 ∧ (0 ≤ nI last a.To → nI t' a.To ≤ nI last a.To) ∧ nI r' a.To ≤ 65536)) → ok' = true
  raise : t' = t ∨ nI t' a.To = nI t a.From + a.Len
  que : (q' = q ∧ (∀ v : Int, 0 ≤ v → v < n → nB w' v = nB w v) ∧ (t' = t ∨ nB w a.To = true)) ∨ (q' = q ++ [a.To] ∧ nB w a.To = false ∧ (∀ v : Int, 0 ≤ v → v < n → nB w' v = if v = a.To then true else nB w v) ∧ nI t a.To < nI t' a.To)
theorem try_tot {n : Nat} {R : Int → Int} {A : List S_mend_Arc} {last t r q : List Int} {ok : Bool} {w : List Bool} {T T' : Int} {outs : List (List S_mend_Arc)} {a : S_mend_Arc}
    (hn : n ≤ 24) (hAg : ∀ a ∈ A, GoodArc n a) (ha : GoodArc n a) (hA : a ∈ A) (hW : Work n R A last T t r ok w q) (hT : T ≤ 4611686018427387904) (hS : sumI r ≤ 1073741824) (hT1 : nI t a.From + a.Len ≤ T') (hTT : T ≤ T') :
    Tot (mend_solver_with_1_v2 a r ok w q t last outs) (fun x => Work n R A last T' x.2.2.1 x.1 x.2.2.2.1 x.2.1 x.2.2.2.2.2 ∧ Step n last a t r ok w q x.2.2.1 x.1 x.2.2.2.1 x.2.1 x.2.2.2.2.2 ∧ x.2.2.2.2.1 = last) := by
  obtain ⟨f0, f1, t0, t1, ne, l0, l1⟩ := ha
  have hW' := hW
  obtain ⟨lt, lr, lw, ll, up, low, tight, least, r0, q0, wq, qr, okt, okl, okr⟩ := hW
  have g1 := low a.From f0 f1
  have g2 := up a.From f0 f1
  have hr : ∀ x ∈ r, 0 ≤ x := all_nth 0 fun i h0 h1 => r0 i h0 (by omega)
  have hrs := le_sumI r hr
  have g3 : nI r a.To ≤ sumI r := hrs.2 _ (nth_mem 0 t0 (show a.To < r.length by omega))
  have g4 := r0 a.To t0 t1
  have e1 : w64 (nI t a.From + a.Len) = nI t a.From + a.Len := w64_id (by omega) (by omega)
  have e2 : w64 (nI r a.To + 1) = nI r a.To + 1 := w64_id (by omega) (by omega)
  unfold mend_solver_with_1_v2
  refine tot_bind' (idx_nI f0 (by omega)) ?_
  refine tot_bind' (idx_nI t0 (by omega)) ?_
  rw [e1]
  refine tot_ifb (fun h => tot_some (show Work n R A last T' t r ok w q ∧ Step n last a t r ok w q t r ok w q ∧ last = last from ?_)) fun h => ?_
  · -- nothing to do
    simp only [decide_eq_true_eq] at h
    exact ⟨⟨lt, lr, lw, ll, fun v h0 h1 => by have := up v h0 h1; omega, low, tight, least, r0, q0, wq, qr, okt, okl, okr⟩, ⟨fun v _ _ => by omega, fun v _ _ _ => rfl, h, fun v _ _ h => ⟨h, rfl⟩, .inl ⟨rfl, rfl⟩, fun h _ => h, .inl rfl, .inl ⟨rfl, fun _ _ _ => rfl, .inl rfl⟩⟩, rfl⟩
  simp only [decide_eq_false_iff_not, Int.not_le] at h
  refine tot_bind' (idx_nI t0 (by omega)) ?_
  refine tot_bind' (idx_nI t0 (by omega)) ?_
  refine tot_bind' (idx_nI t0 (by omega)) ?_
  rw [e2]
  -- whether it stays right
  refine tot_bind (P := fun b => b = true ↔ ok = true ∧ nI t a.From + a.Len ≤ 1099511627776 ∧ (0 ≤ nI last a.To → nI t a.From + a.Len ≤ nI last a.To) ∧ nI r a.To + 1 ≤ 65536) ?_ fun b _ hb => ?_
  · have e3 : idx (setI r a.To (nI r a.To + 1)) a.To = some (nI r a.To + 1) :=
      (idx_nI t0 (by rw [setI_length]; omega)).trans (congrArg some (nth_setI_self 0 t0 (by omega)))
    refine tot_ifb (fun hok => ?_) fun hok => tot_some (by simp [hok])
    have ei : idx last a.To = some (nI last a.To) := idx_nI t0 (by omega)
    refine tot_bind' ei ?_
    rw [e3, ei]
    simp only [Option.bind_some, tot_ifb_iff, tot_some_iff, decide_eq_true_eq, decide_eq_false_iff_not, Bool.false_eq_true, false_iff]
    refine ⟨fun h1 => ⟨fun h2 => ⟨fun h3 => ⟨hok, h2, fun h4 => by omega, h3⟩, fun h => h.2.2.2⟩, fun h2 h => h2 h.2.1⟩, fun h1 => ⟨fun h2 => ⟨fun h3 => ⟨fun h4 => ⟨hok, h3, fun _ => h2, h4⟩, fun h => h.2.2.2⟩, fun h3 h => h3 h.2.1⟩, fun h2 h => h2 (h.2.2.1 (by omega))⟩⟩
  refine tot_bind' (idx_nB t0 (by omega)) ?_
  -- the state behind it, with a list of what is to be done
  have fin : ∀ (w' : List Bool) (q' : List Int), w'.length = n → (∀ v : Int, 0 ≤ v → v < n → nB w' v = if v = a.To then true else nB w v) → (∀ v ∈ q', 0 ≤ v ∧ v < n) → (∀ v ∈ q, v ∈ q') → a.To ∈ q' → q'.length ≤ q.length + 1 → ((q' = q ∧ nB w a.To = true) ∨ (q' = q ++ [a.To] ∧ nB w a.To = false)) →
      Work n R A last T' (setI t a.To (nI t a.From + a.Len)) (setI r a.To (nI r a.To + 1)) b w' q' ∧
        Step n last a t r ok w q (setI t a.To (nI t a.From + a.Len)) (setI r a.To (nI r a.To + 1)) b w' q' := by
    intro w' q' lw' hw' hq0 hqq haq hql hqd
    have ht : ∀ v : Int, 0 ≤ v → v < n → nI (setI t a.To (nI t a.From + a.Len)) v = if v = a.To then nI t a.From + a.Len else nI t v := fun v h0 h1 => nth_setI 0 t0 h0 (by omega)
    have hr' : ∀ v : Int, 0 ≤ v → v < n → nI (setI r a.To (nI r a.To + 1)) v = if v = a.To then nI r a.To + 1 else nI r v := fun v h0 h1 => nth_setI 0 t0 h0 (by omega)
    have hsum : sumI (setI r a.To (nI r a.To + 1)) = sumI r + 1 := by rw [sumI_setI t0 (by omega)]; omega
    have htf : nI (setI t a.To (nI t a.From + a.Len)) a.From = nI t a.From := by rw [ht _ f0 f1, if_neg ne]
    refine ⟨⟨by rw [setI_length]; exact lt, by rw [setI_length]; exact lr, lw', ll, fun v h0 h1 => ?_, fun v h0 h1 => ?_, fun v h0 h1 => ?_, fun u hu v h0 h1 => ?_, fun v h0 h1 => ?_, hq0, fun v h0 h1 hv => ?_, by rw [hsum]; omega, fun hb' v h0 h1 => ?_, fun hb' v h0 h1 hl => ?_, fun hb' v h0 h1 => ?_⟩,
      ⟨fun v h0 h1 => ?_, fun v h0 h1 hv => ?_, ?_, fun v h0 h1 hv => ?_, .inr ⟨hsum, hql⟩, fun hok hc => ?_, .inr (by rw [ht _ t0 t1, if_pos rfl]), ?_⟩⟩
    · rw [ht v h0 h1]; split
      · exact hT1
      · have := up v h0 h1; omega
    · rw [ht v h0 h1]
      have := low v h0 h1
      split
      · rename_i hv; subst hv; omega
      · exact this
    · by_cases hv : v = a.To
      · subst hv
        exact .inr ⟨a, hA, rfl, by rw [ht _ h0 h1, if_pos rfl, htf]; omega⟩
      · rw [ht v h0 h1, if_neg hv]
        rcases tight v h0 h1 with h' | ⟨b', hb', e, hle⟩
        · exact .inl h'
        · refine .inr ⟨b', hb', e, ?_⟩
          by_cases hbf : b'.From = a.To
          · rw [hbf] at hle ⊢
            rw [ht _ t0 t1, if_pos rfl]; omega
          · rw [ht _ (hAg _ hb').f0 (hAg _ hb').f1, if_neg hbf]; exact hle
    · rw [ht v h0 h1]
      split
      · rename_i hv; subst hv
        have k1 := least u hu a.From f0 f1
        have k2 := hu.arcs a hA
        omega
      · exact least u hu v h0 h1
    · rw [hr' v h0 h1]; split
      · omega
      · exact r0 v h0 h1
    · rw [hw' v h0 h1] at hv
      by_cases hva : v = a.To
      · subst hva; exact haq
      · rw [if_neg hva] at hv; exact hqq _ (wq v h0 h1 hv)
    · obtain ⟨k1, k2, k3, k4⟩ := hb.1 hb'
      rw [ht v h0 h1]; split
      · exact k2
      · exact okt k1 v h0 h1
    · obtain ⟨k1, k2, k3, k4⟩ := hb.1 hb'
      rw [ht v h0 h1]; split
      · rename_i hv; subst hv; exact k3 hl
      · exact okl k1 v h0 h1 hl
    · obtain ⟨k1, k2, k3, k4⟩ := hb.1 hb'
      rw [hr' v h0 h1]; split
      · exact k4
      · exact okr k1 v h0 h1
    · rw [ht v h0 h1]; split
      · rename_i hv; subst hv; omega
      · omega
    · rw [ht v h0 h1, if_neg hv]
    · rw [htf, ht _ t0 t1, if_pos rfl]; omega
    · rw [hw' v h0 h1] at hv
      by_cases hva : v = a.To
      · rw [if_pos hva] at hv; cases hv
      · rw [if_neg hva] at hv
        exact ⟨hv, by rw [ht v h0 h1, if_neg hva]⟩
    · rw [ht _ t0 t1, if_pos rfl, hr' _ t0 t1, if_pos rfl] at hc
      rcases hc with hc | hc
      · omega
      · exact hb.2 ⟨hok, hc⟩
    · rcases hqd with ⟨e, e2⟩ | ⟨e, e2⟩
      · refine .inl ⟨e, fun v h0 h1 => ?_, .inr e2⟩
        rw [hw' v h0 h1]
        split
        · rename_i hv; rw [hv, e2]
        · rfl
      · exact .inr ⟨e, e2, hw', by rw [ht _ t0 t1, if_pos rfl]; omega⟩
  refine tot_ifb (fun hw => ?_) fun hw => tot_some ?_
  · have hw0 : nB w a.To = false := by simpa using hw
    refine tot_bind' (idx_nB t0 (by omega)) ?_
    refine tot_bind' (gapp_eq (by simp only [apRoom, List.length_singleton]; omega) (by simp only [maxLen, List.length_singleton]; omega)) (tot_some ?_)
    have := fin (setI w a.To true) (q ++ [a.To]) (by rw [setI_length]; exact lw) (fun v h0 h1 => nth_setI false t0 h0 (by omega)) (fun v hv => by
      rcases List.mem_append.1 hv with hv | hv
      · exact q0 v hv
      · rw [List.mem_singleton.1 hv]; exact ⟨t0, t1⟩) (fun v hv => List.mem_append_left _ hv) (by simp) (by simp) (.inr ⟨rfl, hw0⟩)
    exact ⟨this.1, this.2, rfl⟩
  · have hw' : nB w a.To = true := by simpa using hw
    have := fin w q lw (fun v h0 h1 => by
      by_cases hv : v = a.To
      · rw [if_pos hv, hv]; exact hw'
      · rw [if_neg hv]) q0 (fun v hv => hv) (wq _ t0 t1 hw') (by omega) (.inl ⟨rfl, hw'⟩)
    exact ⟨this.1, this.2, rfl⟩
end Mb

/- The mend laws, the plain side: the least seconds that keep some arcs, with no program in sight. -/
set_option linter.unusedVariables false
set_option linter.unusedSimpArgs false
namespace Mb
open Go Hk Hd

def sumN (f : Nat → Int) : Nat → Int
  | 0 => 0
  | n + 1 => sumN f n + f n
theorem sumN_le {f g : Nat → Int} : ∀ {n : Nat}, (∀ i, i < n → f i ≤ g i) → sumN f n ≤ sumN g n
  | 0, _ => Int.le_refl _
  | n + 1, h => by
    have h1 := sumN_le (n := n) fun i hi => h i (by omega)
    have h2 := h n (by omega)
    simp only [sumN]; omega
theorem sumN_eq {f g : Nat → Int} : ∀ {n : Nat}, (∀ i, i < n → f i = g i) → sumN f n = sumN g n
  | 0, _ => rfl
  | n + 1, h => by
    have h1 := sumN_eq (n := n) fun i hi => h i (by omega)
    have h2 := h n (by omega)
    simp only [sumN]; omega
theorem sumN_pos {f : Nat → Int} {n : Nat} (h : ∀ i, i < n → 0 ≤ f i) : 0 ≤ sumN f n := by
  have := sumN_le (f := fun _ => 0) h
  have e : ∀ n, sumN (fun _ => 0) n = 0 := fun n => by induction n with | zero => rfl | succ n ih => simp [sumN, ih]
  rw [e] at this; exact this
theorem sumN_upd {f g : Nat → Int} {k : Nat} : ∀ {n : Nat}, k < n → (∀ i, i < n → i ≠ k → g i = f i) → sumN g n = sumN f n - f k + g k
  | 0, h, _ => by omega
  | n + 1, h, he => by
    simp only [sumN]
    by_cases hk : k = n
    · subst hk
      have := sumN_eq (n := k) fun i hi => he i (by omega) (by omega)
      omega
    · have h1 := sumN_upd (n := n) (by omega) fun i hi => he i (by omega)
      have h2 := he n (by omega) (by omega)
      omega
theorem ite_nn {p : Prop} [Decidable p] {x : Int} (h : 0 ≤ x) : 0 ≤ if p then x else 0 := by split <;> omega
theorem ite_nn' {p : Prop} [Decidable p] {x : Int} (h : ¬ p → 0 ≤ x) : 0 ≤ if p then 0 else x := by
  split
  · omega
  · rename_i hp; exact h hp
theorem le_sumN {f : Nat → Int} {n k : Nat} (h : ∀ i, i < n → 0 ≤ f i) (hk : k < n) : f k ≤ sumN f n := by
  have h1 := sumN_upd (f := f) (g := fun i => if i = k then 0 else f i) hk fun i _ hi => by simp [hi]
  have h2 := sumN_pos (f := fun i => if i = k then 0 else f i) (n := n) fun i hi => ite_nn' fun _ => h i hi
  simp at h1
  omega
theorem sumN_const (c : Int) (n : Nat) : sumN (fun _ => c) n = n * c := by
  induction n with
  | zero => simp [sumN]
  | succ n ih => simp only [sumN, ih]; rw [Int.natCast_add, Int.add_mul]; simp
/-- over some of the numbers -/
def sumL (f : Nat → Int) : List Nat → Int
  | [] => 0
  | i :: l => f i + sumL f l
theorem sumL_eq {f g : Nat → Int} : ∀ {l : List Nat}, (∀ i ∈ l, f i = g i) → sumL f l = sumL g l
  | [], _ => rfl
  | i :: l, h => by
    have h1 := sumL_eq (l := l) fun j hj => h j (by simp [hj])
    have h2 := h i (by simp)
    simp only [sumL]; omega
theorem sumL_le {n : Nat} : ∀ {l : List Nat} {f : Nat → Int}, (∀ i, i < n → 0 ≤ f i) → l.Nodup → (∀ i ∈ l, i < n) → sumL f l ≤ sumN f n
  | [], f, h, _, _ => sumN_pos h
  | i :: l, f, h, hd, hl => by
    have hi := hl i (by simp)
    obtain ⟨hd1, hd2⟩ := List.nodup_cons.1 hd
    have h1 := sumL_le (n := n) (l := l) (f := fun j => if j = i then 0 else f j) (fun j hj => ite_nn' fun _ => h j hj) hd2 fun j hj => hl j (by simp [hj])
    have h2 := sumN_upd (f := f) (g := fun j => if j = i then 0 else f j) hi fun j _ hj => by simp [hj]
    have h3 : sumL f l = sumL (fun j => if j = i then 0 else f j) l := sumL_eq fun j hj => by
      have : j ≠ i := fun e => hd1 (e ▸ hj)
      simp [this]
    simp only [sumL]
    simp at h2
    omega

/-- the least seconds -/
structure MinS (n : Nat) (R : Int → Int) (A : List S_mend_Arc) (u : Int → Int) : Prop where
  feas : Feas n R A u
  tight : ∀ S : Nat → Bool, (∃ i, i < n ∧ S i = false) → (∀ i : Nat, i < n → S i = false → R i < u i) → ∃ a ∈ A, S a.From.toNat = true ∧ S a.To.toNat = false ∧ u a.To = u a.From + a.Len
section
variable {n : Nat} {R : Int → Int} {A : List S_mend_Arc} {u : Int → Int}
theorem exists_min (hA : ∀ a ∈ A, GoodArc n a) : ∀ (m : Nat) (u0 : Int → Int), Feas n R A u0 → (sumN (fun i => u0 i - R i) n).toNat ≤ m → ∃ u, MinS n R A u ∧ ∀ v : Int, 0 ≤ v → v < n → u v ≤ u0 v := by
  intro m
  induction m with
  | zero =>
    intro u0 h0 hm
    refine ⟨u0, ⟨h0, fun S hS hR => ?_⟩, fun v _ _ => Int.le_refl _⟩
    exfalso
    obtain ⟨i, hi, hSi⟩ := hS
    have h1 := hR i hi hSi
    have h2 := le_sumN (f := fun i => u0 i - R i) (n := n) (fun j hj => by have := h0.ready j (by omega) (by omega); show 0 ≤ u0 j - R j; omega) hi
    have h2 : u0 i - R i ≤ sumN (fun i => u0 i - R i) n := h2
    omega
  | succ m ih =>
    intro u0 h0 hm
    by_cases ht : ∀ S : Nat → Bool, (∃ i, i < n ∧ S i = false) → (∀ i : Nat, i < n → S i = false → R i < u0 i) → ∃ a ∈ A, S a.From.toNat = true ∧ S a.To.toNat = false ∧ u0 a.To = u0 a.From + a.Len
    · exact ⟨u0, ⟨h0, ht⟩, fun v _ _ => Int.le_refl _⟩
    · obtain ⟨S, hS⟩ := Classical.not_forall.1 ht
      obtain ⟨hS1, hS⟩ := Classical.not_imp.1 hS
      obtain ⟨hS2, hS3⟩ := Classical.not_imp.1 hS
      have hF : Feas n R A (fun v => if S v.toNat = true then u0 v else u0 v - 1) := by
        refine ⟨fun v h1 h2 => ?_, fun a ha => ?_⟩
        · show R v ≤ if S v.toNat = true then u0 v else u0 v - 1
          split
          · exact h0.ready v h1 h2
          · rename_i hs
            have := hS2 v.toNat (by omega) (by simpa using hs)
            rw [Int.toNat_of_nonneg h1] at this
            omega
        · have h1 := h0.arcs a ha
          show (if S a.From.toNat = true then u0 a.From else u0 a.From - 1) + a.Len ≤ if S a.To.toNat = true then u0 a.To else u0 a.To - 1
          have h2 : S a.From.toNat = true → S a.To.toNat = false → u0 a.To ≠ u0 a.From + a.Len := fun x y z => hS3 ⟨a, ha, x, y, z⟩
          cases hf : S a.From.toNat <;> cases ht : S a.To.toNat <;> simp
          · omega
          · omega
          · have := h2 hf ht; omega
          · omega
      obtain ⟨i, hi, hSi⟩ := hS1
      have hlt : sumN (fun i => (if S (i : Int).toNat = true then u0 i else u0 i - 1) - R i) n < sumN (fun i => u0 i - R i) n := by
        have h1 := sumN_le (f := fun i => (if S (i : Int).toNat = true then u0 i else u0 i - 1) - R i) (g := fun j => if j = i then u0 i - 1 - R i else u0 j - R j) (n := n) fun j hj => by
          show (if S (j : Int).toNat = true then u0 j else u0 j - 1) - R j ≤ if j = i then u0 i - 1 - R i else u0 j - R j
          by_cases hji : j = i
          · subst hji
            rw [if_pos rfl, Int.toNat_natCast, if_neg (by rw [hSi]; simp)]
            omega
          · rw [if_neg hji]
            split <;> omega
        have h2 := sumN_upd (f := fun j => u0 j - R j) (g := fun j => if j = i then u0 i - 1 - R i else u0 j - R j) hi fun j _ hj => by simp [hj]
        simp at h2
        omega
      obtain ⟨u, h1, h2⟩ := ih _ hF (by
        have h3 := sumN_pos (f := fun i => (if S (i : Int).toNat = true then u0 i else u0 i - 1) - R i) (n := n) fun j hj => by
          have : R j ≤ if S (j : Int).toNat = true then u0 j else u0 j - 1 := hF.ready j (by omega) (by omega)
          show 0 ≤ (if S (j : Int).toNat = true then u0 j else u0 j - 1) - R j
          omega
        show (sumN (fun i => (if S (i : Int).toNat = true then u0 i else u0 i - 1) - R i) n).toNat ≤ m
        omega)
      refine ⟨u, h1, fun v h3 h4 => ?_⟩
      have : u v ≤ if S v.toNat = true then u0 v else u0 v - 1 := h2 v h3 h4
      split at this <;> omega
/-- no second is far away -/
theorem min_chain (hA : ∀ a ∈ A, GoodArc n a) (hu : MinS n R A u) {m : Nat → Int} {T0 : Int} (hm : ∀ i, i < n → 0 ≤ m i) (hl : ∀ a ∈ A, a.Len ≤ m a.From.toNat) (hT : ∀ i : Nat, i < n → R i ≤ T0) : ∀ i : Nat, i < n → u i ≤ T0 + sumN m n := by
  have grow : ∀ j : Nat, ∃ S : Nat → Bool, (∀ i : Nat, i < n → S i = true → u i ≤ T0 + sumN (fun w => if S w = true then m w else 0) n - m i) ∧ ((j : Int) ≤ sumN (fun w => if S w = true then 1 else 0) n ∨ ∀ i, i < n → S i = true) := by
    intro j
    induction j with
    | zero =>
      refine ⟨fun _ => false, ⟨fun i _ h => (by cases h), .inl ?_⟩⟩
      exact sumN_pos fun i _ => ite_nn (by omega)
    | succ j ih =>
      obtain ⟨S, h1, h2⟩ := ih
      by_cases hall : ∀ i, i < n → S i = true
      · exact ⟨S, h1, .inr hall⟩
      have h2 : (j : Int) ≤ sumN (fun w => if S w = true then 1 else 0) n := h2.elim id fun h => absurd h hall
      have hpos : ∀ k, k < n → 0 ≤ if S k = true then m k else 0 := fun k hk => ite_nn (hm k hk)
      -- one more
      have add : ∀ b : Nat, b < n → S b = false → u b ≤ T0 + sumN (fun w => if S w = true then m w else 0) n → ∃ S : Nat → Bool, (∀ i : Nat, i < n → S i = true → u i ≤ T0 + sumN (fun w => if S w = true then m w else 0) n - m i) ∧ (((j + 1 : Nat) : Int) ≤ sumN (fun w => if S w = true then 1 else 0) n ∨ ∀ i, i < n → S i = true) := by
        intro b hb hSb hub
        have e1 := sumN_upd (f := fun w => if S w = true then m w else 0) (g := fun w => if (decide (w = b) || S w) = true then m w else 0) hb fun i _ hi => by simp [hi]
        have e2 := sumN_upd (f := fun w => if S w = true then (1 : Int) else 0) (g := fun w => if (decide (w = b) || S w) = true then 1 else 0) hb fun i _ hi => by simp [hi]
        simp [hSb] at e1 e2
        refine ⟨fun w => decide (w = b) || S w, fun i hi hSi => ?_, .inl ?_⟩
        · simp only [Bool.or_eq_true, decide_eq_true_eq] at hSi ⊢
          rw [e1]
          rcases hSi with rfl | hSi
          · omega
          · have := h1 i hi hSi
            have := hm b hb
            omega
        · simp only [Bool.or_eq_true, decide_eq_true_eq]
          rw [e2]; omega
      by_cases hlow : ∃ b : Nat, b < n ∧ S b = false ∧ u b ≤ T0
      · obtain ⟨b, hb, hSb, hub⟩ := hlow
        have := sumN_pos (n := n) hpos
        exact add b hb hSb (by omega)
      · have hne : ∃ i, i < n ∧ S i = false := by
          obtain ⟨i, hi⟩ := Classical.not_forall.1 hall
          obtain ⟨hi, hS⟩ := Classical.not_imp.1 hi
          exact ⟨i, hi, by simpa using hS⟩
        obtain ⟨a, ha, s1, s2, e⟩ := hu.tight S hne fun i hi hS => by
          have h3 := hT i hi
          have h4 : ¬ u i ≤ T0 := fun h => hlow ⟨i, hi, hS, h⟩
          omega
        have hg := hA a ha
        have f0 := hg.f0; have f1 := hg.f1; have t0 := hg.t0; have t1 := hg.t1
        have k1 := h1 a.From.toNat (by omega) s1
        have k2 := hl a ha
        rw [Int.toNat_of_nonneg f0] at k1
        refine add a.To.toNat (by omega) s2 ?_
        rw [Int.toNat_of_nonneg t0]
        omega
  obtain ⟨S, h1, h2⟩ := grow (n + 1)
  have hall : ∀ i, i < n → S i = true := by
    rcases h2 with h | h
    · exfalso
      have := sumN_le (f := fun w => if S w = true then (1 : Int) else 0) (g := fun _ => 1) (n := n) fun i _ => by split <;> omega
      rw [sumN_const] at this
      omega
    · exact h
  intro i hi
  have k1 := h1 i hi (hall i hi)
  have k2 : sumN (fun w => if S w = true then m w else 0) n = sumN m n := sumN_eq fun j hj => by rw [if_pos (hall j hj)]
  have := hm i hi
  omega
end
end Mb

/- The mend laws, the plain side: a solver with further arcs. -/
set_option linter.unusedVariables false
set_option linter.unusedSimpArgs false
namespace Mb
open Go Hk Hd

abbrev outLen (outs : List (List S_mend_Arc)) (i : Nat) : Int := ((nO outs (i : Int)).length : Int)
/-- a solver that is right for the arcs A -/
structure Solved (n : Nat) (R : Int → Int) (A : List S_mend_Arc) (K : Nat) (t last : List Int) (outs : List (List S_mend_Arc)) : Prop where
  lt : t.length = n
  ll : last.length = n
  lo : outs.length = n
  up : ∀ v : Int, 0 ≤ v → v < n → nI t v ≤ 1099511627776
  low : ∀ v : Int, 0 ≤ v → v < n → 0 ≤ R v ∧ R v ≤ nI t v
  tight : ∀ v : Int, 0 ≤ v → v < n → nI t v = R v ∨ ∃ a ∈ A, a.To = v ∧ nI t v ≤ nI t a.From + a.Len
  least : ∀ u, Feas n R A u → ∀ v : Int, 0 ≤ v → v < n → nI t v ≤ u v
  lasts : ∀ v : Int, 0 ≤ v → v < n → 0 ≤ nI last v → nI t v ≤ nI last v
  sat : ∀ a ∈ A, nI t a.From + a.Len ≤ nI t a.To
  mem : ∀ v : Int, 0 ≤ v → v < n → ∀ a, a ∈ nO outs v ↔ a ∈ A ∧ a.From = v
  tot : sumN (outLen outs) n ≤ K
theorem len_tot {n K : Nat} {outs : List (List S_mend_Arc)} (h : sumN (outLen outs) n ≤ K) (v : Int) (h0 : 0 ≤ v) (h1 : v < n) : (nO outs v).length ≤ K := by
  have := le_sumN (f := outLen outs) (n := n) (fun i _ => by simp [outLen]) (show v.toNat < n by omega)
  simp only [outLen, Int.toNat_of_nonneg h0] at this
  omega
theorem clone_eq {xs : List Int} (h : xs.length ≤ 1000000) : slices_Clone_int_int xs = some xs := by
  have : gapp 8 ([] : List Int) xs = some xs := by
    rw [gapp_eq (by simp only [apRoom, List.length_nil]; omega) (by simp only [maxLen, List.length_nil]; omega)]; simp
  simp [slices_Clone_int_int, slices_Clone_int_int_v2, ifb, this]
theorem clone_eq3 {xs : List Int} (h : xs.length ≤ 1000000) : slices_Clone_int_int_v3 xs = some xs := by
  have : gapp 8 ([] : List Int) xs = some xs := by
    rw [gapp_eq (by simp only [apRoom, List.length_nil]; omega) (by simp only [maxLen, List.length_nil]; omega)]; simp
  simp [slices_Clone_int_int_v3, slices_Clone_int_int_v4, this]
theorem cloneA_eq {xs : List S_mend_Arc} (h : xs.length ≤ 1000000) : slices_Clone_mend_Arc_mend_Arc_v4 xs = some xs := by
  have : gapp 24 ([] : List S_mend_Arc) xs = some xs := by
    rw [gapp_eq (by simp only [apRoom, List.length_nil]; omega) (by simp only [maxLen, List.length_nil]; omega)]; simp
  simp [slices_Clone_mend_Arc_mend_Arc_v4, slices_Clone_mend_Arc_mend_Arc_v5, ifb, this]
theorem cloneO_eq {xs : List (List S_mend_Arc)} (h : xs.length ≤ 1000000) : slices_Clone_mend_Arc_mend_Arc xs = some xs ∧ slices_Clone_mend_Arc_mend_Arc_v6 xs = some xs := by
  have : gapp 24 ([] : List (List S_mend_Arc)) xs = some xs := by
    rw [gapp_eq (by simp only [apRoom, List.length_nil]; omega) (by simp only [maxLen, List.length_nil]; omega)]; simp
  simp [slices_Clone_mend_Arc_mend_Arc, slices_Clone_mend_Arc_mend_Arc_v2, slices_Clone_mend_Arc_mend_Arc_v6, slices_Clone_mend_Arc_mend_Arc_v7, ifb, this]
theorem mem_take_succ {α : Type} {xs : List α} {k : Nat} {x y : α} (h : xs[k]? = some x) (hy : y ∈ xs.take (k + 1)) : y ∈ xs.take k ∨ y = x := by
  obtain ⟨hl, rfl⟩ := List.getElem?_eq_some_iff.1 h
  rw [List.take_succ_eq_append_getElem hl] at hy
  rcases List.mem_append.1 hy with hy | hy
  · exact .inl hy
  · exact .inr (List.mem_singleton.1 hy)
theorem mem_take_get {α : Type} {xs : List α} {k : Nat} {x : α} (h : xs[k]? = some x) : x ∈ xs.take (k + 1) := by
  obtain ⟨hl, rfl⟩ := List.getElem?_eq_some_iff.1 h
  rw [List.take_succ_eq_append_getElem hl]
  exact List.mem_append_right _ (List.mem_singleton.2 rfl)
theorem mem_take_mono {α : Type} {xs : List α} {k : Nat} {y : α} (hy : y ∈ xs.take k) : y ∈ xs.take (k + 1) := (List.take_sublist_take_left (by omega)).subset hy

/-! ### the bound -/
theorem greatest_tot {t : List Int} {c : Int} (hc0 : 0 ≤ c) (hc : ∀ x ∈ t, x ≤ c) : Tot (mend_greatest_int 0 t) (fun x => 0 ≤ x ∧ x ≤ c ∧ ∀ y ∈ t, y ≤ x) := by
  unfold mend_greatest_int
  refine tot_loopX (I := fun k s => 0 ≤ s ∧ s ≤ c ∧ ∀ y ∈ t.take k, y ≤ s) (J := fun s => 0 ≤ s ∧ s ≤ c ∧ ∀ y ∈ t, y ≤ s) (E := fun _ => False) ⟨by omega, hc0, fun y hy => by simp at hy⟩ (fun k x s hx hI => ?_) (fun s hI => ?_) (fun s hJ => tot_some hJ) (fun _ h => h.elim)
  · obtain ⟨h1, h2, h3⟩ := hI
    have := hc x (List.mem_of_getElem? hx)
    unfold mend_greatest_int_b1
    rw [gmax_eq]
    refine tot_some ⟨by omega, by omega, fun y hy => ?_⟩
    rcases mem_take_succ hx hy with hy | rfl
    · have := h3 y hy; omega
    · omega
  · rwa [List.take_length] at hI
theorem most_tot {β : Type} {l : List S_mend_Arc} (hl : ∀ a ∈ l, a.Len ≤ 28800) {F : Int → Option β} {H : Empty → Option β} {Q : β → Prop} (hF : ∀ x, 0 ≤ x → x ≤ 28800 → (∀ a ∈ l, a.Len ≤ x) → Tot (F x) Q) :
    Tot ((forX mend_solver_bound_b2 l 0).bind fun c => Ctl.on c F H) Q := by
  refine tot_loopX (I := fun k s => 0 ≤ s ∧ s ≤ 28800 ∧ ∀ a ∈ l.take k, a.Len ≤ s) (J := fun s => 0 ≤ s ∧ s ≤ 28800 ∧ ∀ a ∈ l, a.Len ≤ s) (E := fun _ => False) ⟨by omega, by omega, fun y hy => by simp at hy⟩ (fun k x s hx hI => ?_) (fun s hI => ?_) (fun s hJ => hF s hJ.1 hJ.2.1 hJ.2.2) (fun _ h => h.elim)
  · obtain ⟨h1, h2, h3⟩ := hI
    have := hl x (List.mem_of_getElem? hx)
    unfold mend_solver_bound_b2
    rw [gmax_eq]
    refine tot_some ⟨by omega, by omega, fun y hy => ?_⟩
    rcases mem_take_succ hx hy with hy | rfl
    · have := h3 y hy; omega
    · omega
  · rwa [List.take_length] at hI
theorem bound_tot {t l : List Int} {o : List (List S_mend_Arc)} (ht : ∀ x ∈ t, x ≤ 4398046511104) (ho : o.length ≤ 24) (hl : ∀ v ∈ o, ∀ a ∈ v, a.Len ≤ 28800) :
    Tot (mend_solver_bound t l o) (fun x => x.2 = l ∧ ∃ T0 m, (∀ y ∈ t, y ≤ T0) ∧ (∀ i, i < o.length → 0 ≤ m i ∧ ∀ a ∈ nO o (i : Nat), a.Len ≤ m i) ∧ x.1 = T0 + sumN m o.length) := by
  unfold mend_solver_bound
  refine tot_bind (greatest_tot (c := 4398046511104) (by omega) ht) fun T0 _ hT => ?_
  obtain ⟨g1, g2, g3⟩ := hT
  refine tot_loopX (I := fun k s => k ≤ o.length ∧ ∃ m : Nat → Int, (∀ i, i < k → 0 ≤ m i ∧ m i ≤ 28800 ∧ ∀ a ∈ nO o (i : Nat), a.Len ≤ m i) ∧ s = T0 + sumN m k)
    (J := fun s => ∃ m : Nat → Int, (∀ i, i < o.length → 0 ≤ m i ∧ ∀ a ∈ nO o (i : Nat), a.Len ≤ m i) ∧ s = T0 + sumN m o.length) (E := fun _ => False) ⟨by omega, fun _ => 0, fun i h => by omega, by simp [sumN]⟩ (fun k x s hx hI => ?_) (fun s hI => ?_) (fun s hJ => tot_some ?_) (fun _ h => h.elim)
  · obtain ⟨hk, m, h1, h2⟩ := hI
    have hkl := (List.getElem?_eq_some_iff.1 hx).1
    unfold mend_solver_bound_b1
    refine most_tot (hl x (List.mem_of_getElem? hx)) fun y y0 y1 hy => ?_
    have h3 := sumN_le (f := m) (g := fun _ => 28800) (n := k) fun i hi => (h1 i hi).2.1
    have h4 := sumN_pos (f := m) (n := k) fun i hi => (h1 i hi).1
    rw [sumN_const] at h3
    have e : w64 (s + y) = s + y := w64_id (by omega) (by omega)
    rw [e]
    refine tot_some ⟨by omega, fun i => if i = k then y else m i, fun i hi => ?_, ?_⟩
    · by_cases hik : i = k
      · subst hik
        simp only [if_pos]
        exact ⟨y0, y1, by rw [show nO o (i : Nat) = x from nth_nat [] hx]; exact hy⟩
      · simp only [if_neg hik]
        exact h1 i (by omega)
    · simp only [sumN, if_pos]
      rw [sumN_eq (g := m) fun i hi => by rw [if_neg (by omega)]]
      omega
  · obtain ⟨hk, m, h1, h2⟩ := hI
    exact ⟨m, fun i hi => ⟨(h1 i hi).1, (h1 i hi).2.2⟩, h2⟩
  · obtain ⟨m, h1, h2⟩ := hJ
    exact ⟨rfl, T0, m, g3, h1, h2⟩
/-- the arcs are laid beside those that were there -/
theorem outs_tot {n : Nat} {A B : List S_mend_Arc} {K : Nat} {outs : List (List S_mend_Arc)} {β : Type} {F : List (List S_mend_Arc) → Option β} {H : Empty → Option β} {Q : β → Prop} (hB : ∀ a ∈ B, GoodArc n a) (hBl : B.length ≤ 250) (hK : K ≤ 100000) (lo : outs.length = n)
    (ho : ∀ v : Int, 0 ≤ v → v < n → ∀ a, a ∈ nO outs v ↔ a ∈ A ∧ a.From = v) (hl : sumN (outLen outs) n ≤ K)
    (hF : ∀ outs', outs'.length = n → (∀ v : Int, 0 ≤ v → v < n → ∀ a, a ∈ nO outs' v ↔ a ∈ A ++ B ∧ a.From = v) → sumN (outLen outs') n ≤ (K + B.length : Nat) → Tot (F outs') Q) :
    Tot ((forX mend_solver_with_v2_b1 B outs).bind fun c => Ctl.on c F H) Q := by
  refine tot_loopX (I := fun k o => o.length = n ∧ (∀ v : Int, 0 ≤ v → v < n → ∀ a, a ∈ nO o v ↔ (a ∈ A ∨ a ∈ B.take k) ∧ a.From = v) ∧ sumN (outLen o) n ≤ (K + k : Nat) ∧ k ≤ B.length)
    (J := fun o => o.length = n ∧ (∀ v : Int, 0 ≤ v → v < n → ∀ a, a ∈ nO o v ↔ a ∈ A ++ B ∧ a.From = v) ∧ sumN (outLen o) n ≤ (K + B.length : Nat)) (E := fun _ => False)
    ⟨lo, fun v h0 h1 a => by rw [ho v h0 h1 a]; simp, by simpa using hl, by omega⟩ (fun k a o hx hI => ?_) (fun o ⟨h1, h2, h3, _⟩ => ⟨h1, fun v h0 h1 a => by rw [h2 v h0 h1 a, List.take_length, List.mem_append], h3⟩) (fun o ⟨h1, h2, h3⟩ => hF o h1 h2 h3) (fun _ h => h.elim)
  obtain ⟨lo', ho', hl', hk⟩ := hI
  have ha := hB a (List.mem_of_getElem? hx)
  have hkl := (List.getElem?_eq_some_iff.1 hx).1
  have hf := len_tot hl' a.From ha.f0 ha.f1
  unfold mend_solver_with_v2_b1
  simp only [tot_bind_iff, tot_some_iff]
  refine eq_tot (idx_nO ha.f0 (by have := ha.f1; omega)) ?_
  refine eq_tot (cloneA_eq (by omega)) ?_
  refine eq_tot (gapp_eq (by simp only [apRoom, List.length_singleton]; omega) (by simp only [maxLen, List.length_singleton]; omega)) ?_
  refine eq_tot (idx_nO ha.f0 (by have := ha.f1; omega)) ?_
  have hs : ∀ v : Int, 0 ≤ v → v < n → nO (setI o a.From (nO o a.From ++ [a])) v = if v = a.From then nO o a.From ++ [a] else nO o v := fun v h0 h1 => nth_setI [] ha.f0 h0 (by omega)
  refine ⟨by rw [setI_length]; exact lo', fun v h0 h1 b => ?_, ?_, by omega⟩
  · rw [hs v h0 h1]
    by_cases hv : v = a.From
    · subst hv
      rw [if_pos rfl, List.mem_append, ho' _ h0 h1 b]
      constructor
      · rintro (⟨h | h, e⟩ | h)
        · exact ⟨.inl h, e⟩
        · exact ⟨.inr (mem_take_mono h), e⟩
        · rw [List.mem_singleton.1 h]; exact ⟨.inr (mem_take_get hx), rfl⟩
      · rintro ⟨h | h, e⟩
        · exact .inl ⟨.inl h, e⟩
        · rcases mem_take_succ hx h with h | rfl
          · exact .inl ⟨.inr h, e⟩
          · exact .inr (by simp)
    · rw [if_neg hv, ho' v h0 h1 b]
      constructor
      · rintro ⟨h | h, e⟩
        · exact ⟨.inl h, e⟩
        · exact ⟨.inr (mem_take_mono h), e⟩
      · rintro ⟨h | h, e⟩
        · exact ⟨.inl h, e⟩
        · rcases mem_take_succ hx h with h | rfl
          · exact ⟨.inr h, e⟩
          · exact absurd e.symm hv
  · have f0 := ha.f0; have f1 := ha.f1
    have := sumN_upd (f := outLen o) (g := outLen (setI o a.From (nO o a.From ++ [a]))) (k := a.From.toNat) (n := n) (by omega) fun i hi hne => by
      simp only [outLen]
      rw [hs _ (by omega) (by omega), if_neg (by omega)]
    rw [this]
    simp only [outLen, Int.toNat_of_nonneg f0]
    rw [hs _ f0 f1, if_pos rfl, List.length_append, List.length_singleton]
    omega
end Mb
