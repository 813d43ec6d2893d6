/- What a second makes of a safe state. -/
import Derived.Test.YtohpilnjebnelaaDoorZ1
import Derived.Test.YtohpilnjebnelaaDoorZC
set_option linter.unusedVariables false
set_option linter.unusedSimpArgs false
set_option maxRecDepth 100000
namespace Rm
open Go Hk Hd Pl

theorem drag_quo {v D : Int} (h0 : 0 ≤ v) (h6 : v ≤ 6000) (hD : 1000000 ≤ D) : ∃ q, gquoK .i64 (w64 (v * v)) D = some q ∧ 0 ≤ q ∧ q ≤ 36 := by
  have hb : v * v ≤ 6000 * 6000 := Int.mul_le_mul h6 h6 h0 (by omega)
  have hn : 0 ≤ v * v := Int.mul_nonneg h0 h0
  rw [w64_id (x := v * v) (by omega) (by omega)]
  unfold gquoK
  rw [if_neg (by omega), Int.tdiv_eq_ediv_of_nonneg hn]
  have h1 : 0 ≤ v * v / D := Int.ediv_nonneg hn (by omega)
  have h2 : v * v / D ≤ 36 := by
    have : v * v / D < 37 := Int.ediv_lt_of_lt_mul (by omega) (by omega)
    omega
  exact ⟨_, congrArg some (w64_id (by omega) (by omega)), h1, h2⟩
theorem gradeAt_bound {ps : List S_api_Piece} {st : List Int} {a g : Int} (hw : WayOk ps) (h : GradeAt ps st a g) : -40 ≤ g ∧ g ≤ 40 := by
  obtain ⟨i, x, h1, h2, _⟩ := h
  have := hw x (List.mem_of_getElem? h1)
  omega
theorem second_val {p : S_api_Stock} {ps : List S_api_Piece} {st : List Int} {e cap : Int} {m : List (Int × List Int)} {s : S_api_State} (hp : Stk p) (hc0 : 0 ≤ cap) (hc : cap ≤ 6000) (hw : WayOk ps) (hst : st.length = ps.length + 1) (hl : ps.length ≤ 60) (h0 : 0 < ps.length)
    (he : 0 ≤ e ∧ e ≤ 18000000) (hs : ∀ a ∈ st, 0 ≤ a ∧ a ≤ 20000000) (hm : MEq (p.Brake - 40) m) (hsafe : Safe (p.Brake - 40) p.Length e ps st s) (hcap : s.Speed ≤ cap) (hat : 0 ≤ s.At ∧ s.At ≤ e) (hwk : 0 ≤ s.Work ∧ s.Work ≤ 1000000000000000) :
    Tot (run_runner_second s p.Name p.Length p.Mass p.Start p.Power p.Roll p.Drag p.Brake p.Top p.Seats ps st e cap m) fun r => Step p e cap ps st s r.1 ∧ MEq (p.Brake - 40) r.2.1 ∧ r.2.2.1 = ps ∧ r.2.2.2 = st := by
  unfold run_runner_second
  have hB := hp.brake
  have hL := hp.length
  have hM := hp.mass
  have hR := hp.roll
  have hv0 := hsafe.v0
  have hd : 0 < p.Brake - 40 := by omega
  refine tot_bind (grade_val _ _ _ _ _ _ _ _ _ _ _ ps st _ _ m hst hl h0) fun r _ hr => ?_
  obtain ⟨g, r2, r3⟩ := r
  obtain ⟨h1, h3, h4⟩ := hr
  dsimp only at h1 h3 h4
  subst h3 h4
  have hg := gradeAt_bound hw h1
  refine tot_bind (gain_tot _ _ _ (by show p.Drag ≠ 0; have := hp.drag; omega)) fun gn hgn _ => ?_
  dsimp only
  have hw1 : w64 (p.Brake + g) = p.Brake + g := w64_id (by omega) (by omega)
  have hw2 : w64 (s.Speed - (p.Brake + g)) = s.Speed - (p.Brake + g) := w64_id (by omega) (by omega)
  have hw3 : w64 (100 * p.Length) = 100 * p.Length := w64_id (by omega) (by omega)
  have hw4 : w64 (s.At - 100 * p.Length) = s.At - 100 * p.Length := w64_id (by omega) (by omega)
  refine tot_bind (tot_iter (E := fun c => match c with | .go t => t.1 ≤ min (w64 (s.Speed + gn)) cap ∧ MEq (p.Brake - 40) t.2.1 ∧ t.2.2.1 = r2 ∧ t.2.2.2 = r3 ∧ (max 0 (s.Speed - (p.Brake + g)) ≤ t.1 → MayOk (p.Brake - 40) (s.At - 100 * p.Length) (s.At + (s.Speed + t.1 + 1) / 2) t.1 e r2 r3) | .out _ => False)
    (I := fun t => t.1 ≤ min (w64 (s.Speed + gn)) cap ∧ MEq (p.Brake - 40) t.2.1 ∧ t.2.2.1 = r2 ∧ t.2.2.2 = r3) (μ := fun s => (s.1 + 2).toNat)
    ⟨by rw [gmin_min]; exact Int.le_refl _, hm, rfl, rfl⟩ (by unfold bigN; rw [gmin_min]; dsimp only; omega) ?_) fun c _ hcc => ?_
  · rintro ⟨v, m1, q2, q3⟩ ⟨k1, k2, k3, k4⟩
    dsimp only at k1 k2 k3 k4
    subst k3 k4
    unfold run_runner_second_b1
    dsimp only
    rw [hw1, hw2, hw3, hw4, gmax_max]
    refine tot_bind (P := fun r => MEq (p.Brake - 40) r.2.1 ∧ r.2.2.1 = q2 ∧ r.2.2.2 = q3 ∧ (r.1 = true → 0 ≤ v) ∧ (r.1 = false → max 0 (s.Speed - (p.Brake + g)) ≤ v → MayOk (p.Brake - 40) (s.At - 100 * p.Length) (s.At + (s.Speed + v + 1) / 2) v e q2 q3)) ?_ fun r _ hr => ?_
    · refine tot_ifb (fun h => ?_) fun h => tot_some ⟨k2, rfl, rfl, fun h => (by cases h), fun _ h2 => ?_⟩
      · have h := of_decide_eq_true h
        rw [gone_eq hv0 (by omega) (by omega) (by omega), Option.bind_some, w64_id (x := s.At + (s.Speed + v + 1) / 2) (by omega) (by omega)]
        refine tot_bind (may_val _ _ v _ _ _ _ _ _ _ p.Brake _ _ q2 q3 e cap m1 (by omega) (by omega) hB hw hst hl (by omega) (by omega) hs k2) fun r _ hr => tot_some ⟨hr.2.1, hr.2.2.1, hr.2.2.2, fun _ => by omega, fun h3 _ => ?_⟩
        have h3 : (!r.1) = false := h3
        exact hr.1.1 (by simpa using h3)
      · have h := of_decide_eq_false h
        exact absurd h2 h
    · obtain ⟨j1, j2, j3, j4, j5⟩ := hr
      refine tot_ifb (fun h => tot_some ?_) fun h => tot_some ⟨k1, j1, j2, j3, j5 h⟩
      have := j4 h
      dsimp only
      rw [w64_id (by omega) (by omega)]
      exact ⟨⟨by omega, j1, j2, j3⟩, by omega⟩
  · refine tot_on (fun q hq => ?_) (fun x hx => ?_)
    · subst hq
      obtain ⟨v, m2, q2, q3⟩ := q
      obtain ⟨j1, j2, j3, j4, j5⟩ := hcc
      dsimp only at j1 j2 j3 j4 j5 ⊢
      subst j3 j4
      rw [hw1, hw2, gmax_max, gmax_max]
      have hfl : max 0 (s.Speed - (p.Brake + g)) ≤ s.Speed := by omega
      have hmay : MayOk (p.Brake - 40) (s.At - 100 * p.Length) (s.At + (s.Speed + max v (max 0 (s.Speed - (p.Brake + g))) + 1) / 2) (max v (max 0 (s.Speed - (p.Brake + g)))) e q2 q3 := by
        by_cases h : max 0 (s.Speed - (p.Brake + g)) ≤ v
        · rw [Int.max_eq_left h]; exact j5 h
        · rw [Int.max_eq_right (by omega)]
          exact floor_may hd hw hsafe (by omega) (by omega) (by omega) hfl
      have hx1 : max v (max 0 (s.Speed - (p.Brake + g))) ≤ max (min (w64 (s.Speed + gn)) cap) (max 0 (s.Speed - (p.Brake + g))) := by omega
      have hx2 : max v (max 0 (s.Speed - (p.Brake + g))) ≤ cap := by omega
      have hx3 : 0 ≤ max v (max 0 (s.Speed - (p.Brake + g))) := by omega
      have hx4 : max 0 (s.Speed - (p.Brake + g)) ≤ max v (max 0 (s.Speed - (p.Brake + g))) := by omega
      generalize max v (max 0 (s.Speed - (p.Brake + g))) = u at *
      rw [gone_eq hv0 (by omega) hx3 (by omega), Option.bind_some, Option.bind_some, w64_id (x := s.At + (s.Speed + u + 1) / 2) (by omega) (by omega)]
      dsimp only
      obtain ⟨q, hq, hq0, hq1⟩ := drag_quo hv0 (by omega) hp.drag.1
      rw [hq, Option.bind_some, w64_id (x := u - s.Speed) (by omega) (by omega), w64_id (x := u - s.Speed + p.Roll) (by omega) (by omega), w64_id (x := u - s.Speed + p.Roll + q) (by omega) (by omega), w64_id (x := u - s.Speed + p.Roll + q + g) (by omega) (by omega),
        w64_id (x := s.At + (s.Speed + u + 1) / 2 - s.At) (by omega) (by omega)]
      refine tot_bind (P := fun k => s.Work ≤ k ∧ k ≤ s.Work + 100000000000) ?_ fun k _ hk => tot_some ⟨⟨rfl, hx3, hx2, hmay, ⟨g, gn, h1, hgn, hx4, hx1⟩, hk⟩, j2, rfl, rfl⟩
      refine tot_ifb (fun h => tot_some ?_) fun _ => tot_some ⟨Int.le_refl _, by omega⟩
      have h : u - s.Speed + p.Roll + q + g > 0 := of_decide_eq_true h
      have hF : u - s.Speed + p.Roll + q + g ≤ 7000 := by omega
      generalize u - s.Speed + p.Roll + q + g = F at h hF
      have hdist0 : 0 ≤ s.At + (s.Speed + u + 1) / 2 - s.At := by omega
      have hdist1 : s.At + (s.Speed + u + 1) / 2 - s.At ≤ 6001 := by omega
      generalize s.At + (s.Speed + u + 1) / 2 - s.At = dd at hdist0 hdist1
      have e1 : 0 ≤ p.Mass * F := Int.mul_nonneg (by omega) (by omega)
      have e2 : p.Mass * F ≤ 2000 * 7000 := Int.mul_le_mul hM.2 hF (by omega) (by omega)
      rw [w64_id (x := p.Mass * F) (by omega) (by omega)]
      have e3 : 0 ≤ p.Mass * F * dd := Int.mul_nonneg e1 hdist0
      have e4 : p.Mass * F * dd ≤ (2000 * 7000) * 6001 := Int.mul_le_mul e2 hdist1 hdist0 (by omega)
      rw [w64_id (x := p.Mass * F * dd) (by omega) (by omega), w64_id (x := s.Work + p.Mass * F * dd) (by omega) (by omega)]
      omega
    · subst hx; exact hcc.elim
end Rm

/- A run: seconds, one after the other, and its end. -/
set_option linter.unusedVariables false
set_option linter.unusedSimpArgs false
set_option maxRecDepth 100000
namespace Rm
open Go Hk Hd Pl

/-- the states of a run so far -/
structure Chain (p : S_api_Stock) (e cap a : Int) (ps : List S_api_Piece) (st : List Int) (l : List S_api_State) : Prop where
  first : l[0]? = some (S_api_State.mk a 0 0)
  step : ∀ (i : Nat) x y, l[i]? = some x → l[i + 1]? = some y → Step p e cap ps st x y
  all : ∀ (i : Nat) x, l[i]? = some x → Safe (p.Brake - 40) p.Length e ps st x ∧ x.Speed ≤ cap ∧ 0 ≤ x.At ∧ x.At ≤ e ∧ 0 ≤ x.Work ∧ x.Work ≤ i * 100000000000
theorem Chain.push {p : S_api_Stock} {e cap a : Int} {ps : List S_api_Piece} {st : List Int} {l : List S_api_State} {x y : S_api_State} (hd : 0 < p.Brake - 40) (hc : cap ≤ 6000) (h : Chain p e cap a ps st l) (hx : l[l.length - 1]? = some x) (hs : Step p e cap ps st x y) : Chain p e cap a ps st (l ++ [y]) := by
  have hlen := (List.getElem?_eq_some_iff.1 hx).1
  have hax := h.all _ x hx
  refine ⟨by rw [List.getElem?_append_left (by omega)]; exact h.first, fun i u v hu hv => ?_, fun i u hu => ?_⟩
  · have hv' := (List.getElem?_eq_some_iff.1 hv).1
    simp at hv'
    rcases Nat.lt_or_ge (i + 1) l.length with h1 | h1
    · rw [List.getElem?_append_left (by omega)] at hu hv
      exact h.step i u v hu hv
    · have hi : i = l.length - 1 := by omega
      subst hi
      rw [List.getElem?_append_left (by omega), hx] at hu
      injection hu with hu; subst hu
      rw [List.getElem?_append_right (by omega), show l.length - 1 + 1 - l.length = 0 by omega] at hv
      simp at hv; subst hv
      exact hs
  · rcases Nat.lt_or_ge i l.length with h1 | h1
    · rw [List.getElem?_append_left h1] at hu
      exact h.all i u hu
    · have hu' := (List.getElem?_eq_some_iff.1 hu).1
      simp at hu'
      have hi : i = l.length := by omega
      subst hi
      rw [List.getElem?_append_right (by omega), Nat.sub_self] at hu
      simp at hu; subst hu
      obtain ⟨b1, b2, b3, b4, b5, b6⟩ := hax
      have hxv := b1.v0
      have hsp := hs.v0
      have hsafe : Safe (p.Brake - 40) p.Length e ps st y := by
        have := may_safe (len := p.Length) (at_ := x.At) (w := y.Work) hsp (by rw [hs.at_]; omega) hs.may
        exact this
      refine ⟨hsafe, hs.vc, by rw [hs.at_]; omega, ?_, by have := hs.work; omega, ?_⟩
      · have h1 := hsafe.stop
        have h2 := (inD_big hd (Int.le_refl 0) (v := y.Speed) (by have := hs.vc; omega)).1
        omega
      · have h1 := hs.work.2
        have : ((l.length : Nat) : Int) = ((l.length - 1 : Nat) : Int) + 1 := by omega
        omega
/-- a run that is over -/
def Done (p : S_api_Stock) (e cap a : Int) (ps : List S_api_Piece) (st : List Int) (l : List S_api_State) : Prop :=
  ∃ l0 x, Chain p e cap a ps st l0 ∧ l0.length ≤ 3601 ∧ l0[l0.length - 1]? = some x ∧ x.Speed = 0 ∧ e - x.At ≤ 100 ∧ l = setI l0 ((l0.length : Int) - 1) (S_api_State.mk e x.Speed x.Work)
theorem rstates_val {p : S_api_Stock} {ps : List S_api_Piece} {st : List Int} {e cap a : Int} (hp : Stk p) (hc0 : 0 ≤ cap) (hc : cap ≤ 6000) (hw : WayOk ps) (hst : st.length = ps.length + 1) (hl : ps.length ≤ 60) (h0 : 0 < ps.length)
    (he : 0 ≤ e ∧ e ≤ 18000000) (hs : ∀ a ∈ st, 0 ≤ a ∧ a ≤ 20000000) (ha : 0 ≤ a ∧ a ≤ e) :
    Tot (run_runner_states a p.Name p.Length p.Mass p.Start p.Power p.Roll p.Drag p.Brake p.Top p.Seats ps st e cap []) fun r => r.1 = true → Done p e cap a ps st r.2.2.2.2 := by
  unfold run_runner_states
  have hd : 0 < p.Brake - 40 := by have := hp.brake; omega
  have hch0 : Chain p e cap a ps st [S_api_State.mk a 0 0] := by
    refine ⟨rfl, fun i x y hx hy => by simp at hy, fun i x hx => ?_⟩
    have hi := (List.getElem?_eq_some_iff.1 hx).1
    have : i = 0 := by simp at hi; omega
    subst this
    simp at hx; subst hx
    refine ⟨⟨Int.le_refl 0, by show inD _ 0 0 ≤ e - a; rw [inD_le (Int.le_refl 0)]; omega, fun i x b hx hb h1 => ?_, fun i x b c hx hb hc' h1 h2 => ?_⟩, hc0, ha.1, ha.2, Int.le_refl 0, by simp⟩
    · have := hw x (List.mem_of_getElem? hx)
      have h1 : a ≤ b := h1
      show inD _ x.Speed 0 ≤ b - a
      rw [inD_le (by omega)]; omega
    · have := hw x (List.mem_of_getElem? hx)
      show (0 : Int) ≤ x.Speed
      omega
  refine tot_bind (tot_iter (E := fun c => match c with | .go _ => True | .out r => r.1 = true → Done p e cap a ps st r.2.2.2.2)
    (I := fun s => 0 ≤ s.1 ∧ s.1 ≤ 3601 ∧ MEq (p.Brake - 40) s.2.1 ∧ s.2.2.1 = ps ∧ s.2.2.2.1 = st ∧ s.1 + 1 = s.2.2.2.2.length ∧ Chain p e cap a ps st s.2.2.2.2) (μ := fun s => (4000 - s.1).toNat)
    ⟨by dsimp only; omega, by dsimp only; omega, by intro q hq; simp at hq, rfl, rfl, rfl, hch0⟩ (by unfold bigN; dsimp only; omega) ?_) fun c _ hcc => ?_
  · rintro ⟨k, m, q2, q3, l⟩ ⟨k1, k2, k3, k4, k5, k6, k7⟩
    dsimp only at k1 k2 k3 k4 k5 k6 k7
    subst k4 k5
    unfold run_runner_states_b1
    dsimp only
    refine tot_ifb (fun hlt => ?_) fun _ => tot_some trivial
    have hlt : k < 3601 := of_decide_eq_true hlt
    have hw1 : w64 ((l.length : Int) - 1) = (l.length : Int) - 1 := w64_id (by omega) (by omega)
    rw [hw1]
    have gx := get_nth (S_api_State.mk 0 0 0) (xs := l) (i := (l.length : Int) - 1) (by omega) (by omega)
    rw [show ((l.length : Int) - 1).toNat = l.length - 1 by omega] at gx
    rw [idx_nth (S_api_State.mk 0 0 0) (xs := l) (i := (l.length : Int) - 1) (by omega) (by omega), Option.bind_some]
    generalize nth (S_api_State.mk 0 0 0) l ((l.length : Int) - 1) = x at gx
    obtain ⟨b1, b2, b3, b4, b5, b6⟩ := k7.all _ x gx
    refine tot_bind (P := fun b => b = true → x.Speed = 0 ∧ e - x.At ≤ 100) (tot_ifb (fun h => tot_some fun h2 => ?_) fun _ => tot_some fun h => by cases h) fun b _ hb => ?_
    · have h2 := of_decide_eq_true h2
      rw [w64_id (x := e - x.At) (by omega) (by omega)] at h2
      exact ⟨by simpa using h, h2⟩
    · refine tot_ifb (fun h => tot_some fun _ => ?_) fun _ => ?_
      · obtain ⟨h1, h2⟩ := hb h
        exact ⟨l, x, k7, by omega, gx, h1, h2, rfl⟩
      · refine tot_bind (second_val hp hc0 hc hw hst hl h0 he hs k3 b1 b2 ⟨b3, b4⟩ ⟨b5, by omega⟩) fun r _ hr => ?_
        obtain ⟨r1, r2, r3, r4⟩ := hr
        rw [gapp_ok (by simp only [List.length_cons, List.length_nil]; omega) (by simp only [List.length_cons, List.length_nil]; omega), Option.bind_some]
        refine tot_some ?_
        dsimp only
        rw [w64_id (by omega) (by omega)]
        exact ⟨⟨by omega, by omega, r2, r3, r4, by simp only [List.length_append, List.length_cons, List.length_nil]; omega, k7.push hd hc gx r1⟩, by omega⟩
  · refine tot_on (fun q hq => tot_some fun h => by cases h) (fun x hx => tot_some ?_)
    subst hx; exact hcc
end Rm

/- RunKeeps: each second of a run that Go returns keeps what is asked. -/
set_option linter.unusedVariables false
set_option linter.unusedSimpArgs false
set_option maxRecDepth 100000
namespace Rm
open Go Hk Hd Pl

/-- where the pieces begin -/
structure Starts (ps : List S_api_Piece) (st : List Int) : Prop where
  len : st.length = ps.length + 1
  zero : st[0]? = some 0
  next : ∀ (i : Nat) x a, ps[i]? = some x → st[i]? = some a → st[i + 1]? = some (a + x.Length)
theorem starts_mono {ps : List S_api_Piece} {st : List Int} (h : Starts ps st) (hL : ∀ x ∈ ps, 1 ≤ x.Length ∧ x.Length ≤ 300000) {i : Nat} {a : Int} (ha : st[i]? = some a) : ∀ (k : Nat) b, st[i + k]? = some b → a + k ≤ b ∧ b ≤ a + k * 300000
  | 0, b, hb => by rw [Nat.add_zero, ha] at hb; injection hb with hb; omega
  | k + 1, b, hb => by
    have hlt := (List.getElem?_eq_some_iff.1 hb).1
    have hl := h.len
    obtain ⟨c, hc⟩ : ∃ c, st[i + k]? = some c := ⟨st[i + k]'(by omega), List.getElem?_eq_getElem (by omega)⟩
    obtain ⟨x, hx⟩ : ∃ x, ps[i + k]? = some x := ⟨ps[i + k]'(by omega), List.getElem?_eq_getElem (by omega)⟩
    have ih := starts_mono h hL ha k c hc
    have hn := h.next _ x c hx hc
    rw [show i + (k + 1) = i + k + 1 by omega, hn] at hb
    injection hb with hb
    have := hL x (List.mem_of_getElem? hx)
    rw [← hb]
    have e : ((k + 1 : Nat) : Int) * 300000 = (k : Int) * 300000 + 300000 := by push_cast; omega
    rw [e]
    omega
theorem starts_all {ps : List S_api_Piece} {st : List Int} (h : Starts ps st) (hL : ∀ x ∈ ps, 1 ≤ x.Length ∧ x.Length ≤ 300000) (hl : ps.length ≤ 60) : ∀ a ∈ st, 0 ≤ a ∧ a ≤ 20000000 := by
  intro a ha
  obtain ⟨i, hi⟩ := List.mem_iff_getElem?.1 ha
  have hlt := (List.getElem?_eq_some_iff.1 hi).1
  have := starts_mono h hL h.zero i a (by simpa using hi)
  have hl2 := h.len
  omega
theorem newRunner_val (p : S_api_Stock) (ps : List S_api_Piece) (a b : Int) (hl : ps.length ≤ 60) (hL : ∀ x ∈ ps, 1 ≤ x.Length ∧ x.Length ≤ 300000) :
    ∃ st : List Int, Starts ps st ∧ run_newRunner p ps a b = some (p.Name, p.Length, p.Mass, p.Start, p.Power, p.Roll, p.Drag, p.Brake, p.Top, p.Seats, ps, a, b, st, ([] : List (Int × (List Int)))) := by
  have : Tot (run_newRunner p ps a b) fun r => ∃ st : List Int, Starts ps st ∧ r = (p.Name, p.Length, p.Mass, p.Start, p.Power, p.Roll, p.Drag, p.Brake, p.Top, p.Seats, ps, a, b, st, ([] : List (Int × (List Int)))) := by
    unfold run_newRunner
    refine tot_loopX (I := fun i s => s.length = i + 1 ∧ s[0]? = some 0 ∧ (∀ (j : Nat) x c, j < i → ps[j]? = some x → s[j]? = some c → s[j + 1]? = some (c + x.Length)) ∧ ∀ c, s[i]? = some c → 0 ≤ c ∧ c ≤ i * 300000) (J := fun s => Starts ps s) (E := fun x => x.elim) ⟨rfl, rfl, fun j x c hj => by omega, fun c hc => by simp at hc; subst hc; simp⟩ (fun i x s hx hs => ?_) (fun s hs => ⟨hs.1, hs.2.1, fun i x c hx hc => hs.2.2.1 i x c (List.getElem?_eq_some_iff.1 hx).1 hx hc⟩) (fun s hs => tot_some ⟨s, hs, rfl⟩) (fun x hx => x.elim)
    obtain ⟨h1, h2, h3, h4⟩ := hs
    have hi := (List.getElem?_eq_some_iff.1 hx).1
    unfold run_newRunner_b1
    have gy := get_nth 0 (xs := s) (i := (i : Int)) (by omega) (by omega)
    rw [show ((i : Int)).toNat = i by omega] at gy
    rw [idx_nth 0 (xs := s) (i := (i : Int)) (by omega) (by omega), Option.bind_some]
    generalize nth 0 s (i : Int) = y at gy
    have hy := h4 y gy
    have hx2 := hL x (List.mem_of_getElem? hx)
    rw [w64_id (x := y + x.Length) (by omega) (by omega), gapp_ok (by simp only [List.length_cons, List.length_nil]; omega) (by simp only [List.length_cons, List.length_nil]; omega), Option.bind_some]
    refine tot_some ⟨by simp [h1], by rw [List.getElem?_append_left (by omega)]; exact h2, fun j z c hj hz hc => ?_, fun c hc => ?_⟩
    · rw [List.getElem?_append_left (by omega)] at hc
      by_cases hji : j = i
      · subst hji
        rw [hx] at hz; injection hz with hz; subst hz
        rw [gy] at hc; injection hc with hc; subst hc
        rw [List.getElem?_append_right (by omega), show j + 1 - s.length = 0 by omega]
        rfl
      · rw [List.getElem?_append_left (by omega)]
        exact h3 j z c (by omega) hz hc
    · rw [List.getElem?_append_right (by omega), show i + 1 - s.length = 0 by omega] at hc
      simp at hc
      have e : ((i + 1 : Nat) : Int) * 300000 = (i : Int) * 300000 + 300000 := by push_cast; omega
      rw [e]
      omega
  obtain ⟨r, h1, st, h2, h3⟩ := this
  exact ⟨st, h2, by rw [h1, h3]⟩
theorem check_val {p : S_api_Stock} {ps : List S_api_Piece} (s : S_api_State) (e : Int) (h : p.Name.size ≤ maxLen) : Tot (run_check p ps s e) fun r => r = 0 → run_Check p = some 0 ∧ Stk p ∧ WayOk ps ∧ (∀ x ∈ ps, 1 ≤ x.Length ∧ x.Length ≤ 300000) ∧ ps.length ≤ 60 ∧ 0 < ps.length ∧ 0 ≤ e ∧ e ≤ 18000000 ∧ 0 ≤ s.At ∧ s.At ≤ e := by
  unfold run_check
  refine tot_bind (check_tot h) fun r hrc hr => ?_
  refine tot_ifb (fun h => tot_some fun h0 => by rw [h0] at h; simp at h) fun hr0 => ?_
  have hr0 : r = 0 := by simpa using hr0
  have hs := hr hr0
  subst hr0
  refine tot_ifb (fun _ => tot_some fun h => absurd h (by decide)) fun h1 => ?_
  refine tot_ifb (fun _ => tot_some fun h => absurd h (by decide)) fun h2 => ?_
  have h1 : ¬ (ps.length : Int) = 0 := by simpa using h1
  have h2 : ¬ (ps.length : Int) > 60 := of_decide_eq_false h2
  let PO (x : S_api_Piece) : Prop := (1 ≤ x.Length ∧ x.Length ≤ 300000) ∧ -40 ≤ x.Grade ∧ x.Grade ≤ 40 ∧ 1 ≤ x.Speed ∧ x.Speed ≤ 6000
  refine tot_loopX (I := fun i t => (0 ≤ t ∧ t ≤ i * 300000) ∧ ∀ (j : Nat) x, j < i → ps[j]? = some x → PO x) (J := fun t => (0 ≤ t ∧ t ≤ 18000000) ∧ ∀ x ∈ ps, PO x) (E := fun r => r = 2) ⟨by simp, fun j x hj => by omega⟩ (fun i x s hx hs => ?_) (fun s hs => ?_) (fun t ht => ?_) (fun r hr => tot_some fun h => by rw [hr] at h; exact absurd h (by decide))
  · unfold run_check_b1
    rw [within_eq, within_eq, within_eq]
    have hi := (List.getElem?_eq_some_iff.1 hx).1
    refine tot_bind (P := fun b => b = false → PO x) ?_ fun b _ hb => ?_
    · rw [Option.bind_some]
      refine tot_ifb (fun _ => tot_some fun h => by cases h) fun h5 => ?_
      rw [Option.bind_some]
      refine tot_ifb (fun _ => tot_some fun h => by cases h) fun h3 => ?_
      rw [Option.bind_some]
      refine tot_some fun h4 => ?_
      have h5 : 1 ≤ x.Length ∧ x.Length ≤ 300000 := by simpa using h5
      have h3 : -40 ≤ x.Grade ∧ x.Grade ≤ 40 := by simpa using h3
      have h4 : 1 ≤ x.Speed ∧ x.Speed ≤ 6000 := by simpa using h4
      exact ⟨h5, h3.1, h3.2, h4.1, h4.2⟩
    · refine tot_ifb (fun _ => tot_some rfl) fun hbf => tot_some ?_
      have hpo := hb hbf
      obtain ⟨⟨t0, t1⟩, hall⟩ := hs
      have hp1 := hpo.1
      dsimp only
      rw [w64_id (by omega) (by omega)]
      have e : ((i + 1 : Nat) : Int) * 300000 = (i : Int) * 300000 + 300000 := by push_cast; omega
      refine ⟨⟨by omega, by rw [e]; omega⟩, fun j y hj hy => ?_⟩
      by_cases hji : j = i
      · subst hji
        rw [hx] at hy
        injection hy with hy
        subst hy
        exact hpo
      · exact hall j y (by omega) hy
  · obtain ⟨⟨t0, t1⟩, hall⟩ := hs
    refine ⟨⟨t0, by omega⟩, fun x hx => ?_⟩
    obtain ⟨j, hj⟩ := List.mem_iff_getElem?.1 hx
    exact hall j x (List.getElem?_eq_some_iff.1 hj).1 hj
  · obtain ⟨⟨t0, t1⟩, hall⟩ := ht
    refine tot_bind (P := fun b => b = false → (0 ≤ e ∧ e ≤ t) ∧ 0 ≤ s.At ∧ s.At ≤ e) ?_ fun b _ hb => ?_
    · rw [within_eq, within_eq, within_eq, within_eq]
      simp only [Option.bind_some]
      refine tot_ifb (fun _ => tot_some fun h => by cases h) fun h3 => ?_
      refine tot_ifb (fun _ => tot_some fun h => by cases h) fun h4 => ?_
      have h3 : 0 ≤ e ∧ e ≤ t := by simpa using h3
      have h4 : 0 ≤ s.At ∧ s.At ≤ e := by simpa using h4
      refine tot_ifb (fun _ => tot_some fun h => by cases h) fun _ => tot_some fun _ => ⟨h3, h4⟩
    · refine tot_ifb (fun _ => tot_some fun h => absurd h (by decide)) fun hbf => tot_some fun _ => ?_
      obtain ⟨h3, h4⟩ := hb hbf
      exact ⟨hrc, hs, fun x hx => (hall x hx).2, fun x hx => (hall x hx).1, by omega, by omega, h3.1, by omega, h4.1, h4.2⟩
theorem grade_unique {ps : List S_api_Piece} {st : List Int} (h : Starts ps st) (hL : ∀ x ∈ ps, 1 ≤ x.Length ∧ x.Length ≤ 300000) {at_ g g' : Int} (h1 : GradeAt ps st at_ g) (h2 : GradeAt ps st at_ g') : g = g' := by
  have key : ∀ (i j : Nat), i < ps.length → j < ps.length → (0 < j → ∃ a, st[j]? = some a ∧ a ≤ at_) → (i + 1 < ps.length → ∃ b, st[i + 1]? = some b ∧ at_ < b) → ¬ i < j := by
    intro i j hi hj ha hb hij
    obtain ⟨a, a1, a2⟩ := ha (by omega)
    obtain ⟨b, b1, b2⟩ := hb (by omega)
    have := starts_mono h hL b1 (j - (i + 1)) a (by rw [show i + 1 + (j - (i + 1)) = j by omega]; exact a1)
    omega
  obtain ⟨i, x, a1, a2, a3, a4⟩ := h1
  obtain ⟨j, y, b1, b2, b3, b4⟩ := h2
  have li := (List.getElem?_eq_some_iff.1 a1).1
  have lj := (List.getElem?_eq_some_iff.1 b1).1
  have k1 := key i j li lj b3 a4
  have k2 := key j i lj li a3 b4
  have : i = j := by omega
  subst this
  rw [a1] at b1
  injection b1 with b1
  subst b1
  omega
theorem Gain_val {p : S_api_Stock} (hck : run_Check p = some 0) {v g gn : Int} (hv : 0 ≤ v ∧ v ≤ 6000) (hg : -40 ≤ g ∧ g ≤ 40) (h : run_gain p v g = some gn) : run_Gain p v g = some (gn, 0) := by
  unfold run_Gain
  rw [hck, Option.bind_some, within_eq, within_eq, Option.bind_some, Option.bind_some, h]
  simp [ifb, hv, hg]
/-- a second keeps all that is asked -/
theorem secondKeeps_true {p : S_api_Stock} {ps : List S_api_Piece} {st : List Int} {e cap : Int} {a b0 b : S_api_State} {last : Bool} (hck : run_Check p = some 0) (hp : Stk p) (hcap : cap ≤ p.Top) (hw : WayOk ps) (hL : ∀ x ∈ ps, 1 ≤ x.Length ∧ x.Length ≤ 300000) (hl : ps.length ≤ 60) (h0 : 0 < ps.length)
    (hS : Starts ps st) (he : 0 ≤ e ∧ e ≤ 18000000) (hst : Step p e cap ps st a b0) (ha : 0 ≤ a.Speed ∧ a.Speed ≤ cap) (haa : 0 ≤ a.At ∧ a.At ≤ e) (hb0 : b0.At ≤ e) (hbs : b.Speed = b0.Speed) (hbw : b.Work = b0.Work) (hba : b.At = b0.At ∨ last = true ∧ b.At = e ∧ e - b0.At ≤ 100) :
    Tot (fishkeep1_secondKeeps p ps a b e last) fun r => r = true := by
  unfold fishkeep1_secondKeeps
  have ht := hp.top
  have hB := hp.brake
  have hln := hp.length
  have hat := hst.at_
  have hv0 := hst.v0
  have hvc := hst.vc
  rw [hbs, hbw]
  have hq : gquoK .i64 (w64 (w64 (a.Speed + b0.Speed) + 1)) 2 = some ((a.Speed + b0.Speed + 1) / 2) := by
    rw [w64_id (x := a.Speed + b0.Speed) (by omega) (by omega), w64_id (x := a.Speed + b0.Speed + 1) (by omega) (by omega)]
    unfold gquoK
    rw [if_neg (by decide), Int.tdiv_eq_ediv_of_nonneg (by omega)]
    exact congrArg some (w64_id (by omega) (by omega))
  rw [hq, Option.bind_some]
  have hfr : w64 (a.At + (a.Speed + b0.Speed + 1) / 2) = b0.At := by rw [w64_id (by omega) (by omega), ← hat]
  rw [hfr]
  have hsp : decide (b0.Speed > p.Top) = false := decide_eq_false (by omega)
  refine tot_bind (P := fun s => s = false) ?_ fun s _ hs => ?_
  · refine tot_ifb (fun h => ?_) fun h => ?_
    · have h : b.At ≠ b0.At := by simpa using h
      rcases hba with h1 | ⟨h1, h2, h3⟩
      · exact absurd h1 h
      · rw [h1, decide_eq_true hb0, w64_id (x := e - b0.At) (by omega) (by omega), decide_eq_true h3, hsp, h2]
        exact tot_some (decide_eq_false (by omega))
    · have h : b.At = b0.At := by simpa using h
      rw [hsp, h]
      exact tot_some (decide_eq_false (by omega))
  · subst hs
    refine tot_loopX (I := fun k s => st[k]? = some s.2 ∧ (0 < k → ∃ (i : Nat) (x : S_api_Piece), i < k ∧ ps[i]? = some x ∧ s.1 = x.Grade ∧ (∃ c, st[i]? = some c ∧ c ≤ a.At) ∧ (i + 1 < k → ∃ c, st[i + 1]? = some c ∧ a.At < c))) (J := fun s => GradeAt ps st a.At s.1) (E := fun r => False)
      ⟨hS.zero, fun h => by omega⟩ (fun k x s hx hs => ?_) (fun s hs => ?_) (fun s hs => ?_) (fun r hr => hr.elim)
    · obtain ⟨g0, c⟩ := s
      obtain ⟨k1, k2⟩ := hs
      dsimp only at k1 k2
      have hk := (List.getElem?_eq_some_iff.1 hx).1
      have hxL := hL x (List.mem_of_getElem? hx)
      have hcb := starts_all hS hL hl c (List.mem_of_getElem? k1)
      have hn := hS.next k x c hx k1
      unfold fishkeep1_secondKeeps_b1
      dsimp only
      rw [hfr, hbs, w64_id (x := c + x.Length) (by omega) (by omega), w64_id (x := 100 * p.Length) (by omega) (by omega), w64_id (x := a.At - 100 * p.Length) (by omega) (by omega)]
      refine tot_bind (P := fun g => (c ≤ a.At → g = x.Grade) ∧ (¬ c ≤ a.At → g = g0)) ?_ fun g _ hg => ?_
      · refine tot_ifb (fun h => tot_some ?_) fun h => tot_some ?_
        · have h : c ≤ a.At := of_decide_eq_true h
          exact ⟨fun _ => rfl, fun h2 => absurd h h2⟩
        · have h : ¬ c ≤ a.At := of_decide_eq_false h
          exact ⟨fun h2 => absurd h2 h, fun _ => rfl⟩
      · refine tot_bind (P := fun b => b = false) ?_ fun t _ ht => ?_
        · refine tot_ifb (fun h => ?_) fun _ => tot_some rfl
          have h : c < b0.At := of_decide_eq_true h
          refine tot_ifb (fun h2 => tot_some ?_) fun _ => tot_some rfl
          have h2 : c + x.Length > a.At - 100 * p.Length := of_decide_eq_true h2
          have := hst.may.touched k x c (c + x.Length) hx k1 hn h h2
          exact decide_eq_false (by omega)
        · subst ht
          refine tot_some ⟨hn, fun _ => ?_⟩
          by_cases h : c ≤ a.At
          · exact ⟨k, x, by omega, hx, hg.1 h, ⟨c, k1, h⟩, fun h2 => by omega⟩
          · rcases Nat.eq_zero_or_pos k with hk0 | hk0
            · subst hk0
              have := hS.zero
              rw [k1] at this
              injection this with this
              omega
            · obtain ⟨i, y, i1, i2, i3, i4, i5⟩ := k2 hk0
              refine ⟨i, y, by omega, i2, by rw [hg.2 h]; exact i3, i4, fun h2 => ?_⟩
              rcases Nat.lt_or_ge (i + 1) k with h3 | h3
              · exact i5 h3
              · have : i + 1 = k := by omega
                rw [this]
                exact ⟨c, k1, by omega⟩
    · obtain ⟨i, x, i1, i2, i3, i4, i5⟩ := hs.2 h0
      exact ⟨i, x, i2, i3, fun _ => i4, fun h2 => i5 h2⟩
    · obtain ⟨g, gn, g1, g2, g3, g4⟩ := hst.ex
      have hgg := grade_unique hS hL hs g1
      rw [hgg]
      have hgb := gradeAt_bound hw g1
      rw [Gain_val hck ⟨ha.1, by omega⟩ hgb g2, Option.bind_some, w64_id (x := a.Speed - p.Brake) (by omega) (by omega), w64_id (x := a.Speed - p.Brake - g) (by omega) (by omega), gmax_max, gmax_max]
      rw [show decide (b0.Speed ≤ max (w64 (a.Speed + gn)) (max (a.Speed - p.Brake - g) 0)) = true from decide_eq_true (by omega), show decide (b0.Speed ≥ max (a.Speed - p.Brake - g) 0) = true from decide_eq_true (by omega), show decide (b0.Work ≥ a.Work) = true from decide_eq_true hst.work.1]
      exact tot_some rfl
end Rm

/- RunKeeps: the law. -/
set_option linter.unusedVariables false
set_option linter.unusedSimpArgs false
set_option maxRecDepth 100000
namespace Go.Proofs.YtohpilnjebnelaaDoor
open Go Hk Hd Pl Rm

theorem go_val {p : S_api_Stock} {ps : List S_api_Piece} (hn : p.Name.size ≤ maxLen) (a e : Int) : Tot (run_Go p ps a e) fun r => (r.1 ≠ 0 → r.2 = []) ∧
    (r.1 = 0 → ∃ st, run_Check p = some 0 ∧ Stk p ∧ WayOk ps ∧ (∀ x ∈ ps, 1 ≤ x.Length ∧ x.Length ≤ 300000) ∧ ps.length ≤ 60 ∧ 0 < ps.length ∧ (0 ≤ e ∧ e ≤ 18000000) ∧ (0 ≤ a ∧ a ≤ e) ∧ Starts ps st ∧ Done p e p.Top a ps st r.2) := by
  unfold run_Go
  refine tot_bind (check_val (S_api_State.mk a 0 0) e hn) fun r _ hr => ?_
  refine tot_ifb (fun h => tot_some ⟨fun _ => rfl, fun h0 => ?_⟩) fun hr0 => ?_
  · have h0 : r = 0 := h0
    subst h0; simp at h
  have hr0 : r = 0 := by simpa using hr0
  obtain ⟨hck, hs, hw, hL, hl, h0, e0, e1, a0, a1⟩ := hr hr0
  obtain ⟨st, hst, hnr⟩ := newRunner_val p ps e p.Top hl hL
  unfold run_states
  rw [hnr, Option.bind_some]
  have ht := hs.top
  refine tot_bind (tot_bind (rstates_val (st := st) (e := e) (a := a) (cap := p.Top) hs (by omega) ht.2 hw hst.len hl h0 ⟨e0, e1⟩ (starts_all hst hL hl) ⟨a0, a1⟩) fun r _ hr => tot_ifb (Q := fun x : Int × List S_api_State => (x.1 ≠ 0 → x.2 = []) ∧ (x.1 = 0 → Done p e p.Top a ps st x.2)) (fun _ => tot_some ⟨fun _ => rfl, fun h => absurd h (by decide)⟩) fun h => tot_some ⟨fun h => absurd rfl h, fun _ => hr (by simpa using h)⟩) fun x _ hx => tot_some ⟨hx.1, fun h => ⟨st, hck, hs, hw, hL, hl, h0, ⟨e0, e1⟩, ⟨a0, a1⟩, hst, hx.2 h⟩⟩
theorem runKeeps_law : RunKeeps.RunKeepsLaw := by
  intro p ps a e hp hps ha he
  refine tot_eq ?_
  unfold fishkeep1_RunKeeps
  rw [awake, Option.bind_some]
  refine tot_bind (go_val hp.1 a e) fun r _ hr => ?_
  obtain ⟨c, l⟩ := r
  obtain ⟨hr1, hr2⟩ := hr
  dsimp only at hr1 hr2 ⊢
  refine tot_ifb (fun h => tot_some ?_) fun h => ?_
  · have h : c ≠ 0 := by simpa using h
    rw [hr1 h]; rfl
  have h : c = 0 := by simpa using h
  obtain ⟨st, hck, hs, hw, hL, hl, h0, he2, ha2, hst, l0, x, hch, hlen, hx, hx1, hx2, hset⟩ := hr2 h
  have ht := hs.top
  have hx0 := (List.getElem?_eq_some_iff.1 hx).1
  have hll : l.length = l0.length := by rw [hset]; unfold setI; simp
  have hget : ∀ i : Nat, i < l0.length - 1 → l[i]? = l0[i]? := fun i hi => by
    rw [hset]; unfold setI
    rw [List.getElem?_set_ne (by omega)]
  have hlast : l[l0.length - 1]? = some (S_api_State.mk e x.Speed x.Work) := by
    rw [hset]; unfold setI
    rw [show (((l0.length : Int) - 1)).toNat = l0.length - 1 by omega, List.getElem?_set_self (by omega)]
  have hw1 : w64 ((l.length : Int) - 1) = (l0.length : Int) - 1 := by rw [hll]; exact w64_id (by omega) (by omega)
  rw [hw1]
  have idxOf : ∀ (i : Int) y, 0 ≤ i → l[i.toNat]? = some y → idx l i = some y := fun i y h1 h2 => by
    unfold idx; rw [if_pos h1]; exact h2
  have il : idx l ((l0.length : Int) - 1) = some (S_api_State.mk e x.Speed x.Work) := idxOf _ _ (by omega) (by rw [show (((l0.length : Int) - 1)).toNat = l0.length - 1 by omega]; exact hlast)
  have i0 : ∃ y, idx l 0 = some y ∧ y.Speed = 0 ∧ y.Work = 0 ∧ (1 < l0.length → y.At = a) := by
    rcases Nat.lt_or_ge 1 l0.length with h1 | h1
    · exact ⟨_, idxOf 0 _ (by omega) (by rw [show (0 : Int).toNat = 0 from rfl, hget 0 (by omega)]; exact hch.first), rfl, rfl, fun _ => rfl⟩
    · have h1 : l0.length = 1 := by omega
      have hx' := hx
      rw [h1, hch.first] at hx'
      injection hx' with hx'
      subst hx'
      refine ⟨_, idxOf 0 _ (by omega) (by rw [show (0 : Int).toNat = l0.length - 1 by omega]; exact hlast), rfl, rfl, fun h => by omega⟩
  obtain ⟨y, hy, hy1, hy2, hy3⟩ := i0
  refine tot_bind (P := fun b => b = false) ?_ fun b _ hb => ?_
  · rw [decide_eq_false (show ¬ (l0.length : Int) - 1 < 0 by omega), decide_eq_false (show ¬ (l0.length : Int) - 1 > 3600 by omega), ifb_false, ifb_false, hy, Option.bind_some, hy1, show ((0 : Int) != 0) = false from rfl, ifb_false, Option.bind_some, hy2, show ((0 : Int) != 0) = false from rfl, ifb_false, il, Option.bind_some]
    dsimp only
    rw [hx1, show ((0 : Int) != 0) = false from rfl, ifb_false, Option.bind_some]
    dsimp only
    rw [show (e != e) = false by simp, ifb_false]
    refine tot_ifb (fun h => ?_) fun _ => tot_some rfl
    have h : (l0.length : Int) - 1 > 0 := of_decide_eq_true h
    rw [Option.bind_some, hy3 (by omega)]
    exact tot_some (by simp)
  · subst hb
    refine tot_bind (tot_iter (E := fun c => match c with | .go _ => True | .out r => r = true) (I := fun s => 1 ≤ s ∧ s ≤ (l0.length : Int)) (μ := fun s => (5000 - s).toNat) ⟨by omega, by omega⟩ (by unfold bigN; decide) ?_) fun c _ hc => ?_
    · rintro s ⟨s1, s2⟩
      unfold fishkeep1_RunKeeps_b1
      dsimp only
      rw [hw1]
      refine tot_ifb (fun h => ?_) fun _ => tot_some trivial
      have h : s ≤ (l0.length : Int) - 1 := of_decide_eq_true h
      rw [w64_id (x := s - 1) (by omega) (by omega)]
      obtain ⟨u, hu⟩ : ∃ u, l0[(s - 1).toNat]? = some u := ⟨l0[(s - 1).toNat]'(by omega), List.getElem?_eq_getElem (by omega)⟩
      obtain ⟨v, hv⟩ : ∃ v, l0[s.toNat]? = some v := ⟨l0[s.toNat]'(by omega), List.getElem?_eq_getElem (by omega)⟩
      have hstep := hch.step (s - 1).toNat u v hu (by rw [show (s - 1).toNat + 1 = s.toNat by omega]; exact hv)
      obtain ⟨a1, a2, a3, a4, _⟩ := hch.all _ u hu
      obtain ⟨b1, b2, b3, b4, _⟩ := hch.all _ v hv
      rw [idxOf (s - 1) u (by omega) (by rw [hget _ (by omega)]; exact hu), Option.bind_some]
      have hb : ∃ w, idx l s = some w ∧ w.Speed = v.Speed ∧ w.Work = v.Work ∧ (w.At = v.At ∨ (s == (l0.length : Int) - 1) = true ∧ w.At = e ∧ e - v.At ≤ 100) := by
        by_cases hs' : s = (l0.length : Int) - 1
        · have hvx : v = x := by
            rw [show s.toNat = l0.length - 1 by omega, hx] at hv
            injection hv with hv
            exact hv.symm
          subst hvx
          refine ⟨S_api_State.mk e v.Speed v.Work, by rw [hs']; exact il, rfl, rfl, .inr ⟨by simp [hs'], rfl, hx2⟩⟩
        · exact ⟨v, idxOf s v (by omega) (by rw [hget _ (by omega)]; exact hv), rfl, rfl, .inl rfl⟩
      obtain ⟨w, hw', w1, w2, w3⟩ := hb
      rw [hw', Option.bind_some]
      refine tot_bind (secondKeeps_true hck hs (Int.le_refl _) hw hL hl h0 hst he2 hstep ⟨a1.v0, a2⟩ ⟨a3, a4⟩ b4 w1 w2 w3) fun r _ hr => ?_
      subst hr
      refine tot_some ?_
      dsimp only
      rw [w64_id (by omega) (by omega)]
      exact ⟨⟨by omega, by omega⟩, by omega⟩
    · exact tot_on (fun s hs => tot_some rfl) (fun r hr => tot_some (by subst hr; exact hc))
theorem runKeeps_proved : Rows.RunKeepsCardSaid := RunKeeps.close runKeeps_law
#print axioms runKeeps_proved
end Go.Proofs.YtohpilnjebnelaaDoor
