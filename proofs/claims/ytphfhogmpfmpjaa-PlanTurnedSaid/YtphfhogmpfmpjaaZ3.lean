/- What the checks say, and gaps. -/
import Derived.Test.YtphfhogmpfmpjaaZ2
import Derived.Test.YtphfhogmpfmpjaaZC
set_option linter.unusedVariables false
set_option linter.unusedSimpArgs false
set_option maxRecDepth 100000
namespace Pt
open Go Hk Hd Pl

theorem within_eq (a b c : Int) : fishref2_within a b c = some (decide (b ≤ a ∧ a ≤ c)) := by
  unfold fishref2_within
  by_cases h : b ≤ a
  · rw [show decide (a ≥ b) = true from decide_eq_true h, ifb_true]; simp [h]
  · rw [show decide (a ≥ b) = false from decide_eq_false h, ifb_false]; simp [h]
theorem within_eq' (a b c : Int) : plan_within a b c = some (decide (b ≤ a ∧ a ≤ c)) := within_eq a b c
def Head (p : S_plan_Periodic) : Prop := (2 ≤ p.Period ∧ p.Period ≤ 3600) ∧ 1 ≤ p.Events ∧ p.Events ≤ 8
theorem rule_tot {p : S_plan_Periodic} (hp : Head p) (i : Nat) (r : S_plan_Rule) : Tot (fishref2_PeriodicFault_b1 p i r ()) (fun c => match c with | .go _ => ROk p.Period p.Events r | .out (.go _) => False | .out (.out y) => y ≠ 0 ∧ ¬ ROk p.Period p.Events r) := by
  obtain ⟨⟨T0, T1⟩, n0, n1⟩ := hp
  unfold fishref2_PeriodicFault_b1
  rw [w64_id (x := p.Events - 1) (by omega) (by omega)]
  simp only [within_eq, Option.bind_some]
  by_cases q1 : 0 ≤ r.From ∧ r.From ≤ p.Events - 1
  · rw [decide_eq_true q1]
    simp only [Bool.not_true, ifb_false, Option.bind_some]
    by_cases q2 : 0 ≤ r.To ∧ r.To ≤ p.Events - 1
    · rw [decide_eq_true q2]
      simp only [Bool.not_true, ifb_false]
      by_cases q3 : r.From = r.To
      · rw [show (r.From == r.To) = true by simpa using q3]
        exact tot_some ⟨by decide, fun h => h.ne q3⟩
      · rw [show (r.From == r.To) = false by simpa using q3]
        simp only [ifb_false]
        by_cases q4 : 0 ≤ r.Min ∧ r.Min ≤ 3600
        · rw [decide_eq_true q4]
          simp only [Bool.not_true, ifb_false]
          by_cases q5 : r.Max < r.Min
          · rw [decide_eq_true q5]
            exact tot_some ⟨by decide, fun h => by have := h.x0; omega⟩
          · rw [decide_eq_false q5]
            simp only [ifb_false]
            rw [w64_id (x := r.Min + p.Period) (by omega) (by omega), w64_id (x := r.Min + p.Period - 1) (by omega) (by omega)]
            by_cases q6 : r.Max > r.Min + p.Period - 1
            · rw [decide_eq_true q6]
              exact tot_some ⟨by decide, fun h => by have := h.x1; omega⟩
            · rw [decide_eq_false q6]
              simp only [ifb_false]
              by_cases q7 : 0 ≤ r.Weight ∧ r.Weight ≤ 1000
              · rw [decide_eq_true q7]
                exact tot_some ⟨q1.1, by omega, q2.1, by omega, q3, q4.1, q4.2, by omega, by omega, q7.1, q7.2⟩
              · rw [decide_eq_false q7]
                exact tot_some ⟨by decide, fun h => q7 ⟨h.w0, h.w1⟩⟩
        · rw [decide_eq_false q4]
          exact tot_some ⟨by decide, fun h => q4 ⟨h.m0, h.m1⟩⟩
    · rw [decide_eq_false q2]
      exact tot_some ⟨by decide, fun h => q2 ⟨h.t0, by have := h.t1; omega⟩⟩
  · rw [decide_eq_false q1]
    exact tot_some ⟨by decide, fun h => q1 ⟨h.f0, by have := h.f1; omega⟩⟩
theorem fault_tot (p : S_plan_Periodic) : Tot (fishref2_PeriodicFault p) fun e => e = 0 ↔ POk p.Period p.Events p.Rules := by
  unfold fishref2_PeriodicFault
  refine tot_bind (P := fun c : Bool => c = false ↔ Head p) ?_ fun c _ hc => ?_
  · rw [within_eq, within_eq]
    simp only [Option.bind_some]
    by_cases q1 : 2 ≤ p.Period ∧ p.Period ≤ 3600
    · rw [decide_eq_true q1]
      simp only [Bool.not_true, ifb_false]
      refine tot_some ?_
      by_cases q2 : 1 ≤ p.Events ∧ p.Events ≤ 8
      · rw [decide_eq_true q2]; exact ⟨fun _ => ⟨q1, q2⟩, fun _ => rfl⟩
      · rw [decide_eq_false q2]; exact ⟨fun e => (by cases e), fun h => absurd h.2 q2⟩
    · rw [decide_eq_false q1]; exact tot_some ⟨fun e => (by cases e), fun h => absurd h.1 q1⟩
  refine tot_ifb (fun q => ?_) fun q => ?_
  · exact tot_some ⟨fun e => (by cases e), fun h => by rw [hc.2 ⟨⟨h.T0, h.T1⟩, h.n0, h.n1⟩] at q; cases q⟩
  have hh := hc.1 q
  refine tot_ifb (fun q => ?_) fun q => ?_
  · have q := of_decide_eq_true q
    exact tot_some ⟨fun e => (by cases e), fun h => by have := h.len; omega⟩
  have q := of_decide_eq_false q
  refine tot_allX (P := fun _ r => ROk p.Period p.Events r) (E := fun y => y ≠ 0 ∧ ¬ POk p.Period p.Events p.Rules) (fun i r hr => ?_) (fun hall => ?_) fun y hy => tot_some ⟨fun e => absurd e hy.1, fun h => absurd h hy.2⟩
  · refine tot_mono (rule_tot hh i r) fun c hc => ?_
    rcases c with _ | (_ | y)
    · exact hc
    · exact hc.elim
    · exact ⟨hc.1, fun h => hc.2 (h.all r (List.mem_of_getElem? hr))⟩
  · exact tot_some ⟨fun _ => ⟨hh.1.1, hh.1.2, hh.2.1, hh.2.2, by omega, mem_of_all hall⟩, fun _ => rfl⟩
theorem fault_ok {p : S_plan_Periodic} (hp : POk p.Period p.Events p.Rules) : fishref2_PeriodicFault p = some 0 := by
  obtain ⟨e, h1, h2⟩ := fault_tot p
  rw [h1, h2.2 hp]
theorem check_ok {p : S_plan_Periodic} (hp : POk p.Period p.Events p.Rules) : plan_CheckPeriodic p = some 0 := by
  have T0 := hp.T0; have T1 := hp.T1; have n0 := hp.n0; have n1 := hp.n1; have hl := hp.len
  refine tot_eq (?_ : Tot _ (· = (0 : Int)))
  unfold plan_CheckPeriodic
  rw [within_eq', within_eq', decide_eq_true (⟨T0, T1⟩ : 2 ≤ p.Period ∧ p.Period ≤ 3600), decide_eq_true (⟨n0, n1⟩ : 1 ≤ p.Events ∧ p.Events ≤ 8)]
  simp only [Option.bind_some, Bool.not_true, ifb_false]
  refine tot_ifb (fun q => ?_) fun _ => ?_
  · have q := of_decide_eq_true q
    omega
  refine tot_allX (P := fun _ _ => True) (E := fun _ => False) (fun i r hr => ?_) (fun _ => tot_some rfl) fun y hy => hy.elim
  have h := hp.all r (List.mem_of_getElem? hr)
  have a1 := h.f0; have a2 := h.f1; have a3 := h.t0; have a4 := h.t1; have a5 := h.m0; have a6 := h.m1; have a7 := h.x0; have a8 := h.x1; have a9 := h.w0; have a10 := h.w1
  unfold plan_CheckPeriodic_b1
  rw [w64_id (x := p.Events - 1) (by omega) (by omega), w64_id (x := r.Min + p.Period) (by omega) (by omega), w64_id (x := r.Min + p.Period - 1) (by omega) (by omega)]
  simp only [within_eq', Option.bind_some]
  rw [decide_eq_true (by omega : 0 ≤ r.From ∧ r.From ≤ p.Events - 1), decide_eq_true (by omega : 0 ≤ r.To ∧ r.To ≤ p.Events - 1), decide_eq_true (by omega : 0 ≤ r.Min ∧ r.Min ≤ 3600), decide_eq_true (by omega : r.Min ≤ r.Max ∧ r.Max ≤ r.Min + p.Period - 1), decide_eq_true (by omega : 0 ≤ r.Weight ∧ r.Weight ≤ 1000)]
  simp only [Bool.not_true, ifb_false, Option.bind_some]
  rw [show (r.From == r.To) = false by simpa using h.ne]
  exact tot_some trivial
/-- the gap of a rule that is kept -/
theorem gap_ok {p : S_plan_Periodic} (hp : POk p.Period p.Events p.Rules) {r : S_plan_Rule} (hr : r ∈ p.Rules) {ts : List Int} (hl : (ts.length : Int) = p.Events) (hb : ∀ i, 0 ≤ i → i < p.Events → 0 ≤ nth 0 ts i ∧ nth 0 ts i ≤ p.Period - 1)
    {k : Int} (hk : In p.Period r k (nth 0 ts r.To - nth 0 ts r.From)) : Tot (fishref2_GapOf p r ts) fun g => g ≤ r.Max := by
  have T0 := hp.T0; have T1 := hp.T1; have n0 := hp.n0; have n1 := hp.n1
  have h := hp.all r hr
  have a1 := h.f0; have a2 := h.f1; have a3 := h.t0; have a4 := h.t1; have a5 := h.m0; have a6 := h.m1; have a7 := h.x0; have a8 := h.x1
  have c1 := hb r.To a3 a4
  have c2 := hb r.From a1 a2
  obtain ⟨i1, i2⟩ := hk
  unfold fishref2_GapOf
  refine tot_bind' (idx_nth 0 (by omega) (by omega)) ?_
  refine tot_bind' (idx_nth 0 (by omega) (by omega)) ?_
  rw [w64_id (x := nth 0 ts r.To - nth 0 ts r.From) (by omega) (by omega)]
  refine tot_bind (P := fun c => match c with | .go s => r.Min ≤ s ∧ s ≤ 100000 ∧ ∃ m, s = (nth 0 ts r.To - nth 0 ts r.From) + m * p.Period | .out e => False) ?_ fun c _ hc => ?_
  · refine tot_iter (I := fun s => -10000 ≤ s ∧ s ≤ 100000 ∧ ∃ m, s = (nth 0 ts r.To - nth 0 ts r.From) + m * p.Period) (μ := fun s => (100000 - s).toNat) ⟨by omega, by omega, 0, by omega⟩ (by have : 1000000 < bigN := (by decide); omega) ?_
    rintro s ⟨s0, s1, m, hm⟩
    unfold fishref2_GapOf_b1
    refine tot_ifb (fun q => ?_) fun q => ?_
    · have q := of_decide_eq_true q
      rw [w64_id (x := s + p.Period) (by omega) (by omega)]
      exact tot_some ⟨⟨by omega, by omega, m + 1, by rw [Int.add_mul, Int.one_mul]; omega⟩, by omega⟩
    · have q := of_decide_eq_false q
      exact tot_some ⟨by omega, s1, m, hm⟩
  · cases c with
    | out e => exact hc.elim
    | go s =>
      obtain ⟨s0, s1, m, hm⟩ := hc
      simp only [Ctl.on]
      refine tot_bind (P := fun c => match c with | .go s => r.Min ≤ s ∧ s < r.Min + p.Period ∧ ∃ m, s = (nth 0 ts r.To - nth 0 ts r.From) + m * p.Period | .out e => False) ?_ fun c _ hc => ?_
      · refine tot_iter (I := fun s => r.Min ≤ s ∧ s ≤ 100000 ∧ ∃ m, s = (nth 0 ts r.To - nth 0 ts r.From) + m * p.Period) (μ := fun s => s.toNat) ⟨s0, s1, m, hm⟩ (by have : 1000000 < bigN := (by decide); omega) ?_
        rintro s ⟨s0, s1, m, hm⟩
        unfold fishref2_GapOf_b2
        rw [w64_id (x := r.Min + p.Period) (by omega) (by omega)]
        refine tot_ifb (fun q => ?_) fun q => ?_
        · have q := of_decide_eq_true q
          rw [w64_id (x := s - p.Period) (by omega) (by omega)]
          exact tot_some ⟨⟨by omega, by omega, m - 1, by rw [Int.sub_mul, Int.one_mul]; omega⟩, by omega⟩
        · have q := of_decide_eq_false q
          exact tot_some ⟨s0, by omega, m, hm⟩
      · cases c with
        | out e => exact hc.elim
        | go s =>
          obtain ⟨s0, s1, m, hm⟩ := hc
          refine tot_some ?_
          have hmk : m = k := by
            rcases Int.lt_trichotomy m k with g | g | g
            · have := mul_mono (show m + 1 ≤ k by omega) (show 0 ≤ p.Period by omega)
              rw [Int.add_mul, Int.one_mul] at this
              omega
            · exact g
            · have := mul_mono (show k + 1 ≤ m by omega) (show 0 ≤ p.Period by omega)
              rw [Int.add_mul, Int.one_mul] at this
              omega
          subst hmk
          omega
end Pt

/- PlanTurned: the law. -/
set_option linter.unusedVariables false
set_option linter.unusedSimpArgs false
set_option maxRecDepth 100000
namespace Pt
open Go Hk Hd Pl

def swap (r : S_plan_Rule) : S_plan_Rule := ⟨r.To, r.From, r.Min, r.Max, r.Weight⟩
def back (l : List S_plan_Rule) : List S_plan_Rule := l.map swap
def turn (T : Int) (t : Int → Int) (i : Int) : Int := if t i = 0 then 0 else T - t i
theorem back_ok {T n : Int} {l : List S_plan_Rule} (h : POk T n l) : POk T n (back l) := ⟨h.T0, h.T1, h.n0, h.n1, by simp [back]; exact h.len, fun r hr => by
  obtain ⟨q, hq, rfl⟩ := List.mem_map.1 hr
  have := h.all q hq
  exact ⟨this.t0, this.t1, this.f0, this.f1, fun e => this.ne e.symm, this.m0, this.m1, this.x0, this.x1, this.w0, this.w1⟩⟩
theorem turn_ok {T n : Int} {t : Int → Int} (hT : 2 ≤ T) (h : Ok0 T n t) : Ok0 T n (turn T t) := by
  refine ⟨by unfold turn; rw [if_pos h.1], fun i i0 i1 => ?_⟩
  have := h.2 i i0 i1
  unfold turn
  split <;> omega
theorem turn_in {T : Int} {t : Int → Int} (i : Int) : ∃ m, turn T t i = - t i + m * T := by
  unfold turn
  split
  · exact ⟨0, by omega⟩
  · exact ⟨1, by omega⟩
theorem turn_keeps {T : Int} {t : Int → Int} {r : S_plan_Rule} (h : Keeps T r t) : Keeps T (swap r) (turn T t) := by
  obtain ⟨k, h1, h2⟩ := h
  obtain ⟨a, ha⟩ := turn_in (T := T) (t := t) r.From
  obtain ⟨c, hc⟩ := turn_in (T := T) (t := t) r.To
  refine ⟨k - a + c, ?_⟩
  have e : (k - a + c) * T = k * T - a * T + c * T := by rw [Int.add_mul, Int.sub_mul]
  show r.Min - (k - a + c) * T ≤ turn T t r.From - turn T t r.To ∧ turn T t r.From - turn T t r.To ≤ r.Max - (k - a + c) * T
  rw [e, ha, hc]
  exact ⟨by omega, by omega⟩
theorem turn_all {T : Int} {t : Int → Int} {l : List S_plan_Rule} (h : All T l t) : All T (back l) (turn T t) := fun r hr => by
  obtain ⟨q, hq, rfl⟩ := List.mem_map.1 hr
  exact turn_keeps (h q hq)
theorem back_back (l : List S_plan_Rule) : back (back l) = l := by
  unfold back
  rw [List.map_map]
  have : (swap ∘ swap) = id := by funext r; rfl
  rw [this, List.map_id]
theorem Solve2_ok (p : S_plan_Periodic) (hp : POk p.Period p.Events p.Rules) : Tot (plan_Solve_v2 p) fun r => (r.1 = 9 ∧ r.2 = [] ∧ ∀ t, Ok0 p.Period p.Events t → ¬ All p.Period p.Rules t) ∨
    (r.1 = 0 ∧ (r.2.length : Int) = p.Events ∧ ∃ t, Ok0 p.Period p.Events t ∧ All p.Period p.Rules t ∧ ∀ i, 0 ≤ i → i < p.Events → t i = nth 0 r.2 i) := by
  unfold plan_Solve_v2
  refine tot_bind' (check_ok hp) ?_
  refine tot_ifb (fun q => absurd q (by decide)) fun _ => ?_
  refine tot_bind (solve_ok p hp) fun r _ hr => ?_
  obtain ⟨c, ts⟩ := r
  simp only at hr
  rcases hr with ⟨rfl, h2, h3⟩ | ⟨rfl, h2, h3⟩
  · exact tot_some (.inl ⟨rfl, rfl, h3⟩)
  · exact tot_some (.inr ⟨rfl, h2, h3⟩)
theorem Solve_same (p : S_plan_Periodic) : plan_Solve p.Period p.Events p.Rules = plan_Solve_v2 p := rfl
theorem awake : fishkeep2_awakePlan = some true := by kernel_rfl
theorem periods_ : fishkeep2_periods = some true := by kernel_rfl
theorem law : Go.Proofs.Ytphfhogmpfmpjaa.PlanTurned.PlanTurnedLaw := by
  intro p _
  refine tot_eq (?_ : Tot _ (· = true))
  unfold fishkeep2_PlanTurned
  rw [awake, periods_]
  simp only [Option.bind_some, Bool.not_true, ifb_false]
  refine tot_bind (fault_tot p) fun e _ he => ?_
  refine tot_ifb (fun _ => tot_some rfl) fun q => ?_
  have q : e = 0 := by simpa using q
  have hp := he.1 q
  have T0 := hp.T0; have T1 := hp.T1; have n0 := hp.n0; have n1 := hp.n1; have hll := hp.len
  have hpb : POk (S_plan_Periodic.mk p.Period p.Events (back p.Rules)).Period (S_plan_Periodic.mk p.Period p.Events (back p.Rules)).Events (S_plan_Periodic.mk p.Period p.Events (back p.Rules)).Rules := back_ok hp
  refine tot_loopX (I := fun i s => s = back (p.Rules.take i)) (J := fun s => s = back p.Rules) (E := fun _ => False) rfl (fun i r s hr hI => ?_) (fun s hI => by rw [hI, List.take_length]) (fun s hJ => ?_) (fun y _ => y.elim)
  · subst hI
    have hi := (List.getElem?_eq_some_iff.1 hr).1
    unfold fishkeep2_PlanTurned_b1
    refine tot_bind' (gapp_eq (by simp [back]; have : (5000 : Nat) ≤ apRoom := (by decide); omega) (by simp [back]; have : (1000 : Nat) ≤ maxLen := (by decide); omega)) ?_
    refine tot_some ?_
    show back (p.Rules.take i) ++ [swap r] = back (p.Rules.take (i + 1))
    unfold back
    rw [List.take_add_one, hr]
    simp
  subst hJ
  refine tot_bind (Solve2_ok p hp) fun r1 _ h1 => ?_
  obtain ⟨e1, t1⟩ := r1
  rw [show plan_Solve p.Period p.Events (back p.Rules) = plan_Solve_v2 ⟨p.Period, p.Events, back p.Rules⟩ from rfl]
  refine tot_bind (Solve2_ok ⟨p.Period, p.Events, back p.Rules⟩ hpb) fun r2 _ h2 => ?_
  obtain ⟨e2, t2⟩ := r2
  simp only at h1 h2
  have hee : e1 = e2 := by
    rcases h1 with ⟨a1, _, a3⟩ | ⟨a1, a2, t, a3, a4, _⟩ <;> rcases h2 with ⟨b1, _, b3⟩ | ⟨b1, b2, t', b3, b4, _⟩
    · rw [a1, b1]
    · have := turn_all b4
      rw [back_back] at this
      exact absurd this (a3 _ (turn_ok T0 b3))
    · exact absurd (turn_all a4) (b3 _ (turn_ok T0 a3))
    · rw [a1, b1]
  refine tot_ifb (fun q => ?_) fun _ => ?_
  · have q : e1 ≠ e2 := by simpa using q
    exact absurd hee q
  refine tot_loopN (I := fun i s => s.length = t1.length ∧ (e1 = 0 → ∀ j : Int, 0 ≤ j → j < p.Events → nth 0 s j = if j < (i : Int) then turn p.Period (nth 0 t1) j else nth 0 t1 j)) (J := fun s => s.length = t1.length ∧ (e1 = 0 → ∀ j : Int, 0 ≤ j → j < p.Events → nth 0 s j = turn p.Period (nth 0 t1) j)) (E := fun _ => False)
    ⟨rfl, fun _ j j0 j1 => by rw [if_neg (by omega)]⟩ (fun i s hi hI => ?_) (fun s hI => ⟨hI.1, fun h j j0 j1 => ?_⟩) (fun s hJ => ?_) (fun y _ => y.elim)
  · have hi : i < t1.length := hi
    obtain ⟨i1, i2⟩ := hI
    rcases h1 with ⟨a1, a2, _⟩ | ⟨a1, a2, t, a3, a4, a5⟩
    · rw [a2] at hi; simp at hi
    have hb : ∀ j, 0 ≤ j → j < p.Events → 0 ≤ nth 0 t1 j ∧ nth 0 t1 j ≤ p.Period - 1 := fun j j0 j1 => by rw [← a5 j j0 j1]; exact a3.2 j j0 j1
    have ev := i2 a1 (i : Int) (by omega) (by omega)
    rw [if_neg (by omega)] at ev
    have hbi := hb i (by omega) (by omega)
    unfold fishkeep2_PlanTurned_b2
    refine tot_bind' (idx_nth 0 (by omega) (by omega)) ?_
    rw [ev, w64_id (x := p.Period - nth 0 t1 (i : Int)) (by omega) (by omega)]
    have eg : gremK (p.Period - nth 0 t1 (i : Int)) p.Period = some (turn p.Period (nth 0 t1) i) := by
      unfold gremK turn
      rw [if_neg (by omega)]
      by_cases z : nth 0 t1 (i : Int) = 0
      · rw [if_pos z, z, Int.sub_zero, Int.tmod_self]
      · rw [if_neg z, Int.tmod_eq_of_lt (by omega) (by omega)]
    refine tot_bind' eg ?_
    refine tot_bind' (idx_nth 0 (by omega) (by omega)) ?_
    refine tot_some ⟨by rw [setI_length]; exact i1, fun h j j0 j1 => ?_⟩
    rw [nth_setI 0 (by omega) j0 (by omega)]
    by_cases z : j = i
    · subst z
      rw [if_pos rfl, if_pos (by omega)]
    · rw [if_neg z, i2 h j j0 j1]
      by_cases z2 : j < (i : Int)
      · rw [if_pos z2, if_pos (by omega)]
      · rw [if_neg z2, if_neg (by omega)]
  · rcases h1 with ⟨a1, a2, _⟩ | ⟨a1, a2, t, a3, a4, a5⟩
    · rw [a1] at h; cases h
    rw [hI.2 h j j0 j1, if_pos (show j < (t1.length : Int) by omega)]
  · obtain ⟨j1, j2⟩ := hJ
    refine tot_bind (P := fun b => b = true) ?_ fun b _ hb => tot_some hb
    refine tot_ifb (fun _ => tot_some rfl) fun q => ?_
    have q : e1 = 0 := by simpa using q
    rcases h1 with ⟨a1, _, _⟩ | ⟨a1, a2, t, a3, a4, a5⟩
    · rw [q] at a1; cases a1
    have j2 := j2 q
    have hb : ∀ j, 0 ≤ j → j < p.Events → 0 ≤ nth 0 t1 j ∧ nth 0 t1 j ≤ p.Period - 1 := fun j j0 j1 => by rw [← a5 j j0 j1]; exact a3.2 j j0 j1
    have hbs : ∀ j, 0 ≤ j → j < p.Events → 0 ≤ nth 0 s j ∧ nth 0 s j ≤ p.Period - 1 := fun j j0 j1 => by
      rw [j2 j j0 j1]
      have := hb j j0 j1
      unfold turn
      split <;> omega
    have htf : fishref2_TimesFault ⟨p.Period, p.Events, back p.Rules⟩ s = some 0 := by
      refine tot_eq (?_ : Tot _ (· = (0 : Int)))
      unfold fishref2_TimesFault
      refine tot_bind' (fault_ok hpb) ?_
      refine tot_ifb (fun q => absurd q (by decide)) fun _ => ?_
      refine tot_ifb (fun q => ?_) fun _ => ?_
      · have q : (s.length : Int) ≠ p.Events := by simpa using q
        omega
      refine tot_allX (P := fun _ _ => True) (E := fun _ => False) (fun i v hv => ?_) (fun _ => tot_some rfl) (fun y hy => hy.elim)
      have hi := (List.getElem?_eq_some_iff.1 hv).1
      have hbv := hbs i (by omega) (by omega)
      rw [nth_nat 0 hv] at hbv
      unfold fishref2_TimesFault_b1
      dsimp only
      rw [w64_id (x := p.Period - 1) (by omega) (by omega), within_eq, decide_eq_true hbv]
      exact tot_some trivial
    refine tot_bind' htf ?_
    refine tot_ifb (fun _ => ?_) fun q => absurd q (by decide)
    refine tot_bind (P := fun k => k = -1) ?_ fun k _ hk => by subst hk; exact tot_some rfl
    unfold fishref2_BrokenOf slices_IndexFunc_plan_Rule_plan_Rule
    refine tot_bind (P := fun k => k = -1) ?_ fun k _ hk => tot_some hk
    refine tot_allX (P := fun _ _ => True) (E := fun _ => False) (fun i r hr => ?_) (fun _ => tot_some rfl) (fun y hy => hy.elim)
    have hrm := List.mem_of_getElem? hr
    obtain ⟨k, hk⟩ := turn_all a4 r hrm
    have hro := hpb.all r hrm
    have et : ∀ j, 0 ≤ j → j < p.Events → turn p.Period t j = nth 0 s j := fun j j0 j1 => by
      rw [j2 j j0 j1]; unfold turn; rw [a5 j j0 j1]
    rw [et r.To hro.t0 hro.t1, et r.From hro.f0 hro.f1] at hk
    unfold slices_IndexFunc_plan_Rule_plan_Rule_b1 fishref2_BrokenOf_1
    simp only [Option.bind_some]
    refine tot_bind (P := fun b => b = false) ?_ fun b _ hb => by subst hb; exact tot_some trivial
    refine tot_bind (gap_ok hpb hrm (by show (s.length : Int) = p.Events; omega) hbs hk) fun g _ hg => ?_
    exact tot_some (decide_eq_false (by omega))
end Pt
namespace Go.Proofs.Ytphfhogmpfmpjaa
theorem planTurned_proved : Rows.PlanTurnedSaid := PlanTurned.close Pt.law
end Go.Proofs.Ytphfhogmpfmpjaa
