/- What the checks say, and gaps. -/
import Derived.Test.YtphfhogmpfmpjaaZ1
set_option linter.unusedVariables false
set_option linter.unusedSimpArgs false
set_option maxRecDepth 100000
namespace Pt
open Go Hk Hd Pl

theorem within_eq (a b c : Int) : fishref2_within a b c = some (decide (b ≤ a ∧ a ≤ c)) := by
  unfold fishref2_within
  by_cases h : b ≤ a
  · rw [show decide (a ≥ b) = true from decide_eq_true h, ifb_true]; simp [h]
  · rw [show decide (a ≥ b) = false from decide_eq_false h, ifb_false]; simp [h]
theorem within_eq' (a b c : Int) : plan_within a b c = some (decide (b ≤ a ∧ a ≤ c)) := within_eq a b c
def Head (p : S_plan_Periodic) : Prop := (2 ≤ p.Period ∧ p.Period ≤ 3600) ∧ 1 ≤ p.Events ∧ p.Events ≤ 8
theorem rule_tot {p : S_plan_Periodic} (hp : Head p) (i : Nat) (r : S_plan_Rule) : Tot (fishref2_PeriodicFault_b1 p i r ()) (fun c => match c with | .go _ => ROk p.Period p.Events r | .out (.go _) => False | .out (.out y) => y ≠ 0 ∧ ¬ ROk p.Period p.Events r) := by
  obtain ⟨⟨T0, T1⟩, n0, n1⟩ := hp
  unfold fishref2_PeriodicFault_b1
  rw [w64_id (x := p.Events - 1) (by omega) (by omega)]
  simp only [within_eq, Option.bind_some]
  by_cases q1 : 0 ≤ r.From ∧ r.From ≤ p.Events - 1
  · rw [decide_eq_true q1]
    simp only [Bool.not_true, ifb_false, Option.bind_some]
    by_cases q2 : 0 ≤ r.To ∧ r.To ≤ p.Events - 1
    · rw [decide_eq_true q2]
      simp only [Bool.not_true, ifb_false]
      by_cases q3 : r.From = r.To
      · rw [show (r.From == r.To) = true by simpa using q3]
        exact tot_some ⟨by decide, fun h => h.ne q3⟩
      · rw [show (r.From == r.To) = false by simpa using q3]
        simp only [ifb_false]
        by_cases q4 : 0 ≤ r.Min ∧ r.Min ≤ 3600
        · rw [decide_eq_true q4]
          simp only [Bool.not_true, ifb_false]
          by_cases q5 : r.Max < r.Min
          · rw [decide_eq_true q5]
            exact tot_some ⟨by decide, fun h => by have := h.x0; omega⟩
          · rw [decide_eq_false q5]
            simp only [ifb_false]
            rw [w64_id (x := r.Min + p.Period) (by omega) (by omega), w64_id (x := r.Min + p.Period - 1) (by omega) (by omega)]
            by_cases q6 : r.Max > r.Min + p.Period - 1
            · rw [decide_eq_true q6]
              exact tot_some ⟨by decide, fun h => by have := h.x1; omega⟩
            · rw [decide_eq_false q6]
              simp only [ifb_false]
              by_cases q7 : 0 ≤ r.Weight ∧ r.Weight ≤ 1000
              · rw [decide_eq_true q7]
                exact tot_some ⟨q1.1, by omega, q2.1, by omega, q3, q4.1, q4.2, by omega, by omega, q7.1, q7.2⟩
              · rw [decide_eq_false q7]
                exact tot_some ⟨by decide, fun h => q7 ⟨h.w0, h.w1⟩⟩
        · rw [decide_eq_false q4]
          exact tot_some ⟨by decide, fun h => q4 ⟨h.m0, h.m1⟩⟩
    · rw [decide_eq_false q2]
      exact tot_some ⟨by decide, fun h => q2 ⟨h.t0, by have := h.t1; omega⟩⟩
  · rw [decide_eq_false q1]
    exact tot_some ⟨by decide, fun h => q1 ⟨h.f0, by have := h.f1; omega⟩⟩
theorem fault_tot (p : S_plan_Periodic) : Tot (fishref2_PeriodicFault p) fun e => e = 0 ↔ POk p.Period p.Events p.Rules := by
  unfold fishref2_PeriodicFault
  refine tot_bind (P := fun c : Bool => c = false ↔ Head p) ?_ fun c _ hc => ?_
  · rw [within_eq, within_eq]
    simp only [Option.bind_some]
    by_cases q1 : 2 ≤ p.Period ∧ p.Period ≤ 3600
    · rw [decide_eq_true q1]
      simp only [Bool.not_true, ifb_false]
      refine tot_some ?_
      by_cases q2 : 1 ≤ p.Events ∧ p.Events ≤ 8
      · rw [decide_eq_true q2]; exact ⟨fun _ => ⟨q1, q2⟩, fun _ => rfl⟩
      · rw [decide_eq_false q2]; exact ⟨fun e => (by cases e), fun h => absurd h.2 q2⟩
    · rw [decide_eq_false q1]; exact tot_some ⟨fun e => (by cases e), fun h => absurd h.1 q1⟩
  refine tot_ifb (fun q => ?_) fun q => ?_
  · exact tot_some ⟨fun e => (by cases e), fun h => by rw [hc.2 ⟨⟨h.T0, h.T1⟩, h.n0, h.n1⟩] at q; cases q⟩
  have hh := hc.1 q
  refine tot_ifb (fun q => ?_) fun q => ?_
  · have q := of_decide_eq_true q
    exact tot_some ⟨fun e => (by cases e), fun h => by have := h.len; omega⟩
  have q := of_decide_eq_false q
  refine tot_allX (P := fun _ r => ROk p.Period p.Events r) (E := fun y => y ≠ 0 ∧ ¬ POk p.Period p.Events p.Rules) (fun i r hr => ?_) (fun hall => ?_) fun y hy => tot_some ⟨fun e => absurd e hy.1, fun h => absurd h hy.2⟩
  · refine tot_mono (rule_tot hh i r) fun c hc => ?_
    rcases c with _ | (_ | y)
    · exact hc
    · exact hc.elim
    · exact ⟨hc.1, fun h => hc.2 (h.all r (List.mem_of_getElem? hr))⟩
  · exact tot_some ⟨fun _ => ⟨hh.1.1, hh.1.2, hh.2.1, hh.2.2, by omega, mem_of_all hall⟩, fun _ => rfl⟩
theorem fault_ok {p : S_plan_Periodic} (hp : POk p.Period p.Events p.Rules) : fishref2_PeriodicFault p = some 0 := by
  obtain ⟨e, h1, h2⟩ := fault_tot p
  rw [h1, h2.2 hp]
theorem check_ok {p : S_plan_Periodic} (hp : POk p.Period p.Events p.Rules) : plan_CheckPeriodic p = some 0 := by
  have T0 := hp.T0; have T1 := hp.T1; have n0 := hp.n0; have n1 := hp.n1; have hl := hp.len
  refine tot_eq (?_ : Tot _ (· = (0 : Int)))
  unfold plan_CheckPeriodic
  rw [within_eq', within_eq', decide_eq_true (⟨T0, T1⟩ : 2 ≤ p.Period ∧ p.Period ≤ 3600), decide_eq_true (⟨n0, n1⟩ : 1 ≤ p.Events ∧ p.Events ≤ 8)]
  simp only [Option.bind_some, Bool.not_true, ifb_false]
  refine tot_ifb (fun q => ?_) fun _ => ?_
  · have q := of_decide_eq_true q
    omega
  refine tot_allX (P := fun _ _ => True) (E := fun _ => False) (fun i r hr => ?_) (fun _ => tot_some rfl) fun y hy => hy.elim
  have h := hp.all r (List.mem_of_getElem? hr)
  have a1 := h.f0; have a2 := h.f1; have a3 := h.t0; have a4 := h.t1; have a5 := h.m0; have a6 := h.m1; have a7 := h.x0; have a8 := h.x1; have a9 := h.w0; have a10 := h.w1
  unfold plan_CheckPeriodic_b1
  rw [w64_id (x := p.Events - 1) (by omega) (by omega), w64_id (x := r.Min + p.Period) (by omega) (by omega), w64_id (x := r.Min + p.Period - 1) (by omega) (by omega)]
  simp only [within_eq', Option.bind_some]
  rw [decide_eq_true (by omega : 0 ≤ r.From ∧ r.From ≤ p.Events - 1), decide_eq_true (by omega : 0 ≤ r.To ∧ r.To ≤ p.Events - 1), decide_eq_true (by omega : 0 ≤ r.Min ∧ r.Min ≤ 3600), decide_eq_true (by omega : r.Min ≤ r.Max ∧ r.Max ≤ r.Min + p.Period - 1), decide_eq_true (by omega : 0 ≤ r.Weight ∧ r.Weight ≤ 1000)]
  simp only [Bool.not_true, ifb_false, Option.bind_some]
  rw [show (r.From == r.To) = false by simpa using h.ne]
  exact tot_some trivial
theorem emod_uniq {a T c x : Int} (h : a = c * T + x) (h0 : 0 ≤ x) (h1 : x < T) : a % T = x := by
  rw [h, Int.add_comm, Int.add_mul_emod_self_right, Int.emod_eq_of_lt h0 h1]
/-- by how much a gap is above the least one -/
def gv (T : Int) (r : S_plan_Rule) (t : Int → Int) : Int := (t r.To - t r.From - r.Min) % T
theorem gv_bd {T : Int} (hT : 1 ≤ T) (r : S_plan_Rule) (t : Int → Int) : 0 ≤ gv T r t ∧ gv T r t < T := ⟨Int.emod_nonneg _ (by omega), Int.emod_lt_of_pos _ (by omega)⟩
theorem gv_in {T n k : Int} {r : S_plan_Rule} {t : Int → Int} (hr : ROk T n r) (h : In T r k (t r.To - t r.From)) : gv T r t = t r.To - t r.From + k * T - r.Min := by
  have x1 := hr.x1
  obtain ⟨h1, h2⟩ := h
  refine emod_uniq (c := -k) ?_ (by omega) (by omega)
  rw [Int.neg_mul]; omega
theorem gv_keeps {T n : Int} {r : S_plan_Rule} {t : Int → Int} (hT : 1 ≤ T) (hr : ROk T n r) : Keeps T r t ↔ r.Min + gv T r t ≤ r.Max := by
  constructor
  · rintro ⟨k, h⟩
    rw [gv_in hr h]
    have := h.2
    omega
  · intro h
    have e := Int.mul_ediv_add_emod (t r.To - t r.From - r.Min) T
    have b := gv_bd hT r t
    refine ⟨-((t r.To - t r.From - r.Min) / T), ?_⟩
    unfold gv at h b
    have c : -((t r.To - t r.From - r.Min) / T) * T = -(T * ((t r.To - t r.From - r.Min) / T)) := by rw [Int.neg_mul, Int.mul_comm]
    unfold In
    rw [c]
    constructor <;> omega
theorem gv_shift {T m : Int} {r : S_plan_Rule} {t t' : Int → Int} (h : t' r.To - t' r.From = t r.To - t r.From + m * T) : gv T r t' = gv T r t := by
  unfold gv
  rw [h, show t r.To - t r.From + m * T - r.Min = t r.To - t r.From - r.Min + m * T by omega, Int.add_mul_emod_self_right]
theorem tmod_up {a T : Int} (hT : 1 ≤ T) : (if a.tmod T < 0 then a.tmod T + T else a.tmod T) = a % T := by
  have e : T * a.tdiv T + a.tmod T = a := Int.mul_tdiv_add_tmod a T
  have m1 : a.tmod T < T := Int.tmod_lt_of_pos a (by omega)
  have m0 : -T < a.tmod T := by
    have := Int.tmod_lt_of_pos (-a) (b := T) (by omega)
    rw [Int.neg_tmod] at this
    omega
  have hq : T * a.tdiv T = a.tdiv T * T := Int.mul_comm _ _
  symm
  split
  · refine emod_uniq (c := a.tdiv T - 1) ?_ (by omega) (by omega)
    rw [Int.sub_mul, Int.one_mul]; omega
  · exact emod_uniq (c := a.tdiv T) (by omega) (by omega) m1
/-- times of a period, as a list -/
structure Good (p : S_plan_Periodic) (ts : List Int) : Prop where
  len : (ts.length : Int) = p.Events
  bd : ∀ i, 0 ≤ i → i < p.Events → 0 ≤ nth 0 ts i ∧ nth 0 ts i ≤ p.Period - 1
section
variable {p : S_plan_Periodic} {ts : List Int}
theorem pgap_ok (hp : POk p.Period p.Events p.Rules) {r : S_plan_Rule} (hr : r ∈ p.Rules) (hg : Good p ts) : plan_gap p r ts = some (r.Min + gv p.Period r (nth 0 ts)) := by
  have T0 := hp.T0; have T1 := hp.T1; have n0 := hp.n0; have n1 := hp.n1
  have h := hp.all r hr
  have a1 := h.f0; have a2 := h.f1; have a3 := h.t0; have a4 := h.t1; have a5 := h.m0; have a6 := h.m1
  have hl := hg.len
  have c1 := hg.bd r.To a3 a4
  have c2 := hg.bd r.From a1 a2
  have gb := gv_bd (T := p.Period) (by omega) r (nth 0 ts)
  refine tot_eq (?_ : Tot _ (· = r.Min + gv p.Period r (nth 0 ts)))
  unfold plan_gap
  refine tot_bind' (idx_nth 0 (by omega) (by omega)) ?_
  refine tot_bind' (idx_nth 0 (by omega) (by omega)) ?_
  rw [w64_id (x := nth 0 ts r.To - nth 0 ts r.From) (by omega) (by omega), w64_id (x := nth 0 ts r.To - nth 0 ts r.From - r.Min) (by omega) (by omega)]
  have e : gremK (nth 0 ts r.To - nth 0 ts r.From - r.Min) p.Period = some ((nth 0 ts r.To - nth 0 ts r.From - r.Min).tmod p.Period) := by unfold gremK; rw [if_neg (by omega)]
  refine tot_bind' e ?_
  have m1 : (nth 0 ts r.To - nth 0 ts r.From - r.Min).tmod p.Period < p.Period := Int.tmod_lt_of_pos _ (by omega)
  have m0 : -p.Period < (nth 0 ts r.To - nth 0 ts r.From - r.Min).tmod p.Period := by
    have := Int.tmod_lt_of_pos (-(nth 0 ts r.To - nth 0 ts r.From - r.Min)) (b := p.Period) (by omega)
    rw [Int.neg_tmod] at this
    omega
  have u := tmod_up (a := nth 0 ts r.To - nth 0 ts r.From - r.Min) (T := p.Period) (by omega)
  refine tot_bind (P := fun s => s = gv p.Period r (nth 0 ts)) ?_ fun s _ hs => ?_
  · refine tot_ifb (fun q => ?_) fun q => ?_
    · have q := of_decide_eq_true q
      rw [if_pos q] at u
      rw [w64_id (by omega) (by omega)]
      exact tot_some u
    · have q := of_decide_eq_false q
      rw [if_neg q] at u
      exact tot_some u
  · subst hs
    rw [w64_id (by omega) (by omega)]
    exact tot_some rfl
theorem gapOf_ok (hp : POk p.Period p.Events p.Rules) {r : S_plan_Rule} (hr : r ∈ p.Rules) (hg : Good p ts) : Tot (fishref2_GapOf p r ts) fun g => g = r.Min + gv p.Period r (nth 0 ts) := by
  have T0 := hp.T0; have T1 := hp.T1; have n0 := hp.n0; have n1 := hp.n1
  have h := hp.all r hr
  have hl := hg.len
  have a1 := h.f0; have a2 := h.f1; have a3 := h.t0; have a4 := h.t1; have a5 := h.m0; have a6 := h.m1; have a7 := h.x0; have a8 := h.x1
  have c1 := hg.bd r.To a3 a4
  have c2 := hg.bd r.From a1 a2
  unfold fishref2_GapOf
  refine tot_bind' (idx_nth 0 (by omega) (by omega)) ?_
  refine tot_bind' (idx_nth 0 (by omega) (by omega)) ?_
  rw [w64_id (x := nth 0 ts r.To - nth 0 ts r.From) (by omega) (by omega)]
  refine tot_bind (P := fun c => match c with | .go s => r.Min ≤ s ∧ s ≤ 100000 ∧ ∃ m, s = (nth 0 ts r.To - nth 0 ts r.From) + m * p.Period | .out e => False) ?_ fun c _ hc => ?_
  · refine tot_iter (I := fun s => -10000 ≤ s ∧ s ≤ 100000 ∧ ∃ m, s = (nth 0 ts r.To - nth 0 ts r.From) + m * p.Period) (μ := fun s => (100000 - s).toNat) ⟨by omega, by omega, 0, by omega⟩ (by have : 1000000 < bigN := (by decide); omega) ?_
    rintro s ⟨s0, s1, m, hm⟩
    unfold fishref2_GapOf_b1
    refine tot_ifb (fun q => ?_) fun q => ?_
    · have q := of_decide_eq_true q
      rw [w64_id (x := s + p.Period) (by omega) (by omega)]
      exact tot_some ⟨⟨by omega, by omega, m + 1, by rw [Int.add_mul, Int.one_mul]; omega⟩, by omega⟩
    · have q := of_decide_eq_false q
      exact tot_some ⟨by omega, s1, m, hm⟩
  · cases c with
    | out e => exact hc.elim
    | go s =>
      obtain ⟨s0, s1, m, hm⟩ := hc
      simp only [Ctl.on]
      refine tot_bind (P := fun c => match c with | .go s => r.Min ≤ s ∧ s < r.Min + p.Period ∧ ∃ m, s = (nth 0 ts r.To - nth 0 ts r.From) + m * p.Period | .out e => False) ?_ fun c _ hc => ?_
      · refine tot_iter (I := fun s => r.Min ≤ s ∧ s ≤ 100000 ∧ ∃ m, s = (nth 0 ts r.To - nth 0 ts r.From) + m * p.Period) (μ := fun s => s.toNat) ⟨s0, s1, m, hm⟩ (by have : 1000000 < bigN := (by decide); omega) ?_
        rintro s ⟨s0, s1, m, hm⟩
        unfold fishref2_GapOf_b2
        rw [w64_id (x := r.Min + p.Period) (by omega) (by omega)]
        refine tot_ifb (fun q => ?_) fun q => ?_
        · have q := of_decide_eq_true q
          rw [w64_id (x := s - p.Period) (by omega) (by omega)]
          exact tot_some ⟨⟨by omega, by omega, m - 1, by rw [Int.sub_mul, Int.one_mul]; omega⟩, by omega⟩
        · have q := of_decide_eq_false q
          exact tot_some ⟨s0, by omega, m, hm⟩
      · cases c with
        | out e => exact hc.elim
        | go s =>
          obtain ⟨s0, s1, m, hm⟩ := hc
          refine tot_some ?_
          have : gv p.Period r (nth 0 ts) = s - r.Min := emod_uniq (c := -m) (by rw [Int.neg_mul]; omega) (by omega) (by omega)
          omega
theorem timesFault_ok (hp : POk p.Period p.Events p.Rules) : Tot (fishref2_TimesFault p ts) fun e => e = 0 → Good p ts := by
  have T0 := hp.T0; have T1 := hp.T1
  unfold fishref2_TimesFault
  refine tot_bind' (fault_ok hp) ?_
  refine tot_ifb (fun q => absurd q (by decide)) fun _ => ?_
  refine tot_ifb (fun _ => tot_some fun e => (by cases e)) fun q => ?_
  have q : (ts.length : Int) = p.Events := by simpa using q
  refine tot_allX (P := fun _ v => 0 ≤ v ∧ v ≤ p.Period - 1) (E := fun y => y ≠ 0) (fun i v hv => ?_) (fun hall => tot_some fun _ => ⟨q, fun i i0 i1 => ?_⟩) (fun y hy => tot_some fun e => absurd e hy)
  · unfold fishref2_TimesFault_b1
    rw [w64_id (x := p.Period - 1) (by omega) (by omega), within_eq]
    simp only [Option.bind_some]
    refine tot_ifb (fun q => tot_some (show (2 : Int) ≠ 0 by decide)) fun q => tot_some ?_
    simpa using q
  · have hi : i.toNat < ts.length := by omega
    have := hall i.toNat _ (List.getElem?_eq_getElem hi)
    have e : nth 0 ts i = ts[i.toNat] := by unfold nth; rw [List.getElem?_eq_getElem hi]; rfl
    rw [e]; exact this
theorem checkTimes_ok (hp : POk p.Period p.Events p.Rules) (hg : Good p ts) : plan_checkTimes p ts = some 0 := by
  have T0 := hp.T0; have T1 := hp.T1
  have hl := hg.len
  refine tot_eq (?_ : Tot _ (· = (0 : Int)))
  unfold plan_checkTimes
  refine tot_bind' (check_ok hp) ?_
  refine tot_ifb (fun q => absurd q (by decide)) fun _ => ?_
  refine tot_ifb (fun q => ?_) fun _ => ?_
  · have q : (ts.length : Int) ≠ p.Events := by simpa using q
    omega
  refine tot_allX (P := fun _ _ => True) (E := fun _ => False) (fun i v hv => ?_) (fun _ => tot_some rfl) (fun y hy => hy.elim)
  have hi := (List.getElem?_eq_some_iff.1 hv).1
  have hbv := hg.bd i (by omega) (by omega)
  rw [nth_nat 0 hv] at hbv
  unfold plan_checkTimes_b1
  rw [w64_id (x := p.Period - 1) (by omega) (by omega), within_eq', decide_eq_true hbv]
  exact tot_some trivial
theorem brokenOf_ok (hp : POk p.Period p.Events p.Rules) (hg : Good p ts) : Tot (fishref2_BrokenOf p ts) fun c => c < 0 → All p.Period p.Rules (nth 0 ts) := by
  unfold fishref2_BrokenOf slices_IndexFunc_plan_Rule_plan_Rule
  have T0 := hp.T0
  refine tot_bind (P := fun c => c < 0 → All p.Period p.Rules (nth 0 ts)) ?_ fun c _ hc => tot_some hc
  refine tot_allX (P := fun _ r => Keeps p.Period r (nth 0 ts)) (E := fun y => 0 ≤ y) (fun i r hr => ?_) (fun hall => tot_some fun _ => mem_of_all hall) (fun y hy => tot_some fun h => by omega)
  have hrm := List.mem_of_getElem? hr
  unfold slices_IndexFunc_plan_Rule_plan_Rule_b1 fishref2_BrokenOf_1
  simp only [Option.bind_some]
  refine tot_bind (P := fun b => b = decide (r.Min + gv p.Period r (nth 0 ts) > r.Max)) ?_ fun b _ hb => ?_
  · refine tot_bind (gapOf_ok hp hrm hg) fun g _ hg' => ?_
    subst hg'
    exact tot_some rfl
  · subst hb
    refine tot_ifb (fun _ => tot_some (by show (0 : Int) ≤ (i : Int); omega)) fun q => tot_some ?_
    have q := of_decide_eq_false q
    exact (gv_keeps (by omega) (hp.all r hrm)).2 (by omega)
theorem broken_ok (hp : POk p.Period p.Events p.Rules) (hg : Good p ts) (ha : All p.Period p.Rules (nth 0 ts)) : plan_Broken p ts = some (-1, 0) := by
  have T0 := hp.T0
  refine tot_eq (?_ : Tot _ (· = ((-1 : Int), (0 : Int))))
  unfold plan_Broken
  refine tot_bind' (checkTimes_ok hp hg) ?_
  refine tot_ifb (fun q => absurd q (by decide)) fun _ => ?_
  refine tot_bind (P := fun k => k = -1) ?_ fun k _ hk => by subst hk; exact tot_some rfl
  unfold slices_IndexFunc_plan_Rule_plan_Rule_v2
  refine tot_allX (P := fun _ _ => True) (E := fun _ => False) (fun i r hr => ?_) (fun _ => tot_some rfl) (fun y hy => hy.elim)
  have hrm := List.mem_of_getElem? hr
  unfold slices_IndexFunc_plan_Rule_plan_Rule_v2_b1 plan_Broken_1
  simp only [Option.bind_some]
  rw [pgap_ok hp hrm hg]
  simp only [Option.bind_some]
  refine tot_ifb (fun q => ?_) fun _ => tot_some trivial
  have q := of_decide_eq_true q
  have := (gv_keeps (by omega) (hp.all r hrm)).1 (ha r hrm)
  omega
/-- what times cost -/
def costv (T : Int) (t : Int → Int) : List S_plan_Rule → Int
  | [] => 0
  | r :: l => r.Weight * gv T r t + costv T t l
theorem costv_app {T : Int} {t : Int → Int} {r : S_plan_Rule} : ∀ {l : List S_plan_Rule}, costv T t (l ++ [r]) = costv T t l + r.Weight * gv T r t
  | [] => by simp [costv]
  | x :: l => by
    show x.Weight * gv T x t + costv T t (l ++ [r]) = x.Weight * gv T x t + costv T t l + r.Weight * gv T r t
    rw [costv_app]; omega
theorem wgv_bd {T n : Int} {r : S_plan_Rule} (hT : 2 ≤ T) (hT1 : T ≤ 3600) (hr : ROk T n r) (t : Int → Int) : 0 ≤ r.Weight * gv T r t ∧ r.Weight * gv T r t ≤ 3600000 := by
  have b := gv_bd (T := T) (by omega) r t
  have w0 := hr.w0; have w1 := hr.w1
  refine ⟨Int.mul_nonneg w0 b.1, ?_⟩
  have := Int.mul_le_mul w1 (show gv T r t ≤ 3600 by omega) b.1 (by omega)
  omega
theorem costv_bd {T n : Int} (hT : 2 ≤ T) (hT1 : T ≤ 3600) {t : Int → Int} : ∀ {l : List S_plan_Rule}, (∀ r ∈ l, ROk T n r) → 0 ≤ costv T t l ∧ costv T t l ≤ 3600000 * l.length
  | [], _ => by simp [costv]
  | r :: l, h => by
    have h1 := costv_bd hT hT1 (t := t) (l := l) fun r hr => h r (by simp [hr])
    have h2 := wgv_bd hT hT1 (h r (by simp)) t
    simp only [costv, List.length_cons]
    omega
theorem costv_eq {T : Int} {t t' : Int → Int} : ∀ {l : List S_plan_Rule}, (∀ r ∈ l, gv T r t = gv T r t') → costv T t l = costv T t' l
  | [], _ => rfl
  | r :: l, h => by
    simp only [costv]
    rw [h r (by simp), costv_eq fun r hr => h r (by simp [hr])]
theorem cost_ok (hp : POk p.Period p.Events p.Rules) (hg : Good p ts) : plan_Cost p ts = some (costv p.Period (nth 0 ts) p.Rules, 0) := by
  have T0 := hp.T0; have T1 := hp.T1; have hll := hp.len
  refine tot_eq (?_ : Tot _ (· = (costv p.Period (nth 0 ts) p.Rules, (0 : Int))))
  unfold plan_Cost
  refine tot_bind' (checkTimes_ok hp hg) ?_
  refine tot_ifb (fun q => absurd q (by decide)) fun _ => ?_
  refine tot_bind (P := fun k => k = costv p.Period (nth 0 ts) p.Rules) ?_ fun k _ hk => by subst hk; exact tot_some rfl
  unfold plan_cost
  refine tot_loopX (I := fun i s => s = costv p.Period (nth 0 ts) (p.Rules.take i)) (J := fun s => s = costv p.Period (nth 0 ts) p.Rules) (E := fun _ => False) rfl (fun i r s hr hI => ?_) (fun s hI => by rw [hI, List.take_length]) (fun s hJ => tot_some hJ) (fun y _ => y.elim)
  subst hI
  have hrm := List.mem_of_getElem? hr
  have hi := (List.getElem?_eq_some_iff.1 hr).1
  have hro := hp.all r hrm
  have m0 := hro.m0; have m1 := hro.m1
  have b1 := gv_bd (T := p.Period) (by omega) r (nth 0 ts)
  have b2 := wgv_bd T0 T1 hro (nth 0 ts)
  have b3 := costv_bd (n := p.Events) T0 T1 (t := nth 0 ts) (l := p.Rules.take i) fun r hr => hp.all r (List.mem_of_mem_take hr)
  rw [List.length_take] at b3
  unfold plan_cost_b1
  rw [pgap_ok hp hrm hg]
  simp only [Option.bind_some]
  rw [w64_id (x := r.Min + gv p.Period r (nth 0 ts) - r.Min) (by omega) (by omega), show r.Min + gv p.Period r (nth 0 ts) - r.Min = gv p.Period r (nth 0 ts) by omega, w64_id (x := r.Weight * gv p.Period r (nth 0 ts)) (by omega) (by omega), w64_id (by omega) (by omega)]
  refine tot_some ?_
  show _ = costv p.Period (nth 0 ts) (p.Rules.take (i + 1))
  rw [List.take_add_one, hr]
  exact costv_app.symm
end
end Pt

/- Sets of events as numbers; sums of slopes; when times cannot be made cheaper. -/
set_option linter.unusedVariables false
set_option linter.unusedSimpArgs false
set_option maxRecDepth 100000
namespace Pt
open Go Hk Hd Pl

/-- does an event belong to a set? -/
def bt (s i : Int) : Bool := match gshr .i64 s i with | some q => Hd.iand .i64 q 1 == 1 | none => false
def bitsOk (s i : Nat) : Bool := match gshr .i64 (s : Int) (i : Int) with | some q => (Hd.iand .i64 q 1 == 0) == !(Hd.iand .i64 q 1 == 1) | none => false
theorem bits_all : ((List.range 64).all fun s => (List.range 8).all fun i => bitsOk s i) = true := by kernel_rfl
theorem bits {s i : Int} (s0 : 0 ≤ s) (s1 : s < 64) (i0 : 0 ≤ i) (i1 : i < 8) : ∃ q, gshr .i64 s i = some q ∧ (Hd.iand .i64 q 1 == 1) = bt s i ∧ (Hd.iand .i64 q 1 == 0) = !bt s i := by
  have h := List.all_eq_true.1 (List.all_eq_true.1 bits_all s.toNat (by simp; omega)) i.toNat (by simp; omega)
  unfold bitsOk at h
  rw [show ((s.toNat : Nat) : Int) = s by omega, show ((i.toNat : Nat) : Int) = i by omega] at h
  cases hq : gshr .i64 s i with
  | none => rw [hq] at h; cases h
  | some q =>
    rw [hq] at h
    have e : bt s i = (Hd.iand .i64 q 1 == 1) := by unfold bt; rw [hq]
    refine ⟨q, rfl, e.symm, ?_⟩
    rw [e]
    exact eq_of_beq h
def b1 (x : Bool) : Nat := cond x 1 0
def msk (a b c d e : Bool) : Nat := 2 * b1 a + 4 * b1 b + 8 * b1 c + 16 * b1 d + 32 * b1 e
def pick6 (a b c d e : Bool) : Nat → Bool
  | 0 => false
  | 1 => a
  | 2 => b
  | 3 => c
  | 4 => d
  | 5 => e
  | _ => false
theorem msk_bt : ∀ a b c d e : Bool, ((List.range 6).all fun i => bt (msk a b c d e : Nat) (i : Nat) == pick6 a b c d e i) = true := by decide +kernel
theorem msk_lt {N : Nat} (hN : N ≤ 6) : ∀ a b c d e : Bool, msk (a && decide (1 < N)) (b && decide (2 < N)) (c && decide (3 < N)) (d && decide (4 < N)) (e && decide (5 < N)) < 2 ^ N := by
  have : N = 0 ∨ N = 1 ∨ N = 2 ∨ N = 3 ∨ N = 4 ∨ N = 5 ∨ N = 6 := by omega
  rcases this with rfl | rfl | rfl | rfl | rfl | rfl | rfl <;> decide
/-- each set without event 0 is such a number -/
theorem set_of (N : Nat) (hN : N ≤ 6) (X : Nat → Bool) (h0 : X 0 = false) (hx : ∃ i, i < N ∧ X i = true) : ∃ s : Nat, 1 ≤ s ∧ 2 * s < 2 ^ N ∧ ∀ i : Nat, i < N → bt (((2 * s : Nat) : Int)) (i : Int) = X i := by
  have key : ∀ i : Nat, i < N → bt ((msk (X 1 && decide (1 < N)) (X 2 && decide (2 < N)) (X 3 && decide (3 < N)) (X 4 && decide (4 < N)) (X 5 && decide (5 < N)) : Nat) : Int) (i : Int) = X i := fun i hi => by
    have h := List.all_eq_true.1 (msk_bt (X 1 && decide (1 < N)) (X 2 && decide (2 < N)) (X 3 && decide (3 < N)) (X 4 && decide (4 < N)) (X 5 && decide (5 < N))) i (by simp; omega)
    rw [eq_of_beq h]
    have : i = 0 ∨ i = 1 ∨ i = 2 ∨ i = 3 ∨ i = 4 ∨ i = 5 := by omega
    rcases this with rfl | rfl | rfl | rfl | rfl | rfl
    · exact h0.symm
    all_goals simp [pick6, hi]
  generalize hm : msk (X 1 && decide (1 < N)) (X 2 && decide (2 < N)) (X 3 && decide (3 < N)) (X 4 && decide (4 < N)) (X 5 && decide (5 < N)) = m at key
  have hev : ∃ s, m = 2 * s := ⟨b1 (X 1 && decide (1 < N)) + 2 * b1 (X 2 && decide (2 < N)) + 4 * b1 (X 3 && decide (3 < N)) + 8 * b1 (X 4 && decide (4 < N)) + 16 * b1 (X 5 && decide (5 < N)), by rw [← hm]; unfold msk; omega⟩
  obtain ⟨s, hs⟩ := hev
  subst hs
  have hlt : 2 * s < 2 ^ N := hm ▸ msk_lt hN _ _ _ _ _
  refine ⟨s, ?_, hlt, key⟩
  obtain ⟨i, hi, hX⟩ := hx
  rcases Nat.eq_zero_or_pos s with h | h
  · subst h
    have := key i hi
    rw [hX] at this
    have h6 : ((List.range 6).all fun i => bt ((2 * 0 : Nat) : Int) (i : Nat) == false) = true := by decide +kernel
    have h7 := List.all_eq_true.1 h6 i (by simp; omega)
    rw [this] at h7
    cases h7
  · exact h

/-- slopes along a way -/
def dot (sl : List Int) (f : Int → Int) (N : Nat) : Int := sumN (fun i => nth 0 sl (i : Int) * f (i : Int)) N
theorem sumN_sub {f g : Nat → Int} : ∀ {n : Nat}, sumN (fun i => f i - g i) n = sumN f n - sumN g n
  | 0 => rfl
  | n + 1 => by simp only [sumN, sumN_sub]; omega
theorem sumN_add {f g : Nat → Int} : ∀ {n : Nat}, sumN (fun i => f i + g i) n = sumN f n + sumN g n
  | 0 => rfl
  | n + 1 => by simp only [sumN, sumN_add]; omega
theorem sumN_mul {f : Nat → Int} {c : Int} : ∀ {n : Nat}, sumN (fun i => c * f i) n = c * sumN f n
  | 0 => by simp [sumN]
  | n + 1 => by simp only [sumN, sumN_mul]; rw [Int.mul_add]
theorem dot_sub {sl : List Int} {f g : Int → Int} {N : Nat} : dot sl (fun i => f i - g i) N = dot sl f N - dot sl g N := by
  unfold dot
  rw [← sumN_sub]
  exact sumN_eq fun i _ => Int.mul_sub _ _ _
theorem dot_add {sl : List Int} {f g : Int → Int} {N : Nat} : dot sl (fun i => f i + g i) N = dot sl f N + dot sl g N := by
  unfold dot
  rw [← sumN_add]
  exact sumN_eq fun i _ => Int.mul_add _ _ _
theorem dot_mul {sl : List Int} {f : Int → Int} {c : Int} {N : Nat} : dot sl (fun i => c * f i) N = c * dot sl f N := by
  unfold dot
  rw [← sumN_mul]
  exact sumN_eq fun i _ => by rw [← Int.mul_assoc, Int.mul_comm (nth 0 sl _) c, Int.mul_assoc]
theorem dot_congr {sl : List Int} {f g : Int → Int} {N : Nat} (h : ∀ i : Nat, i < N → f i = g i) : dot sl f N = dot sl g N := sumN_eq fun i hi => by rw [h i hi]
theorem dot_zero {sl : List Int} {f : Int → Int} {N : Nat} (h : ∀ i : Nat, i < N → f i = 0) : dot sl f N = 0 := by
  rw [dot_congr (g := fun _ => 0) h]
  unfold dot
  simp only [Int.mul_zero]
  rw [sumN_const]; simp
/-- is an event in a set, as a number -/
def ind (s i : Int) : Int := cond (bt s i) 1 0
/-- how far two events can come nearer -/
def slack (b : List Int) (t : Int → Int) (sign i k : Int) : Int := if sign > 0 then mb b k i - (t i - t k) else mb b i k - (t k - t i)
def signOf (rate : Int) : Int := if rate < 0 then 1 else -1
/-- no set of events can be moved -/
def LocOpt (N : Nat) (b sl : List Int) (t : Int → Int) : Prop := ∀ s : Nat, 1 ≤ s → 2 * s < 2 ^ N → ∃ i k : Nat, i < N ∧ k < N ∧ bt (((2 * s : Nat) : Int)) (i : Int) = true ∧ bt (((2 * s : Nat) : Int)) (k : Int) = false ∧ slack b t (signOf (dot sl (ind ((2 * s : Nat) : Int)) N)) i k ≤ 0
def clamp (c : Nat) (x : Int) : Int := max (-(c : Int)) (min (c : Int) x)
theorem opt_le {N : Nat} {b sl : List Int} {t u : Int → Int} (hN : N ≤ 6) (hN0 : 0 < N) (h : LocOpt N b sl t) (ht : t 0 = 0) (hu : Sol (N : Int) b u) (C : Nat) (hC : ∀ i : Nat, i < N → u i - t i ≤ C ∧ -(C : Int) ≤ u i - t i) : dot sl t N ≤ dot sl u N := by
  have up : ∀ c : Nat, 0 ≤ dot sl (fun i => if u i - t i ≥ (c : Int) + 1 then 1 else 0) N := fun c => by
    by_cases hx : ∃ i : Nat, i < N ∧ decide (u i - t i ≥ (c : Int) + 1) = true
    · obtain ⟨s, s1, s2, hs⟩ := set_of N hN (fun i : Nat => decide (u i - t i ≥ (c : Int) + 1)) (decide_eq_false (by have := hu.z; show ¬ (u (0 : Nat) - t (0 : Nat) ≥ (c : Int) + 1); rw [show ((0 : Nat) : Int) = 0 from rfl]; omega)) hx
      rw [dot_congr (g := ind ((2 * s : Nat) : Int)) fun i hi => by unfold ind; rw [hs i hi]; by_cases q : u i - t i ≥ (c : Int) + 1 <;> simp [q]]
      refine Int.not_lt.1 fun hlt => ?_
      obtain ⟨i, k, hi, hk, b1, b2, h3⟩ := h s s1 s2
      rw [hs i hi] at b1
      rw [hs k hk] at b2
      have b1 := of_decide_eq_true b1
      have b2 := of_decide_eq_false b2
      unfold signOf slack at h3
      rw [if_pos hlt, if_pos (by decide)] at h3
      have := hu.le k i (by omega) (by omega) (by omega) (by omega)
      omega
    · rw [dot_zero fun i hi => if_neg fun q => hx ⟨i, hi, decide_eq_true q⟩]
      exact Int.le_refl _
  have dn : ∀ c : Nat, dot sl (fun i => if u i - t i ≤ -((c : Int) + 1) then 1 else 0) N ≤ 0 := fun c => by
    by_cases hx : ∃ i : Nat, i < N ∧ decide (u i - t i ≤ -((c : Int) + 1)) = true
    · obtain ⟨s, s1, s2, hs⟩ := set_of N hN (fun i : Nat => decide (u i - t i ≤ -((c : Int) + 1))) (decide_eq_false (by have := hu.z; show ¬ (u (0 : Nat) - t (0 : Nat) ≤ -((c : Int) + 1)); rw [show ((0 : Nat) : Int) = 0 from rfl]; omega)) hx
      rw [dot_congr (g := ind ((2 * s : Nat) : Int)) fun i hi => by unfold ind; rw [hs i hi]; by_cases q : u i - t i ≤ -((c : Int) + 1) <;> simp [q]]
      refine Int.not_lt.1 fun hlt => ?_
      obtain ⟨i, k, hi, hk, b1, b2, h3⟩ := h s s1 s2
      rw [hs i hi] at b1
      rw [hs k hk] at b2
      have b1 := of_decide_eq_true b1
      have b2 := of_decide_eq_false b2
      unfold signOf slack at h3
      rw [if_neg (by omega)] at h3
      have := hu.le i k (by omega) (by omega) (by omega) (by omega)
      omega
    · rw [dot_zero fun i hi => if_neg fun q => hx ⟨i, hi, decide_eq_true q⟩]
      exact Int.le_refl _
  have key : ∀ c : Nat, 0 ≤ dot sl (fun i => clamp c (u i - t i)) N := fun c => by
    induction c with
    | zero =>
      rw [dot_zero fun i hi => by unfold clamp; omega]
      exact Int.le_refl _
    | succ c ih =>
      have e : dot sl (fun i => clamp (c + 1) (u i - t i)) N = dot sl (fun i => clamp c (u i - t i)) N + (dot sl (fun i => if u i - t i ≥ (c : Int) + 1 then 1 else 0) N - dot sl (fun i => if u i - t i ≤ -((c : Int) + 1) then 1 else 0) N) := by
        rw [← dot_sub, ← dot_add]
        refine dot_congr fun i hi => ?_
        show clamp (c + 1) (u i - t i) = clamp c (u i - t i) + ((if u i - t i ≥ (c : Int) + 1 then 1 else 0) - (if u i - t i ≤ -((c : Int) + 1) then 1 else 0))
        unfold clamp
        by_cases q1 : u i - t i ≥ (c : Int) + 1
        · rw [if_pos q1, if_neg (by omega)]; omega
        · rw [if_neg q1]
          by_cases q2 : u i - t i ≤ -((c : Int) + 1)
          · rw [if_pos q2]; omega
          · rw [if_neg q2]; omega
      have := up c
      have := dn c
      omega
  have := key C
  rw [dot_congr (g := fun i => u i - t i) fun i hi => by have := hC i hi; show clamp C (u i - t i) = u i - t i; unfold clamp; omega, dot_sub] at this
  omega
end Pt

/- cheapest: the parts. -/
set_option linter.unusedVariables false
set_option linter.unusedSimpArgs false
set_option maxRecDepth 100000
namespace Pt
open Go Hk Hd Pl

theorem mul_bd {x y A B : Int} (h1 : -A ≤ x) (h2 : x ≤ A) (h3 : -B ≤ y) (h4 : y ≤ B) : -(A * B) ≤ x * y ∧ x * y ≤ A * B := by
  have key : ∀ {x y : Int}, 0 ≤ x → x ≤ A → 0 ≤ y → y ≤ B → 0 ≤ x * y ∧ x * y ≤ A * B := fun a b c d => ⟨Int.mul_nonneg a c, Int.mul_le_mul b d c (by omega)⟩
  rcases Int.le_total 0 x with hx | hx <;> rcases Int.le_total 0 y with hy | hy
  · have := key hx h2 hy h4; omega
  · have := key (x := x) (y := -y) hx h2 (by omega) (by omega); rw [Int.mul_neg] at this; omega
  · have := key (x := -x) (y := y) (by omega) (by omega) hy h4; rw [Int.neg_mul] at this; omega
  · have := key (x := -x) (y := -y) (by omega) (by omega) (by omega) (by omega); rw [Int.neg_mul_neg] at this; omega
theorem shl_ok {N : Nat} (hN : N ≤ 6) : gshl .i64 1 (N : Int) = some ((2 ^ N : Nat) : Int) := by
  have : N = 0 ∨ N = 1 ∨ N = 2 ∨ N = 3 ∨ N = 4 ∨ N = 5 ∨ N = 6 := by omega
  rcases this with rfl | rfl | rfl | rfl | rfl | rfl | rfl <;> exact rfl
theorem pow_le {N : Nat} (hN : N ≤ 6) : 2 ^ N ≤ 64 := by
  have : N = 0 ∨ N = 1 ∨ N = 2 ∨ N = 3 ∨ N = 4 ∨ N = 5 ∨ N = 6 := by omega
  rcases this with rfl | rfl | rfl | rfl | rfl | rfl | rfl <;> decide
theorem pow_even {N : Nat} (h : 1 ≤ N) : ∃ m, 2 ^ N = 2 * m := ⟨2 ^ (N - 1), by rw [show N = (N - 1) + 1 by omega, Nat.pow_succ]; simp; omega⟩
def someBit (N k : Nat) : Bool := (List.range N).any fun i => bt ((2 * k : Nat) : Int) (i : Nat)
theorem bits_some : ((List.range 7).all fun N => (List.range 32).all fun k => Nat.blt k 1 || Nat.ble (2 ^ N) (2 * k) || someBit N k) = true := by kernel_rfl
theorem bit_some {N k : Nat} (hN : N ≤ 6) (h1 : 1 ≤ k) (h2 : 2 * k < 2 ^ N) : ∃ i, i < N ∧ bt ((2 * k : Nat) : Int) (i : Int) = true := by
  have hp := pow_le hN
  have h := List.all_eq_true.1 (List.all_eq_true.1 bits_some N (by simp; omega)) k (by simp; omega)
  have e1 : Nat.blt k 1 = false := by
    cases hb : Nat.blt k 1 with
    | false => rfl
    | true => rw [Nat.blt_eq] at hb; omega
  have e2 : Nat.ble (2 ^ N) (2 * k) = false := by
    cases hb : Nat.ble (2 ^ N) (2 * k) with
    | false => rfl
    | true => have := Nat.le_of_ble_eq_true hb; omega
  rw [e1, e2] at h
  obtain ⟨i, hi, hb⟩ := List.any_eq_true.1 h
  exact ⟨i, by simpa using hi, hb⟩
theorem bit0 : ((List.range 32).all fun k => bt ((2 * k : Nat) : Int) (0 : Nat) == false) = true := by kernel_rfl
theorem bit_0 {k : Nat} (h : k < 32) : bt ((2 * k : Nat) : Int) 0 = false := eq_of_beq (List.all_eq_true.1 bit0 k (by simp; omega))
theorem ind_t {s i : Int} (h : bt s i = true) : ind s i = 1 := by unfold ind; rw [h]; rfl
theorem ind_f {s i : Int} (h : bt s i = false) : ind s i = 0 := by unfold ind; rw [h]; rfl
theorem ind_01 (s i : Int) : 0 ≤ ind s i ∧ ind s i ≤ 1 := by unfold ind; cases bt s i <;> decide
section
variable {T : Int} {N : Nat} {rules : List S_plan_Rule} {b t sl : List Int} {s : Int}
/-- times within bounds -/
structure In6 (N : Nat) (b t : List Int) : Prop where
  cl : Cl (N : Int) b
  n0 : 1 ≤ N
  n6 : N ≤ 6
  len : t.length = N
  sol : Sol (N : Int) b (nth 0 t)
  bd : ∀ i : Int, 0 ≤ i → i < N → 0 ≤ nth 0 t i ∧ nth 0 t i ≤ 3600
theorem room_ok {p : S_plan_Periodic} (hT : 2 ≤ p.Period ∧ p.Period ≤ 3600) (h : In6 N b t) (s0 : 0 ≤ s) (s1 : s < 64) (sign : Int) :
    Tot (plan_cheapest_1 s sign (some p) (some t) (some (some b))) fun m => m ≤ 3600 ∧ (∀ i k : Nat, i < N → k < N → bt s i = true → bt s k = false → m ≤ slack b (nth 0 t) sign i k) ∧ (m ≤ 0 → ∃ i k : Nat, i < N ∧ k < N ∧ bt s i = true ∧ bt s k = false ∧ slack b (nth 0 t) sign i k ≤ 0) := by
  have n6 := h.n6; have hl := h.len
  unfold plan_cheapest_1
  simp only [Option.bind_some]
  refine tot_loopN (I := fun i m => m ≤ 3600 ∧ (∀ i' k : Nat, i' < i → k < N → bt s i' = true → bt s k = false → m ≤ slack b (nth 0 t) sign i' k) ∧ (m ≤ 0 → ∃ i k : Nat, i < N ∧ k < N ∧ bt s i = true ∧ bt s k = false ∧ slack b (nth 0 t) sign i k ≤ 0))
    (J := fun m => m ≤ 3600 ∧ (∀ i k : Nat, i < N → k < N → bt s i = true → bt s k = false → m ≤ slack b (nth 0 t) sign i k) ∧ (m ≤ 0 → ∃ i k : Nat, i < N ∧ k < N ∧ bt s i = true ∧ bt s k = false ∧ slack b (nth 0 t) sign i k ≤ 0)) (E := fun _ => False)
    ⟨hT.2, fun i k hi => by omega, fun h => by omega⟩ (fun i m hi hI => ?_) (fun m hI => ⟨hI.1, fun i k hi => hI.2.1 i k (by omega), hI.2.2⟩) (fun m hJ => tot_some hJ) (fun y _ => y.elim)
  unfold plan_cheapest_1_b1
  simp only [Option.bind_some]
  refine tot_loopN (I := fun k m => m ≤ 3600 ∧ (∀ i' k' : Nat, i' < i ∧ k' < N ∨ i' = i ∧ k' < k → bt s i' = true → bt s k' = false → m ≤ slack b (nth 0 t) sign i' k') ∧ (m ≤ 0 → ∃ i k : Nat, i < N ∧ k < N ∧ bt s i = true ∧ bt s k = false ∧ slack b (nth 0 t) sign i k ≤ 0))
    (J := fun m => m ≤ 3600 ∧ (∀ i' k : Nat, i' < i + 1 → k < N → bt s i' = true → bt s k = false → m ≤ slack b (nth 0 t) sign i' k) ∧ (m ≤ 0 → ∃ i k : Nat, i < N ∧ k < N ∧ bt s i = true ∧ bt s k = false ∧ slack b (nth 0 t) sign i k ≤ 0)) (E := fun _ => False)
    ⟨hI.1, fun i' k' hik => hI.2.1 i' k' (by omega) (by omega), hI.2.2⟩ (fun k m hk hI => ?_) (fun m hI => ⟨hI.1, fun i' k hi' hk => hI.2.1 i' k (by omega), hI.2.2⟩) (fun m hJ => tot_some hJ) (fun y _ => y.elim)
  obtain ⟨m1, m2, m3⟩ := hI
  have hi : i < N := by omega
  have hk : k < N := by omega
  obtain ⟨q1, e1, e2, e3⟩ := bits (s := s) (i := (i : Int)) s0 s1 (by omega) (by omega)
  obtain ⟨q2, e4, e5, e6⟩ := bits (s := s) (i := (k : Int)) s0 s1 (by omega) (by omega)
  have b1 := h.cl.up i k (by omega) (by omega) (by omega) (by omega)
  have b2 := h.cl.lo (i := (i : Int)) (k := (k : Int)) (by omega) (by omega) (by omega) (by omega)
  have b3 := h.cl.up k i (by omega) (by omega) (by omega) (by omega)
  have b4 := h.cl.lo (i := (k : Int)) (k := (i : Int)) (by omega) (by omega) (by omega) (by omega)
  have c1 := h.bd i (by omega) (by omega)
  have c2 := h.bd k (by omega) (by omega)
  have g1 := gix_eq (m := 8) (i := (i : Int)) (by omega) (by omega)
  have g2 := gix_eq (m := 8) (i := (k : Int)) (by omega) (by omega)
  have f1 := mb_idx (b := b) (i := (i : Int)) (k := (k : Int)) h.cl.len (by omega) (by omega) (by omega) (by omega)
  have f2 := mb_idx (b := b) (i := (k : Int)) (k := (i : Int)) h.cl.len (by omega) (by omega) (by omega) (by omega)
  have i1 : idx t (i : Int) = some (nth 0 t i) := idx_nth 0 (by omega) (by omega)
  have i2 : idx t (k : Int) = some (nth 0 t k) := idx_nth 0 (by omega) (by omega)
  unfold plan_cheapest_1_b2
  refine tot_bind (P := fun c => c = (bt s i && !bt s k)) ?_ fun c _ hc => ?_
  · refine tot_bind' e1 ?_
    rw [e2]
    refine tot_ifb (fun q => ?_) fun q => ?_
    · refine tot_bind' e4 ?_
      rw [e6, q]; exact tot_some rfl
    · rw [q]; exact tot_some rfl
  subst hc
  have fin : ∀ x : Int, x = slack b (nth 0 t) sign i k → bt s i = true → bt s k = false → (gmin m x ≤ 3600 ∧ (∀ i' k' : Nat, i' < i ∧ k' < N ∨ i' = i ∧ k' < k + 1 → bt s i' = true → bt s k' = false → gmin m x ≤ slack b (nth 0 t) sign i' k') ∧ (gmin m x ≤ 0 → ∃ i k : Nat, i < N ∧ k < N ∧ bt s i = true ∧ bt s k = false ∧ slack b (nth 0 t) sign i k ≤ 0)) := by
    intro x hx hbi hbk
    rw [gmin_eq]
    refine ⟨by omega, fun i' k' hik h1 h2 => ?_, fun hm => ?_⟩
    · by_cases e : i' = i ∧ k' = k
      · obtain ⟨rfl, rfl⟩ := e
        rw [← hx]; omega
      · have := m2 i' k' (by omega) h1 h2
        omega
    · by_cases e : m ≤ 0
      · exact m3 e
      · exact ⟨i, k, hi, hk, hbi, hbk, by omega⟩
  refine tot_ifb (fun q => ?_) fun q => ?_
  · simp only [Bool.and_eq_true, Bool.not_eq_true'] at q
    refine tot_ifb (fun q2 => ?_) fun q2 => ?_
    · have q2 := of_decide_eq_true q2
      simp only [Option.bind_some, g1, g2, f2, i1, i2]
      rw [w64_id (x := nth 0 t i - nth 0 t k) (by omega) (by omega), w64_id (by omega) (by omega)]
      exact tot_some (fin _ (by unfold slack; rw [if_pos q2]) q.1 q.2)
    · have q2 := of_decide_eq_false q2
      simp only [Option.bind_some, g1, g2, f1, i1, i2]
      rw [w64_id (x := nth 0 t k - nth 0 t i) (by omega) (by omega), w64_id (by omega) (by omega)]
      exact tot_some (fin _ (by unfold slack; rw [if_neg q2]) q.1 q.2)
  · refine tot_some ⟨m1, fun i' k' hik h1 h2 => ?_, m3⟩
    by_cases e : i' = i ∧ k' = k
    · obtain ⟨rfl, rfl⟩ := e
      rw [h1, h2] at q; cases q
    · exact m2 i' k' (by omega) h1 h2
/-- slopes are small -/
structure Sl (N : Nat) (sl : List Int) : Prop where
  len : sl.length = N
  bd : ∀ i : Int, 0 ≤ i → i < N → -40000 ≤ nth 0 sl i ∧ nth 0 sl i ≤ 40000
theorem dot_bd (h : Sl N sl) : ∀ k : Nat, k ≤ N → -(40000 * (k : Int)) ≤ dot sl (ind s) k ∧ dot sl (ind s) k ≤ 40000 * (k : Int)
  | 0, _ => by simp [dot, sumN]
  | k + 1, hk => by
    have ih := dot_bd h k (by omega)
    have b := h.bd k (by omega) (by omega)
    have e : dot sl (ind s) (k + 1) = dot sl (ind s) k + nth 0 sl k * ind s k := rfl
    rw [e]
    cases hb : bt s (k : Int) with
    | true => rw [ind_t hb]; omega
    | false => rw [ind_f hb]; omega
theorem rate_ok {s25 : List Int × Int} {s42 : Bool × Int × List Int × Int} (h : Sl N s25.1) (n6 : N ≤ 6) (s0 : 0 ≤ s42.2.1) (s1 : s42.2.1 < 64) (hl : s42.2.2.1.length = N) {β : Type} {F : Int → Option β} {H : Empty → Option β} {Q : β → Prop} (hF : Tot (F (dot s25.1 (ind s42.2.1) N)) Q) :
    Tot ((forN (plan_cheapest_b5 s25 s42) s42.2.2.1.length 0).bind fun c => Ctl.on c F H) Q := by
  rw [hl]
  refine tot_loopN (I := fun i m => m = dot s25.1 (ind s42.2.1) i) (J := fun m => m = dot s25.1 (ind s42.2.1) N) (E := fun _ => False) rfl (fun i m hi hI => ?_) (fun m hI => hI) (fun m hJ => by rw [hJ]; exact hF) (fun y _ => y.elim)
  subst hI
  obtain ⟨q1, e1, e2, e3⟩ := bits (s := s42.2.1) (i := (i : Int)) s0 s1 (by omega) (by omega)
  have hb := h.bd i (by omega) (by omega)
  have hd := dot_bd (s := s42.2.1) h i (by omega)
  have hsl := h.len
  have e : dot s25.1 (ind s42.2.1) (i + 1) = dot s25.1 (ind s42.2.1) i + nth 0 s25.1 i * ind s42.2.1 i := rfl
  unfold plan_cheapest_b5
  refine tot_bind' e1 ?_
  rw [e2]
  refine tot_ifb (fun q => ?_) fun q => ?_
  · refine tot_bind' (idx_nth 0 (by omega) (by omega)) ?_
    rw [w64_id (by omega) (by omega)]
    refine tot_some ?_
    show _ = dot s25.1 (ind s42.2.1) (i + 1)
    rw [e, ind_t q, Int.mul_one]
  · refine tot_some ?_
    show _ = dot s25.1 (ind s42.2.1) (i + 1)
    rw [e, ind_f q, Int.mul_zero, Int.add_zero]
theorem move_ok {by_ sum : Int} (h : Sl N sl) (n6 : N ≤ 6) (s0 : 0 ≤ s) (s1 : s < 64) (hl : t.length = N) (hb : ∀ i : Int, 0 ≤ i → i < N → 0 ≤ nth 0 t i ∧ nth 0 t i ≤ 3600) (y0 : -3600 ≤ by_) (y1 : by_ ≤ 3600) (u0 : 0 ≤ sum) (u1 : sum ≤ 200000000) :
    Tot (plan_cheapest_2_v2 s by_ t sum sl) fun r => r.1.length = N ∧ (∀ i : Int, 0 ≤ i → i < N → nth 0 r.1 i = nth 0 t i + by_ * ind s i) ∧ r.2 = sum + by_ * dot sl (ind s) N := by
  unfold plan_cheapest_2_v2
  rw [hl]
  refine tot_loopN (I := fun k r => r.1.length = N ∧ (∀ i : Int, 0 ≤ i → i < N → nth 0 r.1 i = nth 0 t i + if i < (k : Int) then by_ * ind s i else 0) ∧ r.2 = sum + by_ * dot sl (ind s) k) (J := fun r => r.1.length = N ∧ (∀ i : Int, 0 ≤ i → i < N → nth 0 r.1 i = nth 0 t i + by_ * ind s i) ∧ r.2 = sum + by_ * dot sl (ind s) N) (E := fun _ => False)
    ⟨hl, fun i i0 i1 => by rw [if_neg (by omega), Int.add_zero], by simp [dot, sumN]⟩ (fun k r hk hI => ?_) (fun r hI => ⟨hI.1, fun i i0 i1 => by rw [hI.2.1 i i0 i1, if_pos i1], hI.2.2⟩) (fun r hJ => tot_some hJ) (fun y _ => y.elim)
  obtain ⟨t', s'⟩ := r
  obtain ⟨l1, l2, l3⟩ := hI
  simp only at l1 l2 l3
  obtain ⟨q1, e1, e2, e3⟩ := bits (s := s) (i := (k : Int)) s0 s1 (by omega) (by omega)
  have hbk := h.bd k (by omega) (by omega)
  have hd := dot_bd (s := s) h k (by omega)
  have hd' := dot_bd (s := s) h (k + 1) (by omega)
  have hsl := h.len
  have htk := hb k (by omega) (by omega)
  have e : dot sl (ind s) (k + 1) = dot sl (ind s) k + nth 0 sl k * ind s k := rfl
  have m1 := mul_bd (x := by_) (y := nth 0 sl k) y0 y1 hbk.1 hbk.2
  have m2 := mul_bd (x := by_) (y := dot sl (ind s) k) y0 y1 (B := 40000 * 6) (by omega) (by omega)
  have ek := l2 k (by omega) (by omega)
  rw [if_neg (by omega), Int.add_zero] at ek
  unfold plan_cheapest_2_v2_b1
  refine tot_bind' e1 ?_
  rw [e2]
  refine tot_ifb (fun q => ?_) fun q => ?_
  · refine tot_bind' (idx_nth 0 (by omega) (by simp only; omega)) ?_
    refine tot_bind' (idx_nth 0 (by omega) (by simp only; omega)) ?_
    refine tot_bind' (idx_nth 0 (by omega) (by omega)) ?_
    simp only
    rw [ek, w64_id (x := nth 0 t (k : Int) + by_) (by omega) (by omega), w64_id (x := by_ * nth 0 sl (k : Int)) (by omega) (by omega), l3, w64_id (by omega) (by omega)]
    refine tot_some ⟨by rw [setI_length]; exact l1, fun i i0 i1 => ?_, ?_⟩
    · rw [nth_setI 0 (by omega) (by omega) (by omega)]
      by_cases z : i = k
      · subst z
        rw [if_pos rfl, if_pos (by omega), ind_t q, Int.mul_one]
      · rw [if_neg z, l2 i i0 i1]
        by_cases z2 : i < (k : Int)
        · rw [if_pos z2, if_pos (by omega)]
        · rw [if_neg z2, if_neg (by omega)]
    · show _ = sum + by_ * dot sl (ind s) (k + 1)
      rw [e, ind_t q, Int.mul_one, Int.mul_add]; omega
  · refine tot_some ⟨l1, fun i i0 i1 => ?_, ?_⟩
    · rw [l2 i i0 i1]
      by_cases z : i = k
      · subst z
        rw [if_neg (by omega), if_pos (by omega), ind_f q, Int.mul_zero]
      · by_cases z2 : i < (k : Int)
        · rw [if_pos z2, if_pos (by omega)]
        · rw [if_neg z2, if_neg (by omega)]
    · show s' = sum + by_ * dot sl (ind s) (k + 1)
      rw [e, ind_f q, Int.mul_zero, Int.add_zero]; exact l3
end
end Pt

/- cheapest: no times within the bounds cost less. -/
set_option linter.unusedVariables false
set_option linter.unusedSimpArgs false
set_option maxRecDepth 100000
namespace Pt
open Go Hk Hd Pl

theorem dot_set {sl : List Int} {N : Nat} {k v : Int} (hl : sl.length = N) (k0 : 0 ≤ k) (k1 : k < N) (f : Int → Int) : dot (setI sl k v) f N = dot sl f N - nth 0 sl k * f k + v * f k := by
  obtain ⟨k', rfl⟩ : ∃ k' : Nat, k = k' := ⟨k.toNat, by omega⟩
  unfold dot
  rw [sumN_upd (f := fun i => nth 0 sl (i : Int) * f i) (g := fun i => nth 0 (setI sl (k' : Int) v) (i : Int) * f i) (k := k') (n := N) (by omega) fun i hi hne => by
    show nth 0 (setI sl (k' : Int) v) (i : Int) * f i = nth 0 sl (i : Int) * f i
    rw [nth_setI 0 (by omega) (by omega) (by omega), if_neg (by omega)]]
  show sumN _ N - nth 0 sl (k' : Int) * f k' + nth 0 (setI sl (k' : Int) v) (k' : Int) * f k' = _
  rw [nth_setI 0 (by omega) (by omega) (by omega), if_pos rfl]
theorem dot_zero' {N : Nat} (f : Int → Int) : dot (List.replicate N 0) f N = 0 := by
  unfold dot
  rw [sumN_eq (g := fun _ => 0) fun i hi => by rw [nth_replicate (by omega) (by omega), Int.zero_mul], sumN_const]; simp
section
variable {p : S_plan_Periodic} {N : Nat} {b taken : List Int}
def term (p : S_plan_Periodic) (taken : List Int) (u : Int → Int) (i : Nat) : Int := (nth zr p.Rules i).Weight * (u (nth zr p.Rules i).To - u (nth zr p.Rules i).From + nth 0 taken i * p.Period - (nth zr p.Rules i).Min)
def conC (p : S_plan_Periodic) (taken : List Int) : Int := sumN (fun i => (nth zr p.Rules i).Weight * (nth 0 taken i * p.Period - (nth zr p.Rules i).Min)) p.Rules.length
/-- the bounds of a leaf -/
structure Leaf (p : S_plan_Periodic) (N : Nat) (b taken : List Int) : Prop where
  ok : POk p.Period p.Events p.Rules
  ev : p.Events = N
  n6 : N ≤ 6
  cl : Cl (N : Int) b
  sub : ∀ u, Sol (N : Int) b u → ∀ i : Int, 0 ≤ i → i < N → 0 ≤ u i ∧ u i ≤ p.Period - 1
  tl : taken.length = p.Rules.length
  all : ∀ (i : Nat) r, p.Rules[i]? = some r → ∀ u, Sol (N : Int) b u → In p.Period r (nth 0 taken i) (u r.To - u r.From)
theorem Leaf.n1 (h : Leaf p N b taken) : 1 ≤ N := by have := h.ok.n0; have := h.ev; omega
theorem Leaf.term_eq (h : Leaf p N b taken) {u : Int → Int} (hu : Sol (N : Int) b u) {i : Nat} {r : S_plan_Rule} (hr : p.Rules[i]? = some r) : term p taken u i = r.Weight * gv p.Period r u := by
  unfold term
  rw [nth_nat zr hr, gv_in (h.ok.all r (List.mem_of_getElem? hr)) (h.all i r hr u hu)]
theorem Leaf.take_eq (h : Leaf p N b taken) {u : Int → Int} (hu : Sol (N : Int) b u) : ∀ k, k ≤ p.Rules.length → costv p.Period u (p.Rules.take k) = sumN (term p taken u) k
  | 0, _ => rfl
  | k + 1, hk => by
    have hr : p.Rules[k]? = some p.Rules[k] := List.getElem?_eq_getElem (by omega)
    rw [List.take_add_one, hr]
    show costv p.Period u (p.Rules.take k ++ [p.Rules[k]]) = sumN (term p taken u) k + term p taken u k
    rw [costv_app, h.take_eq hu k (by omega), h.term_eq hu hr]
theorem Leaf.cost (h : Leaf p N b taken) {u : Int → Int} (hu : Sol (N : Int) b u) : costv p.Period u p.Rules = sumN (term p taken u) p.Rules.length := by
  have := h.take_eq hu p.Rules.length (Nat.le_refl _)
  rwa [List.take_length] at this
theorem Leaf.part_bd (h : Leaf p N b taken) {u : Int → Int} (hu : Sol (N : Int) b u) {k : Nat} (hk : k ≤ p.Rules.length) : 0 ≤ sumN (term p taken u) k ∧ sumN (term p taken u) k ≤ 144000000 := by
  rw [← h.take_eq hu k hk]
  have hl := h.ok.len
  have := costv_bd (n := p.Events) h.ok.T0 h.ok.T1 (t := u) (l := p.Rules.take k) fun r hr => h.ok.all r (List.mem_of_mem_take hr)
  rw [List.length_take] at this
  omega
/-- the slopes of some of the rules -/
structure Slo (p : S_plan_Periodic) (N k : Nat) (sl : List Int) : Prop where
  len : sl.length = N
  bd : ∀ i : Int, 0 ≤ i → i < N → -(1000 * (k : Int)) ≤ nth 0 sl i ∧ nth 0 sl i ≤ 1000 * (k : Int)
  dt : ∀ f : Int → Int, dot sl f N = sumN (fun i => (nth zr p.Rules i).Weight * (f (nth zr p.Rules i).To - f (nth zr p.Rules i).From)) k
theorem Slo.lin {sl : List Int} (h : Slo p N p.Rules.length sl) (u : Int → Int) : sumN (term p taken u) p.Rules.length = conC p taken + dot sl u N := by
  rw [h.dt u]
  unfold conC
  rw [← sumN_add]
  refine sumN_eq fun i _ => ?_
  unfold term
  rw [← Int.mul_add]
  congr 1; omega
theorem slope_step (h : Leaf p N b taken) {t : List Int} (ht : In6 N b t) {i : Nat} {r : S_plan_Rule} (hr : p.Rules[i]? = some r) {sl : List Int} {sum : Int} (hs : Slo p N i sl) (hsum : sum = sumN (term p taken (nth 0 t)) i) :
    Tot (plan_cheapest_b2 p taken t i r (sl, sum)) fun c => match c with
      | .go s => Slo p N (i + 1) s.1 ∧ s.2 = sumN (term p taken (nth 0 t)) (i + 1)
      | .out _ => False := by
  have hi := (List.getElem?_eq_some_iff.1 hr).1
  have hll := h.ok.len
  have hro := h.ok.all r (List.mem_of_getElem? hr)
  have hev := h.ev
  have f0 := hro.f0; have f1 := hro.f1; have t0 := hro.t0; have t1 := hro.t1; have ne := hro.ne; have w0 := hro.w0; have w1 := hro.w1; have m0 := hro.m0; have m1 := hro.m1
  have T0 := h.ok.T0; have T1 := h.ok.T1
  have hl := hs.len
  have htl := ht.len
  have b1 := hs.bd r.To t0 (by omega)
  have b2 := hs.bd r.From f0 (by omega)
  have c1 := ht.bd r.To t0 (by omega)
  have c2 := ht.bd r.From f0 (by omega)
  have hin := h.all i r hr _ ht.sol
  have te := h.term_eq ht.sol hr
  have pb := h.part_bd ht.sol (k := i) (by omega)
  have pb' := h.part_bd ht.sol (k := i + 1) (by omega)
  have gb := gv_bd (T := p.Period) (by omega) r (nth 0 t)
  have ge := gv_in hro hin
  have wb := wgv_bd T0 T1 hro (nth 0 t)
  have et := h.tl
  obtain ⟨i1, i2⟩ := hin
  unfold plan_cheapest_b2
  dsimp only
  refine tot_bind' (idx_nth 0 t0 (by omega)) ?_
  refine tot_bind' (idx_nth 0 t0 (by omega)) ?_
  rw [w64_id (x := nth 0 sl r.To + r.Weight) (by omega) (by omega)]
  have ef : nth 0 (setI sl r.To (nth 0 sl r.To + r.Weight)) r.From = nth 0 sl r.From := by rw [nth_setI 0 t0 f0 (by omega), if_neg ne]
  refine tot_bind' (idx_nth 0 f0 (by rw [setI_length]; omega)) ?_
  refine tot_bind' (idx_nth 0 f0 (by rw [setI_length]; omega)) ?_
  refine tot_bind' (idx_nth 0 t0 (by omega)) ?_
  refine tot_bind' (idx_nth 0 f0 (by omega)) ?_
  refine tot_bind' (idx_nth 0 (by omega) (by omega)) ?_
  rw [ef, w64_id (x := nth 0 sl r.From - r.Weight) (by omega) (by omega), w64_id (x := nth 0 t r.To - nth 0 t r.From) (by omega) (by omega), w64_id (x := nth 0 taken (i : Int) * p.Period) (by omega) (by omega), w64_id (x := nth 0 t r.To - nth 0 t r.From + nth 0 taken (i : Int) * p.Period) (by omega) (by omega), w64_id (x := nth 0 t r.To - nth 0 t r.From + nth 0 taken (i : Int) * p.Period - r.Min) (by omega) (by omega)]
  rw [← ge, w64_id (x := r.Weight * gv p.Period r (nth 0 t)) (by omega) (by omega), w64_id (by omega) (by omega)]
  refine tot_some ⟨⟨by rw [setI_length, setI_length]; exact hl, fun j j0 j1 => ?_, fun f => ?_⟩, ?_⟩
  · rw [nth_setI 0 f0 j0 (by rw [setI_length]; omega)]
    have bj := hs.bd j j0 j1
    split
    · omega
    · rw [nth_setI 0 t0 j0 (by omega)]
      split <;> omega
  · rw [dot_set (by rw [setI_length]; exact hl) f0 (by omega), dot_set hl t0 (by omega), ef, hs.dt f]
    show _ = sumN _ i + (nth zr p.Rules (i : Int)).Weight * (f (nth zr p.Rules (i : Int)).To - f (nth zr p.Rules (i : Int)).From)
    rw [nth_nat zr hr, Int.add_mul, Int.sub_mul, Int.mul_sub]
    omega
  · show _ = sumN (term p taken (nth 0 t)) i + term p taken (nth 0 t) i
    rw [te, hsum]
/-- what goes down with each move -/
def meas (N : Nat) (x : List Int × Int) : Int := x.2 * 30000 + sumN (fun i => nth 0 x.1 (i : Int)) N
structure St6 (p : S_plan_Periodic) (N : Nat) (b taken sl : List Int) (x : List Int × Int) : Prop where
  i6 : In6 N b x.1
  sum : x.2 = conC p taken + dot sl (nth 0 x.1) N
theorem In6.of (h : Leaf p N b taken) {t : List Int} (hl : t.length = N) (hs : Sol (N : Int) b (nth 0 t)) : In6 N b t := ⟨h.cl, h.n1, h.n6, hl, hs, fun i i0 i1 => by have := h.sub _ hs i i0 i1; have := h.ok.T1; omega⟩
theorem Slo.sl {sl : List Int} (h : Leaf p N b taken) (hs : Slo p N p.Rules.length sl) : Sl N sl := ⟨hs.len, fun i i0 i1 => by have := hs.bd i i0 i1; have := h.ok.len; omega⟩
theorem St6.bd {sl : List Int} (h : Leaf p N b taken) (hs : Slo p N p.Rules.length sl) {x : List Int × Int} (hx : St6 p N b taken sl x) : 0 ≤ x.2 ∧ x.2 ≤ 144000000 := by
  rw [hx.sum, ← hs.lin]
  exact h.part_bd hx.i6.sol (Nat.le_refl _)
theorem St6.meas {sl : List Int} (h : Leaf p N b taken) (hs : Slo p N p.Rules.length sl) {x : List Int × Int} (hx : St6 p N b taken sl x) : 0 ≤ meas N x ∧ meas N x ≤ 10000000000000 := by
  have h1 := hx.bd h hs
  have n6 := h.n6
  have h2 : 0 ≤ sumN (fun i => nth 0 x.1 (i : Int)) N := sumN_pos fun i hi => (hx.i6.bd i (by omega) (by omega)).1
  have h3 : sumN (fun i => nth 0 x.1 (i : Int)) N ≤ sumN (fun _ => 3600) N := sumN_le fun i hi => (hx.i6.bd i (by omega) (by omega)).2
  rw [sumN_const] at h3
  unfold Pt.meas
  omega
/-- one set is tried -/
def Shut (N : Nat) (b sl : List Int) (t : Int → Int) (s : Nat) : Prop := ∃ i k : Nat, i < N ∧ k < N ∧ bt (((2 * s : Nat) : Int)) (i : Int) = true ∧ bt (((2 * s : Nat) : Int)) (k : Int) = false ∧ slack b t (signOf (dot sl (ind ((2 * s : Nat) : Int)) N)) i k ≤ 0
theorem try_ok (h : Leaf p N b taken) {sl : List Int} {q : Int} (hs : Slo p N p.Rules.length sl) {x : List Int × Int} (hx : St6 p N b taken sl x) {k : Nat} (k1 : 1 ≤ k) (k2 : 2 * k < 2 ^ N) (ag : Bool) :
    Tot (((forN (plan_cheapest_b5 (sl, q) (ag, ((2 * k : Nat) : Int), x.1, x.2)) (x.1.length) 0).bind fun c61 => Ctl.on c61 (fun s53 => ((ifb (decide (s53 < 0)) (some 1) (some (-1))).bind fun (s57 : Int) => ((plan_cheapest_1 ((2 * k : Nat) : Int) s57 (some p) (some x.1) (some (some b))).bind fun (x58 : Int) => (ifb (decide (x58 > 0)) ((plan_cheapest_2_v2 ((2 * k : Nat) : Int) (w64 (s57 * x58)) x.1 x.2 sl).bind fun (x59 : List Int × Int) => (some (true, x59.1, x59.2))) (some (ag, x.1, x.2)))))) (fun (x_ : Empty) => x_.elim)))
      fun r => (r = (ag, x.1, x.2) ∧ Shut N b sl (nth 0 x.1) k) ∨ (r.1 = true ∧ St6 p N b taken sl r.2 ∧ meas N r.2 < meas N x) := by
  have n6 := h.n6; have n1 := h.n1
  have hp2 := pow_le n6
  have hsl := hs.sl h
  have hxb := hx.bd h hs
  refine rate_ok (s25 := (sl, q)) (s42 := (ag, ((2 * k : Nat) : Int), x.1, x.2)) hsl n6 (by show (0 : Int) ≤ ((2 * k : Nat) : Int); omega) (by show ((2 * k : Nat) : Int) < 64; omega) hx.i6.len ?_
  show Tot ((ifb (decide (dot sl (ind ((2 * k : Nat) : Int)) N < 0)) (some 1) (some (-1))).bind _) _
  generalize hrate : dot sl (ind ((2 * k : Nat) : Int)) N = rate
  refine tot_bind (P := fun s57 => s57 = signOf rate) ?_ fun s57 _ h57 => ?_
  · refine tot_ifb (fun q => ?_) fun q => ?_
    · exact tot_some (by unfold signOf; rw [if_pos (of_decide_eq_true q)])
    · exact tot_some (by unfold signOf; rw [if_neg (of_decide_eq_false q)])
  subst h57
  refine tot_bind (room_ok ⟨h.ok.T0, h.ok.T1⟩ hx.i6 (by omega) (by omega) (signOf rate)) fun m _ hm => ?_
  obtain ⟨m1, m2, m3⟩ := hm
  refine tot_ifb (fun q => ?_) fun q => ?_
  · have q := of_decide_eq_true q
    have hsg : signOf rate = 1 ∧ rate < 0 ∨ signOf rate = -1 ∧ 0 ≤ rate := by
      unfold signOf
      by_cases e : rate < 0
      · rw [if_pos e]; exact .inl ⟨rfl, e⟩
      · rw [if_neg e]; exact .inr ⟨rfl, by omega⟩
    have hby : signOf rate * m = m ∧ rate < 0 ∨ signOf rate * m = -m ∧ 0 ≤ rate := by
      rcases hsg with ⟨e, h1⟩ | ⟨e, h1⟩
      · rw [e]; exact .inl ⟨by omega, h1⟩
      · rw [e]; exact .inr ⟨by omega, h1⟩
    rw [w64_id (x := signOf rate * m) (by omega) (by omega)]
    refine tot_bind (move_ok hsl n6 (by omega) (by omega) hx.i6.len hx.i6.bd (by omega) (by omega) hxb.1 (by omega)) fun r _ hr => ?_
    obtain ⟨l1, l2, l3⟩ := hr
    rw [hrate] at l3
    have b0 : ind ((2 * k : Nat) : Int) 0 = 0 := ind_f (bit_0 (by omega))
    have z0 : nth 0 x.1 0 = 0 := hx.i6.sol.z
    have hsol : Sol (N : Int) b (nth 0 r.1) := by
      refine ⟨by rw [l2 0 (by omega) (by omega), b0, z0]; omega, fun i j i0 i1 j0 j1 => ?_⟩
      rw [l2 i i0 i1, l2 j j0 j1]
      have hle := hx.i6.sol.le i j i0 i1 j0 j1
      obtain ⟨i', rfl⟩ : ∃ i' : Nat, i = i' := ⟨i.toNat, by omega⟩
      obtain ⟨j', rfl⟩ : ∃ j' : Nat, j = j' := ⟨j.toNat, by omega⟩
      cases hbi : bt ((2 * k : Nat) : Int) (i' : Int) <;> cases hbj : bt ((2 * k : Nat) : Int) (j' : Int)
      · rw [ind_f hbi, ind_f hbj]; omega
      · rw [ind_f hbi, ind_t hbj]
        have := m2 j' i' (by omega) (by omega) hbj hbi
        unfold slack at this
        rcases hsg with ⟨e, h1⟩ | ⟨e, h1⟩
        · rw [if_pos (by omega)] at this; rcases hby with ⟨e2, _⟩ | ⟨e2, h2⟩ <;> omega
        · rcases hby with ⟨e2, h2⟩ | ⟨e2, h2⟩ <;> omega
      · rw [ind_t hbi, ind_f hbj]
        have := m2 i' j' (by omega) (by omega) hbi hbj
        unfold slack at this
        rcases hsg with ⟨e, h1⟩ | ⟨e, h1⟩
        · rcases hby with ⟨e2, h2⟩ | ⟨e2, h2⟩ <;> omega
        · rw [if_neg (by omega)] at this; rcases hby with ⟨e2, h2⟩ | ⟨e2, h2⟩ <;> omega
      · rw [ind_t hbi, ind_t hbj]; omega
    have hdot : dot sl (nth 0 r.1) N = dot sl (nth 0 x.1) N + (signOf rate * m) * rate := by
      rw [dot_congr (g := fun i => nth 0 x.1 i + (signOf rate * m) * ind ((2 * k : Nat) : Int) i) fun i hi => l2 i (by omega) (by omega), dot_add, dot_mul, hrate]
    have hsumT : sumN (fun i => nth 0 r.1 (i : Int)) N = sumN (fun i => nth 0 x.1 (i : Int)) N + (signOf rate * m) * sumN (fun i => ind ((2 * k : Nat) : Int) i) N := by
      rw [← sumN_mul, ← sumN_add]
      exact sumN_eq fun i hi => l2 i (by omega) (by omega)
    refine tot_some (.inr ⟨rfl, ⟨In6.of h l1 hsol, ?_⟩, ?_⟩)
    · show r.2 = _
      rw [l3, hdot, hx.sum]; omega
    · show r.2 * 30000 + sumN (fun i => nth 0 r.1 (i : Int)) N < x.2 * 30000 + sumN (fun i => nth 0 x.1 (i : Int)) N
      rw [hsumT, l3]
      obtain ⟨j, j1, j2⟩ := bit_some n6 k1 k2
      have s1 : 1 ≤ sumN (fun i => ind ((2 * k : Nat) : Int) (i : Int)) N := by
        have := le_sumN (f := fun i => ind ((2 * k : Nat) : Int) (i : Int)) (fun i _ => (ind_01 _ _).1) j1
        rwa [ind_t j2] at this
      have s2 : sumN (fun i => ind ((2 * k : Nat) : Int) (i : Int)) N ≤ 6 := by
        have := sumN_le (f := fun i => ind ((2 * k : Nat) : Int) (i : Int)) (g := fun _ => 1) (n := N) (fun i _ => (ind_01 _ _).2)
        rw [sumN_const] at this
        omega
      have hm := mul_bd (x := signOf rate * m) (y := sumN (fun i => ind ((2 * k : Nat) : Int) (i : Int)) N) (A := 3600) (B := 6) (by omega) (by omega) (by omega) s2
      generalize sumN (fun i => ind ((2 * k : Nat) : Int) (i : Int)) N = S at s1 s2 hm ⊢
      rcases hby with ⟨e2, h2⟩ | ⟨e2, h2⟩
      · have := Int.mul_le_mul_of_nonneg_left (show rate ≤ -1 by omega) (show 0 ≤ signOf rate * m by omega)
        omega
      · have h3 := Int.mul_nonneg (show 0 ≤ m by omega) h2
        have h4 := Int.mul_le_mul_of_nonneg_left s1 (show 0 ≤ m by omega)
        rw [e2, Int.neg_mul, Int.neg_mul]
        omega
  · have q := of_decide_eq_false q
    refine tot_some (.inl ⟨rfl, ?_⟩)
    unfold Shut
    rw [hrate]
    exact m3 (by omega)
theorem round_ok (h : Leaf p N b taken) {sl : List Int} {q : Int} (hs : Slo p N p.Rules.length sl) {x : List Int × Int} (hx : St6 p N b taken sl x) :
    Tot (iter (plan_cheapest_b4 p (some b) (sl, q)) (false, 2, x.1, x.2)) fun c => match c with
      | .go r => St6 p N b taken sl r.2 ∧ (r.1 = true → meas N r.2 < meas N x) ∧ (r.1 = false → r.2 = x ∧ LocOpt N b sl (nth 0 x.1))
      | .out _ => False := by
  have n6 := h.n6; have n1 := h.n1
  have hp2 := pow_le n6
  obtain ⟨m, hm⟩ := pow_even n1
  have hbig : 1000 < bigN := by decide
  have hpow : 2 ≤ 2 ^ N := by
    have : 2 ^ 1 ≤ 2 ^ N := Nat.pow_le_pow_right (by omega) n1
    omega
  refine tot_iter (I := fun s => ∃ k : Nat, s.2.1 = ((2 * k : Nat) : Int) ∧ 1 ≤ k ∧ 2 * k ≤ 2 ^ N ∧ St6 p N b taken sl s.2.2 ∧ (s.1 = true → meas N s.2.2 < meas N x) ∧ (s.1 = false → s.2.2 = x ∧ ∀ j, 1 ≤ j → j < k → Shut N b sl (nth 0 x.1) j))
    (μ := fun s => (64 - s.2.1).toNat) ⟨1, rfl, by omega, by omega, hx, fun e => (by cases e), fun _ => ⟨rfl, fun j j1 j2 => by omega⟩⟩ (by show (64 - (2 : Int)).toNat < bigN; omega) ?_
  rintro ⟨ag, set, y⟩ ⟨k, rfl, k1, k2, hy, ha, hb⟩
  simp only at hy ha hb
  unfold plan_cheapest_b4
  rw [h.ev]
  refine tot_bind' (shl_ok n6) ?_
  refine tot_ifb (fun q => ?_) fun q => ?_
  · have q : ((2 * k : Nat) : Int) < ((2 ^ N : Nat) : Int) := of_decide_eq_true q
    have q : 2 * k < 2 ^ N := by omega
    refine tot_bind (try_ok h hs hy k1 q ag) fun r _ hr => ?_
    rw [w64_id (x := ((2 * k : Nat) : Int) + 2) (by omega) (by omega)]
    refine tot_some ⟨⟨k + 1, by show ((2 * k : Nat) : Int) + 2 = _; omega, by omega, by omega, ?_⟩, by show (64 - (((2 * k : Nat) : Int) + 2)).toNat < (64 - ((2 * k : Nat) : Int)).toNat; omega⟩
    rcases hr with ⟨rfl, h2⟩ | ⟨h1, h2, h3⟩
    · refine ⟨hy, ha, fun e => ⟨(hb e).1, fun j j1 j2 => ?_⟩⟩
      by_cases z : j = k
      · subst z
        have := (hb e).1
        rw [← this]; exact h2
      · exact (hb e).2 j j1 (by omega)
    · refine ⟨h2, fun _ => ?_, fun e => by rw [h1] at e; cases e⟩
      show meas N r.2 < meas N x
      cases hag : ag with
      | true => have := ha hag; omega
      | false =>
        have := (hb hag).1
        rw [← this]; exact h3
  · have q : ¬ ((2 * k : Nat) : Int) < ((2 ^ N : Nat) : Int) := of_decide_eq_false q
    refine tot_some ⟨hy, ha, fun e => ⟨(hb e).1, fun s s1 s2 => (hb e).2 s s1 (by omega)⟩⟩
theorem cheapest_ok (h : Leaf p N b taken) : Tot (plan_cheapest p (some b) taken) fun r => r.2.length = N ∧ Sol (N : Int) b (nth 0 r.2) ∧ r.1 = costv p.Period (nth 0 r.2) p.Rules ∧ ∀ u, Sol (N : Int) b u → r.1 ≤ costv p.Period u p.Rules := by
  have n6 := h.n6; have n1 := h.n1; have hev := h.ev
  have hbig : 100000000000000 < bigN := by decide
  have hmk : gmake 8 p.Events (0 : Int) = some (List.replicate N 0) := by
    rw [gmake_eq (by omega) (by have : (1000 : Nat) ≤ mkRoom := (by decide); omega) (by have : (1000 : Nat) ≤ maxLen := (by decide); omega), show p.Events.toNat = N by omega]
  unfold plan_cheapest
  refine tot_bind' hmk ?_
  refine tot_bind' hmk ?_
  rw [List.length_replicate]
  refine tot_loopN (I := fun i t => t.length = N ∧ ∀ j : Int, 0 ≤ j → j < i → nth 0 t j = - mb b j 0) (J := fun t => t.length = N ∧ ∀ j : Int, 0 ≤ j → j < N → nth 0 t j = - mb b j 0) (E := fun _ => False) ⟨by simp, fun j j0 j1 => by omega⟩ (fun i t hi hI => ?_) (fun t hI => hI) (fun t hJ => ?_) (fun y _ => y.elim)
  · obtain ⟨l1, l2⟩ := hI
    have b1 := h.cl.up i 0 (by omega) (by omega) (by omega) (by omega)
    have b2 := h.cl.lo (i := (i : Int)) (k := 0) (by omega) (by omega) (by omega) (by omega)
    unfold plan_cheapest_b1
    simp only [Option.bind_some, gix_eq (m := 8) (i := (i : Int)) (by omega) (by omega), gix_eq (m := 8) (i := 0) (by omega) (by omega), mb_idx (b := b) (i := (i : Int)) (k := 0) h.cl.len (by omega) (by omega) (by omega) (by omega)]
    refine tot_bind' (idx_nth 0 (by omega) (by omega)) ?_
    rw [w64_id (x := 0 - mb b (i : Int) 0) (by omega) (by omega)]
    refine tot_some ⟨by rw [setI_length]; exact l1, fun j j0 j1 => ?_⟩
    rw [nth_setI 0 (by omega) (by omega) (by omega)]
    by_cases z : j = i
    · subst z; rw [if_pos rfl]; omega
    · rw [if_neg z, l2 j j0 (by omega)]
  obtain ⟨l1, l2⟩ := hJ
  have hsol : Sol (N : Int) b (nth 0 t) := by
    have hl := h.cl.least (by omega)
    refine ⟨by rw [l2 0 (by omega) (by omega)]; exact hl.z, fun i k i0 i1 k0 k1 => ?_⟩
    rw [l2 i i0 i1, l2 k k0 k1]
    exact hl.le i k i0 i1 k0 k1
  have h6 := In6.of h l1 hsol
  refine tot_loopX (I := fun i s => Slo p N i s.1 ∧ s.2 = sumN (term p taken (nth 0 t)) i) (J := fun s => Slo p N p.Rules.length s.1 ∧ s.2 = sumN (term p taken (nth 0 t)) p.Rules.length) (E := fun _ => False) ⟨⟨by simp, fun i i0 i1 => ?_, fun f => ?_⟩, rfl⟩ (fun i r s hr hI => ?_) (fun s hI => hI) (fun s hJ => ?_) (fun y _ => y.elim)
  · rw [nth_replicate i0 (by omega)]; omega
  · exact (dot_zero' f).trans rfl
  · obtain ⟨sl, sum⟩ := s
    refine tot_mono (slope_step h h6 hr hI.1 hI.2) fun c hc => ?_
    rcases c with s | y
    · exact hc
    · exact hc.elim
  obtain ⟨sl, sum⟩ := s
  obtain ⟨hs, hsum⟩ := hJ
  simp only at hs hsum ⊢
  have hst : St6 p N b taken sl (t, sum) := ⟨h6, by show sum = _; rw [hsum, hs.lin]⟩
  refine tot_bind (P := fun c => match c with | .go r => St6 p N b taken sl r ∧ LocOpt N b sl (nth 0 r.1) | .out _ => False) ?_ fun c _ hc => ?_
  · refine tot_iter (I := fun s => St6 p N b taken sl s.2 ∧ (s.1 = false → LocOpt N b sl (nth 0 s.2.1))) (μ := fun s => (2 * meas N s.2 + cond s.1 1 0).toNat) ⟨hst, fun e => (by cases e)⟩ (by have := hst.meas h hs; show (2 * meas N (t, sum) + 1).toNat < bigN; omega) ?_
    rintro ⟨ag, y⟩ ⟨hy, ho⟩
    simp only at hy ho
    unfold plan_cheapest_b3
    dsimp only
    cases ag with
    | false => exact tot_some ⟨hy, ho rfl⟩
    | true =>
      simp only [ifb_true]
      refine tot_bind (round_ok h hs hy) fun c _ hc => ?_
      cases c with
      | out e => exact hc.elim
      | go r =>
        obtain ⟨h1, h2, h3⟩ := hc
        obtain ⟨ag', y'⟩ := r
        simp only at h1 h2 h3
        have a1 := hy.meas h hs
        have a2 := h1.meas h hs
        refine tot_some ⟨⟨h1, fun e => ?_⟩, ?_⟩
        · obtain ⟨e1, e2⟩ := h3 e
          rw [show ((ag', y'.1, y'.2) : Bool × List Int × Int).2.1 = y.1 from by rw [← e1]]
          exact e2
        · show (2 * meas N y' + cond ag' 1 0).toNat < (2 * meas N y + 1).toNat
          cases ag' with
          | true => have := h2 rfl; show (2 * meas N y' + 1).toNat < _; omega
          | false => obtain ⟨e1, _⟩ := h3 rfl; rw [e1]; show (2 * meas N y + 0).toNat < _; omega
  · cases c with
    | out e => exact hc.elim
    | go r =>
      obtain ⟨h1, h2⟩ := hc
      have ec : r.2 = costv p.Period (nth 0 r.1) p.Rules := by rw [h1.sum, h.cost h1.i6.sol, hs.lin]
      refine tot_some ⟨h1.i6.len, h1.i6.sol, ec, fun u hu => ?_⟩
      show r.2 ≤ _
      rw [h1.sum, h.cost hu, hs.lin (taken := taken)]
      have := opt_le n6 n1 h2 h1.i6.sol.z hu 3600 fun i hi => by
        have a := h.sub u hu i (by omega) (by omega)
        have c := h1.i6.bd i (by omega) (by omega)
        have := h.ok.T1
        omega
      omega
end
end Pt
