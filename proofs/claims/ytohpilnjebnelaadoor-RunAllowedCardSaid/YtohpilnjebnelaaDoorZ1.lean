/- What the checks of package run say, and how far a train goes until it is slow enough. -/
import Derived.Test.YtohpilnjebnelaaDoorZP
import Derived.Test.YtohpilnjebnelaaDoorK5
import Derived.Test.YtohpilnjebnelaaDoorZC
set_option linter.unusedVariables false
set_option linter.unusedSimpArgs false
set_option maxRecDepth 100000
namespace Rn
open Go Hk Hd Pl

theorem awake : fishkeep1_awakeRun = some () := by kernel_rfl
theorem within_eq (a b c : Int) : run_within a b c = some (decide (b ≤ a ∧ a ≤ c)) := by
  unfold run_within
  by_cases h1 : a ≥ b <;> by_cases h2 : a ≤ c <;> simp [ifb, h1, h2]
theorem name_tot {s : ByteArray} (h : s.size ≤ maxLen) : Tot (run_name s) fun _ => True := by
  unfold run_name
  refine tot_bind' (x := (sl8 s).map fun b => (b.toNat : Int)) (by unfold sbytes; rw [if_pos (by unfold maxLen at h; omega)]) ?_
  refine tot_allX (P := fun _ _ => True) (E := fun _ => True) (fun i x hx => ?_) (fun _ => ?_) (fun _ _ => tot_some trivial)
  · unfold run_name_b1
    rw [ifb_some, Option.bind_some]
    exact tot_ifb (fun _ => tot_some trivial) (fun _ => tot_some trivial)
  · rw [ifb_some, Option.bind_some]
    exact tot_some trivial
/-- stock that may be -/
structure Stk (p : S_api_Stock) : Prop where
  length : 10 ≤ p.Length ∧ p.Length ≤ 400
  mass : 10 ≤ p.Mass ∧ p.Mass ≤ 2000
  start : 60 ≤ p.Start ∧ p.Start ≤ 150
  power : 10000 ≤ p.Power ∧ p.Power ≤ 2000000
  roll : 0 ≤ p.Roll ∧ p.Roll ≤ 10
  drag : 1000000 ≤ p.Drag ∧ p.Drag ≤ 100000000
  brake : 60 ≤ p.Brake ∧ p.Brake ≤ 150
  top : 500 ≤ p.Top ∧ p.Top ≤ 6000
  seats : 0 ≤ p.Seats ∧ p.Seats ≤ 1000
theorem check_tot {p : S_api_Stock} (h : p.Name.size ≤ maxLen) : Tot (run_Check p) fun r => r = 0 → Stk p := by
  unfold run_Check
  refine tot_bind (name_tot h) fun x _ _ => ?_
  refine tot_ifb (fun _ => tot_some fun h => absurd h (by decide)) fun _ => ?_
  refine tot_bind' (x := ()) rfl ?_
  refine tot_bind' (x := _) rfl ?_
  let num : List Int := [p.Length, p.Mass, p.Start, p.Power, p.Roll, p.Drag, p.Brake, p.Top, p.Seats]
  let bnd : List Int := [10, 400, 10, 2000, 60, 150, 10000, 2000000, 0, 10, 1000000, 100000000, 60, 150, 500, 6000, 0, 1000]
  refine tot_bind (tot_iter (E := fun c => match c with | .go _ => Stk p | .out r => r ≠ 0) (I := fun i => ∃ k : Nat, i = k ∧ k ≤ 9 ∧ ∀ j, j < k → nth 0 bnd (j * 2) ≤ nth 0 num j ∧ nth 0 num j ≤ nth 0 bnd (j * 2 + 1)) (μ := fun i => (9 - i).toNat) ⟨0, rfl, by omega, fun j hj => by omega⟩ (Nat.lt_of_lt_of_le (by decide : (9 - (0 : Int)).toNat < 10) (by decide +kernel)) ?_) fun c _ hc => ?_
  · rintro i ⟨k, rfl, hk, hI⟩
    unfold run_Check_b1
    refine tot_ifb (fun hlt => ?_) fun hge => tot_some ?_
    · have hlt : (k : Int) < 9 := of_decide_eq_true hlt
      refine tot_bind' (idx_nth 0 (xs := num) (by omega) (by show (k : Int) < 9; omega)) ?_
      have g : gix 9 (k : Int) = some () := by unfold gix; rw [if_pos (by omega)]
      rw [g]
      refine tot_bind' rfl (tot_bind' (x := ()) rfl ?_)
      refine tot_bind' (idx_nth 0 (xs := bnd) (by omega) (by show _ < (18 : Int); omega)) ?_
      refine tot_bind' rfl (tot_bind' (x := ()) rfl ?_)
      refine tot_bind' (idx_nth 0 (xs := bnd) (by omega) (by show _ < (18 : Int); omega)) ?_
      rw [within_eq, Option.bind_some]
      refine tot_ifb (fun _ => tot_some (show (2 : Int) ≠ 0 by decide)) fun hb => tot_some ?_
      have hb : nth 0 bnd (0 + (k : Int) * 2 + 0 * 1) ≤ nth 0 num k ∧ nth 0 num k ≤ nth 0 bnd (0 + (k : Int) * 2 + 1 * 1) := by simpa using hb
      rw [show (0 + (k : Int) * 2 + 0 * 1) = (k : Int) * 2 by omega, show (0 + (k : Int) * 2 + 1 * 1) = (k : Int) * 2 + 1 by omega] at hb
      rw [w64_id (by omega) (by omega)]
      refine ⟨⟨k + 1, by omega, by omega, fun j hj => ?_⟩, by omega⟩
      rcases Nat.lt_or_ge j k with h | h
      · exact hI j h
      · have : j = k := by omega
        subst this; exact hb
    · have hge : ¬ (k : Int) < 9 := of_decide_eq_false hge
      have : k = 9 := by omega
      subst this
      exact ⟨hI 0 (by omega), hI 1 (by omega), hI 2 (by omega), hI 3 (by omega), hI 4 (by omega), hI 5 (by omega), hI 6 (by omega), hI 7 (by omega), hI 8 (by omega)⟩
  · refine tot_on (fun s hs => tot_some fun _ => ?_) (fun r hr => tot_some fun h => ?_)
    · subst hs; exact hc
    · subst hr; exact absurd h hc
/-- how far a train goes until its speed is t; d: how much slower it becomes in a second -/
def inD (d t v : Int) : Int := if h : v ≤ t ∨ d ≤ 0 then 0 else (v + max t (v - d) + 1) / 2 + inD d t (max t (v - d))
termination_by (v - t).toNat
decreasing_by omega
theorem inD_le {d t v : Int} (h : v ≤ t) : inD d t v = 0 := by
  unfold inD; rw [dif_pos (Or.inl h)]
theorem inD_gt {d t v : Int} (hd : 0 < d) (h : t < v) : inD d t v = (v + max t (v - d) + 1) / 2 + inD d t (max t (v - d)) := by
  conv => lhs; unfold inD
  rw [dif_neg (by omega)]
theorem inD_bound {d t : Int} (hd : 0 < d) (ht : 0 ≤ t) : ∀ (n : Nat) (v : Int), (v - t).toNat ≤ n → v ≤ 6001 → 0 ≤ inD d t v ∧ inD d t v ≤ 6001 * (if v ≤ t then 0 else v - t)
  | n, v, hn, hv => by
    by_cases h : v ≤ t
    · rw [inD_le h, if_pos h]; omega
    · rw [inD_gt hd (by omega), if_neg h]
      match n, hn with
      | 0, hn => omega
      | n + 1, hn =>
        have ih := inD_bound hd ht n (max t (v - d)) (by omega) (by omega)
        split at ih <;> omega
theorem inD_mono {d t : Int} (hd : 0 < d) (ht : 0 ≤ t) : ∀ (n : Nat) (v v' : Int), (v' - t).toNat ≤ n → v ≤ v' → v' ≤ 6001 → inD d t v ≤ inD d t v'
  | n, v, v', hn, hv, h6 => by
    by_cases h : v ≤ t
    · rw [inD_le h]; exact (inD_bound hd ht _ v' (Nat.le_refl _) h6).1
    · rw [inD_gt hd (by omega), inD_gt hd (by omega : t < v')]
      match n, hn with
      | 0, hn => omega
      | n + 1, hn =>
        have ih := inD_mono hd ht n (max t (v - d)) (max t (v' - d)) (by omega) (by omega) (by omega)
        omega
theorem gone_eq {v w : Int} (h0 : 0 ≤ v) (h1 : v ≤ 6001) (h2 : 0 ≤ w) (h3 : w ≤ 6001) : run_gone v w = some ((v + w + 1) / 2) := by
  unfold run_gone
  rw [w64_id (x := v + w) (by omega) (by omega), w64_id (x := v + w + 1) (by omega) (by omega)]
  have : gquoK .i64 (v + w + 1) 2 = some ((v + w + 1) / 2) := by
    unfold gquoK
    rw [if_neg (by decide), Int.tdiv_eq_ediv_of_nonneg (by omega)]
    exact congrArg some (w64_id (by omega) (by omega))
  rw [this]; rfl
theorem gmax_max (a b : Int) : gmax a b = max a b := by unfold gmax; omega
theorem into_eq {p : S_api_Stock} {v t : Int} (hp : 60 ≤ p.Brake ∧ p.Brake ≤ 150) (hv0 : 0 ≤ v) (hv : v ≤ 6001) (ht0 : 0 ≤ t) (ht : t ≤ 6000) : run_into p v t = some (inD (p.Brake - 40) t v) := by
  refine tot_eq ?_
  unfold run_into
  have hd : 0 < p.Brake - 40 := by omega
  refine tot_bind (tot_iter (E := fun c => c = Ctl.go (inD (p.Brake - 40) t v)) (I := fun s => 0 ≤ s.1 ∧ s.1 ≤ 6001 ∧ 0 ≤ s.2 ∧ s.2 + inD (p.Brake - 40) t s.1 = inD (p.Brake - 40) t v) (μ := fun s => (s.1 - t).toNat) ⟨hv0, hv, by dsimp only; omega, by dsimp only; omega⟩ (Nat.lt_of_lt_of_le (by show (v - t).toNat < 6002; omega) (by decide +kernel)) ?_) fun c _ hc => by subst hc; exact tot_some rfl
  rintro ⟨u, s⟩ ⟨h1, h2, h3, h4⟩
  dsimp only at h1 h2 h3 h4
  unfold run_into_b1
  dsimp only
  refine tot_ifb (fun hlt => ?_) fun hge => tot_some ?_
  · have hlt : u > t := of_decide_eq_true hlt
    rw [w64_id (x := p.Brake - 40) (by omega) (by omega), w64_id (x := u - (p.Brake - 40)) (by omega) (by omega), gmax_max, gone_eq (by omega) (by omega) (by omega) (by omega), Option.bind_some]
    refine tot_some ?_
    have e := inD_gt hd hlt
    have b := inD_bound hd ht0 _ v (Nat.le_refl _) hv
    have b2 := inD_bound hd ht0 _ (max t (u - (p.Brake - 40))) (Nat.le_refl _) (by omega)
    have hb : inD (p.Brake - 40) t v ≤ 36012001 := by have := b.2; split at this <;> omega
    rw [w64_id (by omega) (by omega)]
    refine ⟨⟨?_, ?_, ?_, ?_⟩, ?_⟩
    all_goals dsimp only
    all_goals omega
  · have hge : ¬ u > t := of_decide_eq_false hge
    rw [inD_le (by omega)] at h4
    show Ctl.go s = _
    rw [← h4]
    simp
theorem Into_eq {p : S_api_Stock} {v t : Int} {r : Int} (hc : run_Check p = some r) (hr : r = 0) (hp : Stk p) (hv0 : 0 ≤ v) (hv : v ≤ 6000) (ht0 : 0 ≤ t) (ht : t ≤ 6000) : run_Into p v t = some (inD (p.Brake - 40) t v, 0) := by
  unfold run_Into
  subst hr
  rw [hc, Option.bind_some, within_eq, within_eq, Option.bind_some, Option.bind_some, into_eq hp.brake hv0 (by omega) ht0 ht]
  simp [ifb, hv0, hv, ht0, ht]
theorem Stop_eq {p : S_api_Stock} {v : Int} {r : Int} (hc : run_Check p = some r) (hr : r = 0) (hp : Stk p) (hv0 : 0 ≤ v) (hv : v ≤ 6000) : run_Stop p v = some (inD (p.Brake - 40) 0 v, 0) := by
  unfold run_Stop
  rw [Into_eq hc hr hp hv0 hv (by omega) (by omega)]
  rfl
end Rn

/- RunAllowed: from the speed that Allowed returns one can slow down to the target in what is left; from the next greater one, if it is not above Top, not. -/
set_option linter.unusedVariables false
set_option linter.unusedSimpArgs false
set_option maxRecDepth 100000
namespace Go.Proofs.YtohpilnjebnelaaDoor
open Go Hk Hd Pl Rn

theorem allowed_tot {p : S_api_Stock} (hp : p.Name.size ≤ maxLen) {l t : Int} : Tot (run_Allowed p l t) fun x => (x.2 ≠ 0 ∧ x.1 = 0) ∨ (x.2 = 0 ∧ run_Check p = some 0 ∧ Stk p ∧ 0 ≤ l ∧ 0 ≤ t ∧ t ≤ 6000 ∧ min t p.Top ≤ x.1 ∧ x.1 ≤ p.Top ∧
    inD (p.Brake - 40) t x.1 ≤ l ∧ ∀ v, x.1 < v → v ≤ p.Top → l < inD (p.Brake - 40) t v) := by
  unfold run_Allowed
  obtain ⟨r, hc, hr⟩ := check_tot hp
  rw [hc, Option.bind_some]
  refine tot_ifb (fun h => tot_some (Or.inl ⟨by simpa using h, rfl⟩)) fun h => ?_
  have r0 : r = 0 := by simpa using h
  have hs := hr r0
  have hB := hs.brake
  have hT := hs.top
  have hd : 0 < p.Brake - 40 := by omega
  refine tot_bind (P := fun b => b = false → 0 ≤ l ∧ 0 ≤ t ∧ t ≤ 6000) ?_ fun b _ hb => ?_
  · refine tot_ifb (fun _ => tot_some fun h => by cases h) fun h0 => ?_
    rw [within_eq, Option.bind_some]
    refine tot_some fun h1 => ?_
    have h0 := of_decide_eq_false h0
    have h1 : 0 ≤ t ∧ t ≤ 6000 := by simpa using h1
    exact ⟨by omega, h1.1, h1.2⟩
  refine tot_ifb (fun _ => tot_some (Or.inl ⟨by decide, rfl⟩)) fun hbf => ?_
  obtain ⟨l0, t0, t6⟩ := hb hbf
  rw [gmin_eq]
  refine tot_bind (tot_iter (E := fun c => ∃ v, c = Ctl.go v ∧ min t p.Top ≤ v ∧ v ≤ p.Top ∧ inD (p.Brake - 40) t v ≤ l ∧ ∀ u, v < u → u ≤ p.Top → l < inD (p.Brake - 40) t u)
    (I := fun s => min t p.Top ≤ s.1 ∧ s.1 ≤ s.2 ∧ s.2 ≤ p.Top ∧ inD (p.Brake - 40) t s.1 ≤ l ∧ ∀ u, s.2 < u → u ≤ p.Top → l < inD (p.Brake - 40) t u) (μ := fun s => (s.2 - s.1).toNat)
    ⟨Int.le_refl _, by dsimp only; omega, Int.le_refl _, by dsimp only; rw [inD_le (by omega)]; exact l0, fun u h1 h2 => by dsimp only at h1; omega⟩ (Nat.lt_of_lt_of_le (by show (p.Top - min t p.Top).toNat < 6002; omega) (by decide +kernel)) ?_) fun c _ hc2 => ?_
  · rintro ⟨a, b⟩ ⟨h1, h2, h3, h4, h5⟩
    dsimp only at h1 h2 h3 h4 h5
    unfold run_Allowed_b1
    dsimp only
    refine tot_ifb (fun hlt => ?_) fun hge => tot_some ?_
    · have hlt : a < b := of_decide_eq_true hlt
      have g : gquoK .i64 (a + b + 1) 2 = some ((a + b + 1) / 2) := by
        unfold gquoK
        rw [if_neg (by decide), Int.tdiv_eq_ediv_of_nonneg (by omega)]
        exact congrArg some (w64_id (by omega) (by omega))
      rw [w64_id (x := a + b) (by omega) (by omega), w64_id (x := a + b + 1) (by omega) (by omega), g, Option.bind_some, into_eq hB (by omega) (by omega) t0 t6, Option.bind_some]
      refine tot_ifb (fun h => tot_some ?_) fun h => tot_some ?_
      · have h := of_decide_eq_true h
        exact ⟨⟨by dsimp only; omega, by dsimp only; omega, h3, h, h5⟩, by dsimp only; omega⟩
      · have h : ¬ inD (p.Brake - 40) t ((a + b + 1) / 2) ≤ l := of_decide_eq_false h
        rw [w64_id (by omega) (by omega)]
        refine ⟨⟨h1, by dsimp only; omega, by dsimp only; omega, h4, fun u hu hu2 => ?_⟩, by dsimp only; omega⟩
        dsimp only at hu
        have := inD_mono hd t0 _ ((a + b + 1) / 2) u (Nat.le_refl _) (by omega) (by omega)
        omega
    · have hge : ¬ a < b := of_decide_eq_false hge
      have : a = b := by omega
      subst this
      exact ⟨_, rfl, h1, h3, h4, h5⟩
  · obtain ⟨v, rfl, g1, g2, g3, g4⟩ := hc2
    exact tot_some (Or.inr ⟨rfl, by rw [r0], hs, l0, t0, t6, g1, g2, g3, g4⟩)
theorem runAllowed_law : RunAllowed.RunAllowedLaw := by
  intro p l t hp hl ht
  refine tot_eq ?_
  unfold fishkeep1_RunAllowed
  rw [awake, Option.bind_some]
  refine tot_bind (allowed_tot hp.1) fun x _ hx => ?_
  obtain ⟨v, e⟩ := x
  dsimp only at hx ⊢
  rcases hx with ⟨h1, h2⟩ | ⟨rfl, hc, hs, l0, t0, t6, g1, g2, g3, g4⟩
  · subst h2
    rw [show (e != 0) = true from by simpa using h1, ifb_true]
    exact tot_some rfl
  · have hT := hs.top
    simp only [bne_self_eq_false, ifb_false]
    rw [Into_eq hc rfl hs (by omega) (by omega) t0 t6, Option.bind_some]
    simp only [bne_self_eq_false, ifb_false]
    rw [show decide (inD (p.Brake - 40) t v > l) = false from decide_eq_false (by omega), ifb_false, show decide (v > p.Top) = false from decide_eq_false (by omega), ifb_false, gmin_eq, show decide (v < min t p.Top) = false from decide_eq_false (by omega), Option.bind_some, ifb_false]
    refine tot_ifb (fun _ => tot_some rfl) fun h => ?_
    have hne : v ≠ p.Top := by simpa using h
    rw [w64_id (by omega) (by omega), Into_eq hc rfl hs (by omega) (by omega) t0 t6, Option.bind_some]
    rw [show decide (inD (p.Brake - 40) t (v + 1) > l) = true from decide_eq_true (g4 (v + 1) (by omega) (by omega))]
    exact tot_some rfl
theorem runAllowed_proved : Rows.RunAllowedCardSaid := RunAllowed.close runAllowed_law
#print axioms runAllowed_proved
end Go.Proofs.YtohpilnjebnelaaDoor
