/- What the checks of package run say, and how far a train goes until it is slow enough. -/
import Derived.Test.YtohpilnjebnelaaDoorZP
import Derived.Test.YtohpilnjebnelaaDoorK5
import Derived.Test.YtohpilnjebnelaaDoorZC
set_option linter.unusedVariables false
set_option linter.unusedSimpArgs false
set_option maxRecDepth 100000
namespace Rn
open Go Hk Hd Pl

theorem awake : fishkeep1_awakeRun = some () := by kernel_rfl
theorem within_eq (a b c : Int) : run_within a b c = some (decide (b ≤ a ∧ a ≤ c)) := by
  unfold run_within
  by_cases h1 : a ≥ b <;> by_cases h2 : a ≤ c <;> simp [ifb, h1, h2]
theorem name_tot {s : ByteArray} (h : s.size ≤ maxLen) : Tot (run_name s) fun _ => True := by
  unfold run_name
  refine tot_bind' (x := (sl8 s).map fun b => (b.toNat : Int)) (by unfold sbytes; rw [if_pos (by unfold maxLen at h; omega)]) ?_
  refine tot_allX (P := fun _ _ => True) (E := fun _ => True) (fun i x hx => ?_) (fun _ => ?_) (fun _ _ => tot_some trivial)
  · unfold run_name_b1
    rw [ifb_some, Option.bind_some]
    exact tot_ifb (fun _ => tot_some trivial) (fun _ => tot_some trivial)
  · rw [ifb_some, Option.bind_some]
    exact tot_some trivial
/-- stock that may be -/
structure Stk (p : S_api_Stock) : Prop where
  length : 10 ≤ p.Length ∧ p.Length ≤ 400
  mass : 10 ≤ p.Mass ∧ p.Mass ≤ 2000
  start : 60 ≤ p.Start ∧ p.Start ≤ 150
  power : 10000 ≤ p.Power ∧ p.Power ≤ 2000000
  roll : 0 ≤ p.Roll ∧ p.Roll ≤ 10
  drag : 1000000 ≤ p.Drag ∧ p.Drag ≤ 100000000
  brake : 60 ≤ p.Brake ∧ p.Brake ≤ 150
  top : 500 ≤ p.Top ∧ p.Top ≤ 6000
  seats : 0 ≤ p.Seats ∧ p.Seats ≤ 1000
theorem check_tot {p : S_api_Stock} (h : p.Name.size ≤ maxLen) : Tot (run_Check p) fun r => r = 0 → Stk p := by
  unfold run_Check
  refine tot_bind (name_tot h) fun x _ _ => ?_
  refine tot_ifb (fun _ => tot_some fun h => absurd h (by decide)) fun _ => ?_
  refine tot_bind' (x := ()) rfl ?_
  refine tot_bind' (x := _) rfl ?_
  let num : List Int := [p.Length, p.Mass, p.Start, p.Power, p.Roll, p.Drag, p.Brake, p.Top, p.Seats]
  let bnd : List Int := [10, 400, 10, 2000, 60, 150, 10000, 2000000, 0, 10, 1000000, 100000000, 60, 150, 500, 6000, 0, 1000]
  refine tot_bind (tot_iter (E := fun c => match c with | .go _ => Stk p | .out r => r ≠ 0) (I := fun i => ∃ k : Nat, i = k ∧ k ≤ 9 ∧ ∀ j, j < k → nth 0 bnd (j * 2) ≤ nth 0 num j ∧ nth 0 num j ≤ nth 0 bnd (j * 2 + 1)) (μ := fun i => (9 - i).toNat) ⟨0, rfl, by omega, fun j hj => by omega⟩ (Nat.lt_of_lt_of_le (by decide : (9 - (0 : Int)).toNat < 10) (by decide +kernel)) ?_) fun c _ hc => ?_
  · rintro i ⟨k, rfl, hk, hI⟩
    unfold run_Check_b1
    refine tot_ifb (fun hlt => ?_) fun hge => tot_some ?_
    · have hlt : (k : Int) < 9 := of_decide_eq_true hlt
      refine tot_bind' (idx_nth 0 (xs := num) (by omega) (by show (k : Int) < 9; omega)) ?_
      have g : gix 9 (k : Int) = some () := by unfold gix; rw [if_pos (by omega)]
      rw [g]
      refine tot_bind' rfl (tot_bind' (x := ()) rfl ?_)
      refine tot_bind' (idx_nth 0 (xs := bnd) (by omega) (by show _ < (18 : Int); omega)) ?_
      refine tot_bind' rfl (tot_bind' (x := ()) rfl ?_)
      refine tot_bind' (idx_nth 0 (xs := bnd) (by omega) (by show _ < (18 : Int); omega)) ?_
      rw [within_eq, Option.bind_some]
      refine tot_ifb (fun _ => tot_some (show (2 : Int) ≠ 0 by decide)) fun hb => tot_some ?_
      have hb : nth 0 bnd (0 + (k : Int) * 2 + 0 * 1) ≤ nth 0 num k ∧ nth 0 num k ≤ nth 0 bnd (0 + (k : Int) * 2 + 1 * 1) := by simpa using hb
      rw [show (0 + (k : Int) * 2 + 0 * 1) = (k : Int) * 2 by omega, show (0 + (k : Int) * 2 + 1 * 1) = (k : Int) * 2 + 1 by omega] at hb
      rw [w64_id (by omega) (by omega)]
      refine ⟨⟨k + 1, by omega, by omega, fun j hj => ?_⟩, by omega⟩
      rcases Nat.lt_or_ge j k with h | h
      · exact hI j h
      · have : j = k := by omega
        subst this; exact hb
    · have hge : ¬ (k : Int) < 9 := of_decide_eq_false hge
      have : k = 9 := by omega
      subst this
      exact ⟨hI 0 (by omega), hI 1 (by omega), hI 2 (by omega), hI 3 (by omega), hI 4 (by omega), hI 5 (by omega), hI 6 (by omega), hI 7 (by omega), hI 8 (by omega)⟩
  · refine tot_on (fun s hs => tot_some fun _ => ?_) (fun r hr => tot_some fun h => ?_)
    · subst hs; exact hc
    · subst hr; exact absurd h hc
/-- how far a train goes until its speed is t; d: how much slower it becomes in a second -/
def inD (d t v : Int) : Int := if h : v ≤ t ∨ d ≤ 0 then 0 else (v + max t (v - d) + 1) / 2 + inD d t (max t (v - d))
termination_by (v - t).toNat
decreasing_by omega
theorem inD_le {d t v : Int} (h : v ≤ t) : inD d t v = 0 := by
  unfold inD; rw [dif_pos (Or.inl h)]
theorem inD_gt {d t v : Int} (hd : 0 < d) (h : t < v) : inD d t v = (v + max t (v - d) + 1) / 2 + inD d t (max t (v - d)) := by
  conv => lhs; unfold inD
  rw [dif_neg (by omega)]
theorem inD_bound {d t : Int} (hd : 0 < d) (ht : 0 ≤ t) : ∀ (n : Nat) (v : Int), (v - t).toNat ≤ n → v ≤ 6001 → 0 ≤ inD d t v ∧ inD d t v ≤ 6001 * (if v ≤ t then 0 else v - t)
  | n, v, hn, hv => by
    by_cases h : v ≤ t
    · rw [inD_le h, if_pos h]; omega
    · rw [inD_gt hd (by omega), if_neg h]
      match n, hn with
      | 0, hn => omega
      | n + 1, hn =>
        have ih := inD_bound hd ht n (max t (v - d)) (by omega) (by omega)
        split at ih <;> omega
theorem inD_mono {d t : Int} (hd : 0 < d) (ht : 0 ≤ t) : ∀ (n : Nat) (v v' : Int), (v' - t).toNat ≤ n → v ≤ v' → v' ≤ 6001 → inD d t v ≤ inD d t v'
  | n, v, v', hn, hv, h6 => by
    by_cases h : v ≤ t
    · rw [inD_le h]; exact (inD_bound hd ht _ v' (Nat.le_refl _) h6).1
    · rw [inD_gt hd (by omega), inD_gt hd (by omega : t < v')]
      match n, hn with
      | 0, hn => omega
      | n + 1, hn =>
        have ih := inD_mono hd ht n (max t (v - d)) (max t (v' - d)) (by omega) (by omega) (by omega)
        omega
theorem gone_eq {v w : Int} (h0 : 0 ≤ v) (h1 : v ≤ 6001) (h2 : 0 ≤ w) (h3 : w ≤ 6001) : run_gone v w = some ((v + w + 1) / 2) := by
  unfold run_gone
  rw [w64_id (x := v + w) (by omega) (by omega), w64_id (x := v + w + 1) (by omega) (by omega)]
  have : gquoK .i64 (v + w + 1) 2 = some ((v + w + 1) / 2) := by
    unfold gquoK
    rw [if_neg (by decide), Int.tdiv_eq_ediv_of_nonneg (by omega)]
    exact congrArg some (w64_id (by omega) (by omega))
  rw [this]; rfl
theorem gmax_max (a b : Int) : gmax a b = max a b := by unfold gmax; omega
theorem into_eq {p : S_api_Stock} {v t : Int} (hp : 60 ≤ p.Brake ∧ p.Brake ≤ 150) (hv0 : 0 ≤ v) (hv : v ≤ 6001) (ht0 : 0 ≤ t) (ht : t ≤ 6000) : run_into p v t = some (inD (p.Brake - 40) t v) := by
  refine tot_eq ?_
  unfold run_into
  have hd : 0 < p.Brake - 40 := by omega
  refine tot_bind (tot_iter (E := fun c => c = Ctl.go (inD (p.Brake - 40) t v)) (I := fun s => 0 ≤ s.1 ∧ s.1 ≤ 6001 ∧ 0 ≤ s.2 ∧ s.2 + inD (p.Brake - 40) t s.1 = inD (p.Brake - 40) t v) (μ := fun s => (s.1 - t).toNat) ⟨hv0, hv, by dsimp only; omega, by dsimp only; omega⟩ (Nat.lt_of_lt_of_le (by show (v - t).toNat < 6002; omega) (by decide +kernel)) ?_) fun c _ hc => by subst hc; exact tot_some rfl
  rintro ⟨u, s⟩ ⟨h1, h2, h3, h4⟩
  dsimp only at h1 h2 h3 h4
  unfold run_into_b1
  dsimp only
  refine tot_ifb (fun hlt => ?_) fun hge => tot_some ?_
  · have hlt : u > t := of_decide_eq_true hlt
    rw [w64_id (x := p.Brake - 40) (by omega) (by omega), w64_id (x := u - (p.Brake - 40)) (by omega) (by omega), gmax_max, gone_eq (by omega) (by omega) (by omega) (by omega), Option.bind_some]
    refine tot_some ?_
    have e := inD_gt hd hlt
    have b := inD_bound hd ht0 _ v (Nat.le_refl _) hv
    have b2 := inD_bound hd ht0 _ (max t (u - (p.Brake - 40))) (Nat.le_refl _) (by omega)
    have hb : inD (p.Brake - 40) t v ≤ 36012001 := by have := b.2; split at this <;> omega
    rw [w64_id (by omega) (by omega)]
    refine ⟨⟨?_, ?_, ?_, ?_⟩, ?_⟩
    all_goals dsimp only
    all_goals omega
  · have hge : ¬ u > t := of_decide_eq_false hge
    rw [inD_le (by omega)] at h4
    show Ctl.go s = _
    rw [← h4]
    simp
theorem Into_eq {p : S_api_Stock} {v t : Int} {r : Int} (hc : run_Check p = some r) (hr : r = 0) (hp : Stk p) (hv0 : 0 ≤ v) (hv : v ≤ 6000) (ht0 : 0 ≤ t) (ht : t ≤ 6000) : run_Into p v t = some (inD (p.Brake - 40) t v, 0) := by
  unfold run_Into
  subst hr
  rw [hc, Option.bind_some, within_eq, within_eq, Option.bind_some, Option.bind_some, into_eq hp.brake hv0 (by omega) ht0 ht]
  simp [ifb, hv0, hv, ht0, ht]
theorem Stop_eq {p : S_api_Stock} {v : Int} {r : Int} (hc : run_Check p = some r) (hr : r = 0) (hp : Stk p) (hv0 : 0 ≤ v) (hv : v ≤ 6000) : run_Stop p v = some (inD (p.Brake - 40) 0 v, 0) := by
  unfold run_Stop
  rw [Into_eq hc hr hp hv0 hv (by omega) (by omega)]
  rfl
end Rn

/- RunApart: holds that come later by Headway, or by more, do not conflict. -/
set_option linter.unusedVariables false
set_option linter.unusedSimpArgs false
set_option maxRecDepth 100000
namespace Go.Proofs.YtohpilnjebnelaaDoor
open Go Hk Hd Pl Rn

theorem ifbT {α : Type} {b : Bool} {x y : Option α} (hx : Tot x fun _ => True) (hy : Tot y fun _ => True) : Tot (ifb b x y) fun _ => True := by cases b <;> assumption
theorem meets_tot (a b : S_api_Need) : Tot (line_Meets a b) fun _ => True := by
  have k1 : ∀ x, Tot (line_Meets_1 x) fun _ => True := fun x => by
    unfold line_Meets_1
    exact tot_bind (ifbT (tot_some trivial) (tot_some trivial)) fun _ _ _ => tot_some trivial
  have k2 : ∀ x y, Tot (line_Meets_2 x y) fun _ => True := fun x y => by
    unfold line_Meets_2
    exact tot_bind (ifbT (ifbT (tot_some trivial) (tot_bind (k1 y) fun _ _ _ => ifbT (tot_some trivial) (tot_some trivial))) (tot_some trivial)) fun _ _ _ => tot_some trivial
  have k3 : ∀ x y, Tot (line_Meets_3 x y) fun _ => True := fun x y => by
    unfold line_Meets_3
    exact tot_bind (ifbT (tot_some trivial) (tot_some trivial)) fun _ _ _ => tot_some trivial
  have rest : Tot ((line_Meets_2 a b).bind fun (x25 : Bool) => (ifb x25 (some true) ((line_Meets_2 b a).bind fun (x26 : Bool) => (ifb x26 (some true) ((line_Meets_3 a b).bind fun (x27 : Bool) => (ifb x27 (some true) ((line_Meets_3 b a).bind fun (x28 : Bool) => (some x28)))))))) fun _ => True :=
    tot_bind (k2 a b) fun _ _ _ => ifbT (tot_some trivial) (tot_bind (k2 b a) fun _ _ _ => ifbT (tot_some trivial) (tot_bind (k3 a b) fun _ _ _ => ifbT (tot_some trivial) (tot_bind (k3 b a) fun _ _ _ => tot_some trivial)))
  unfold line_Meets
  refine ifbT (tot_some trivial) (tot_bind (tot_bind (k1 a) fun _ _ _ => ifbT (tot_bind (k1 b) fun _ _ _ => ifbT (tot_some trivial) rest) rest) fun _ _ _ => tot_some trivial)
def Rg (h : S_api_Hold) : Prop := -1099511627776 ≤ h.From ∧ h.From ≤ 1099511627776 ∧ -1099511627776 ≤ h.To ∧ h.To ≤ 1099511627776
theorem headway_tot {a b : List S_api_Hold} (ha : ∀ x ∈ a, Rg x) (hb : ∀ x ∈ b, Rg x) :
    Tot (run_Headway a b) fun d => 0 ≤ d ∧ d ≤ 2199023255552 ∧ ∀ x ∈ a, ∀ y ∈ b, line_Meets x.Need y.Need = some true → x.To - y.From ≤ d := by
  unfold run_Headway
  refine tot_loopX (I := fun i d => 0 ≤ d ∧ d ≤ 2199023255552 ∧ ∀ j x, j < i → a[j]? = some x → ∀ y ∈ b, line_Meets x.Need y.Need = some true → x.To - y.From ≤ d) (J := fun d => 0 ≤ d ∧ d ≤ 2199023255552 ∧ ∀ x ∈ a, ∀ y ∈ b, line_Meets x.Need y.Need = some true → x.To - y.From ≤ d) (E := fun _ => False)
    ⟨by decide, by decide, fun j x hj => by omega⟩ (fun i x d hx hI => ?_) (fun d hI => ⟨hI.1, hI.2.1, fun x hx => ?_⟩) (fun d hJ => tot_some hJ) (fun _ hf => hf.elim)
  · obtain ⟨d0, d1, hd⟩ := hI
    have hxr := ha x (List.mem_of_getElem? hx)
    unfold run_Headway_b1
    refine tot_loopX (I := fun k e => d ≤ e ∧ e ≤ 2199023255552 ∧ ∀ j y, j < k → b[j]? = some y → line_Meets x.Need y.Need = some true → x.To - y.From ≤ e) (J := fun e => d ≤ e ∧ e ≤ 2199023255552 ∧ ∀ y ∈ b, line_Meets x.Need y.Need = some true → x.To - y.From ≤ e) (E := fun _ => False)
      ⟨Int.le_refl _, d1, fun j y hj => by omega⟩ (fun k y e hy hI2 => ?_) (fun e hI2 => ⟨hI2.1, hI2.2.1, fun y hy => ?_⟩) (fun e hJ => tot_some ⟨by have := hJ.1; omega, hJ.2.1, fun j x' hj hx' y hy hm => ?_⟩) (fun _ hf => hf.elim)
    · obtain ⟨e0, e1, he⟩ := hI2
      have hyr := hb y (List.mem_of_getElem? hy)
      unfold run_Headway_b2
      refine tot_bind (meets_tot _ _) fun m hm _ => ?_
      unfold Rg at hxr hyr
      refine tot_ifb (fun ht => tot_some ?_) fun hf => tot_some ?_
      · rw [w64_id (by omega) (by omega), gmax_max]
        refine ⟨by omega, by omega, fun j y' hj hy' hm' => ?_⟩
        rcases Nat.lt_or_ge j k with h | h
        · have := he j y' h hy' hm'; omega
        · have : j = k := by omega
          subst this
          rw [hy] at hy'
          injection hy' with hy'
          subst hy'
          omega
      · refine ⟨e0, e1, fun j y' hj hy' hm' => ?_⟩
        rcases Nat.lt_or_ge j k with h | h
        · exact he j y' h hy' hm'
        · have : j = k := by omega
          subst this
          rw [hy] at hy'
          injection hy' with hy'
          subst hy'
          rw [hm, hf] at hm'
          cases hm'
    · obtain ⟨j, hj⟩ := List.getElem?_of_mem hy
      exact hI2.2.2 j y (List.getElem?_eq_some_iff.1 hj).1 hj
    · rcases Nat.lt_or_ge j i with h | h
      · have := hd j x' h hx' y hy hm; have := hJ.1; omega
      · have : j = i := by omega
        subst this
        rw [hx] at hx'
        injection hx' with hx'
        subst hx'
        exact hJ.2.2 y hy hm
  · obtain ⟨j, hj⟩ := List.getElem?_of_mem hx
    exact hI.2.2 j x (List.getElem?_eq_some_iff.1 hj).1 hj
def shift (d : Int) (h : S_api_Hold) : S_api_Hold := ⟨h.Need, h.From + d, h.To + d⟩
theorem conflicts_none {a b : List S_api_Hold} {d : Int} (hd : ∀ x ∈ a, ∀ y ∈ b, line_Meets x.Need y.Need = some true → x.To ≤ y.From) : run_Conflicts a b = some [] := by
  refine tot_eq ?_
  unfold run_Conflicts
  refine tot_loopX (I := fun _ s => s = []) (J := fun s => s = []) (E := fun _ => False) rfl (fun i x s hx hs => ?_) (fun s h => h) (fun s h => tot_some h) (fun _ hf => hf.elim)
  subst hs
  unfold run_Conflicts_b1
  refine tot_loopX (I := fun _ s => s = []) (J := fun s => s = []) (E := fun _ => False) rfl (fun k y s hy hs => ?_) (fun s h => h) (fun s h => tot_some h) (fun _ hf => hf.elim)
  subst hs
  unfold run_Conflicts_b2
  refine tot_bind (P := fun c => c = false) ?_ fun c _ hc => by subst hc; exact tot_some rfl
  refine tot_bind (meets_tot _ _) fun m hm _ => ?_
  refine tot_ifb (fun ht => ?_) fun _ => tot_some rfl
  subst ht
  have := hd x (List.mem_of_getElem? hx) y (List.mem_of_getElem? hy) hm
  refine tot_ifb (fun _ => tot_some (decide_eq_false (by omega))) fun _ => tot_some rfl
theorem runApart_law : RunApart.RunApartLaw := by
  intro a b more ha hb hm hwa hwb
  refine tot_eq ?_
  unfold fishkeep1_RunApart
  rw [awake, Option.bind_some]
  refine tot_bind (P := fun c => c = false → 0 ≤ more ∧ more ≤ 1099511627776) ?_ fun c _ hc => ?_
  · refine tot_ifb (fun _ => tot_some fun h => by cases h) fun h0 => tot_some fun h1 => ?_
    have h0 := of_decide_eq_false h0
    have h1 := of_decide_eq_false h1
    exact ⟨by omega, by omega⟩
  refine tot_ifb (fun _ => tot_some rfl) fun hcf => ?_
  obtain ⟨m0, m1⟩ := hc hcf
  have hall : ∀ l : List S_api_Hold, Tot ((forX fishkeep1_RunApart_b2 l ()).bind fun c26 => Ctl.on c26 (fun s21 => (some (Ctl.go (σ := Unit) (X := Ctl Unit Bool) ()))) (fun r25 => (some (.out (.out r25))))) (fun c => match c with | .go _ => ∀ x ∈ l, Rg x | .out (.go _) => False | .out (.out y) => y = true) := fun l => by
    refine tot_allX (P := fun _ x => Rg x) (E := fun y => y = true) (fun i x hx => ?_) (fun hP => tot_some (mem_of_all hP)) (fun y hy => tot_some hy)
    unfold fishkeep1_RunApart_b2
    refine tot_bind (P := fun c => c = false → Rg x) ?_ fun c _ hc => tot_ifb (fun _ => tot_some rfl) fun hf => tot_some (hc hf)
    refine tot_ifb (fun _ => tot_some fun h => by cases h) fun h0 => ?_
    refine tot_ifb (fun _ => tot_some fun h => by cases h) fun h1 => ?_
    refine tot_ifb (fun _ => tot_some fun h => by cases h) fun h2 => tot_some fun h3 => ?_
    have h0 := of_decide_eq_false h0
    have h1 := of_decide_eq_false h1
    have h2 := of_decide_eq_false h2
    have h3 := of_decide_eq_false h3
    exact ⟨by omega, by omega, by omega, by omega⟩
  refine tot_allN (P := fun i => (i = 0 → ∀ x ∈ a, Rg x) ∧ (i = 1 → ∀ x ∈ b, Rg x)) (E := fun y => y = true) (fun i hi => ?_) (fun hP => ?_) (fun y hy => by subst hy; exact tot_some rfl)
  · unfold fishkeep1_RunApart_b1
    have hi : i = 0 ∨ i = 1 := by simp only [List.length_cons, List.length_nil] at hi; omega
    rcases hi with rfl | rfl
    · refine tot_bind' (x := a) rfl (tot_mono (hall a) fun c hc => ?_)
      rcases c with _ | (_ | y)
      · exact ⟨fun _ => hc, fun h => by omega⟩
      · exact hc
      · exact hc
    · refine tot_bind' (x := b) rfl (tot_mono (hall b) fun c hc => ?_)
      rcases c with _ | (_ | y)
      · exact ⟨fun h => by omega, fun _ => hc⟩
      · exact hc
      · exact hc
  have hra := (hP 0 (by simp)).1 rfl
  have hrb := (hP 1 (by simp)).2 rfl
  refine tot_bind (headway_tot hra hrb) fun d _ hd => ?_
  obtain ⟨d0, d1, hd⟩ := hd
  refine tot_loopX (I := fun i s => s = (b.take i).map (shift (d + more))) (J := fun s => s = b.map (shift (d + more))) (E := fun y => y = true) (by simp) (fun i x s hx hs => ?_) (fun s hs => by rw [List.take_length] at hs; exact hs) (fun s hs => ?_) (fun y hy => by subst hy; exact tot_some rfl)
  · have hxr := hrb x (List.mem_of_getElem? hx)
    unfold Rg at hxr
    have hi := (List.getElem?_eq_some_iff.1 hx).1
    unfold fishkeep1_RunApart_b3
    rw [w64_id (x := x.From + d) (by omega) (by omega), w64_id (x := x.From + d + more) (by omega) (by omega), w64_id (x := x.To + d) (by omega) (by omega), w64_id (x := x.To + d + more) (by omega) (by omega)]
    rw [ifb_or, Option.bind_some]
    refine tot_ifb (fun _ => tot_some rfl) fun _ => ?_
    have hlen : s.length = i := by rw [hs, List.length_map, List.length_take]; omega
    refine tot_bind' (x := s ++ [⟨x.Need, x.From + d + more, x.To + d + more⟩]) (by unfold gapp; rw [if_pos ⟨by simp only [apRoom, List.length_singleton]; omega, by simp only [maxLen, List.length_singleton]; omega⟩]) (tot_some ?_)
    show s ++ _ = _
    rw [hs, List.take_add_one, hx, List.map_append]
    simp only [Option.toList, List.map_cons, List.map_nil, shift, Int.add_assoc]
  · subst hs
    rw [decide_eq_true d0, ifb_true, conflicts_none (d := 0) fun x hx y hy hmt => ?_]
    · exact tot_some rfl
    · obtain ⟨z, hz, rfl⟩ := List.mem_map.1 hy
      have := hd x hx z hz hmt
      show x.To ≤ z.From + (d + more)
      omega
theorem runApart_proved : Rows.RunApartCardSaid := RunApart.close runApart_law
#print axioms runApart_proved
end Go.Proofs.YtohpilnjebnelaaDoor
