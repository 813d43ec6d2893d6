/- FleetAssigned: the law. -/
import Derived.Test.YtmhpeefjjclpfaaZ2
import Derived.Test.YtmhpeefjjclpfaaZC
set_option linter.unusedVariables false
set_option linter.unusedSimpArgs false
set_option maxRecDepth 100000
namespace Fl
open Go Hk Hd Pl Hs

section
variable {l : List S_fleet_Task} {turn : Int} {sets : List S_fleet_Set} {s : S_fleet_Shop}
def rep (sets : List S_fleet_Set) : List (List Int) := List.replicate sets.length []
theorem nth_rep (i : Int) : nth [] (rep sets) i = [] := by
  unfold nth rep
  rw [List.getElem?_replicate]
  split <;> rfl
theorem cnt_rep (j : Nat) : cntT (rep sets) j = 0 := by
  unfold cntT
  rw [sL_cong (g := fun _ => 0) fun t ht => by
    have := (List.mem_replicate.1 ht).2
    subst this; rfl]
  exact sL_zero _
theorem at0 {o : List Int} (hl : TasksOk l) (ho : OOk l o) : At l turn sets o 0 0 0 (rep sets) where
  tn := ⟨by simp [rep], fun i _ => by rw [nth_rep]; exact ch_nil, fun i _ h => absurd (nth_rep _) h⟩
  i0 := by omega
  i1 := by omega
  m0 := by omega
  mi h := by have hk := ho.at (i := 0) (by omega) h; have := (hl.at hk.1 hk.2).u0; omega
  f0 := by omega
  f1 := by omega
  cnt j hj := by
    rw [cnt_rep]
    unfold Pl
    simp
def total (l : List S_fleet_Task) : Int := sumN (units l) l.length
/-- F is a way to give the tasks -/
def Way (l : List S_fleet_Task) (turn : Int) (sets : List S_fleet_Set) (F : List (List Int)) : Prop := ∃ o, fleet_order l = some o ∧ OOk l o ∧ Gv l turn sets o 0 0 0 (rep sets) F
theorem assign_ok (l : List S_fleet_Task) (turn : Int) (sets : List S_fleet_Set) (s : S_fleet_Shop) : Tot (fleet_Assign l turn sets s) fun r => (r.2.1 ≠ 0 → r.1 = [] ∧ r.2.2 = []) ∧
    (r.2.1 = 0 → Ok l turn ∧ SetsOk sets s 6 ∧ total l ≤ 8 ∧ Way l turn sets r.1 ∧ Good l sets s r.1 ∧ r.2.2 = outs l sets s r.1 r.1.length ∧ ∀ F, Way l turn sets F → Good l sets s F → cost l sets s r.1 ≤ cost l sets s F) ∧
    (r.2.1 ≠ 0 → Ok l turn → SetsOk sets s 6 → total l ≤ 8 → ∀ F, Way l turn sets F → ¬ Good l sets s F) := by
  unfold fleet_Assign
  refine tot_bind (turn_tot l turn) fun e _ he => ?_
  refine tot_ifb (fun q => ?_) fun q => ?_
  · have q : e ≠ 0 := by simpa using q
    exact tot_some ⟨fun _ => ⟨rfl, rfl⟩, fun h => absurd h q, fun _ h => absurd (he.2 h) q⟩
  have q : e = 0 := by simpa using q
  have hok := he.1 q
  refine tot_bind (sets_tot sets s 6) fun e2 _ he2 => ?_
  refine tot_ifb (fun q => ?_) fun q => ?_
  · have q : e2 ≠ 0 := by simpa using q
    exact tot_some ⟨fun _ => ⟨rfl, rfl⟩, fun h => absurd h q, fun _ _ h => absurd (he2.2 h) q⟩
  have q2 : e2 = 0 := by simpa using q
  have hsets := he2.1 q2
  have hll := hok.len
  have hsl := hsets.len
  have hub : ∀ i : Nat, i ≤ l.length → 0 ≤ sumN (units l) i ∧ sumN (units l) i ≤ i * 4 := fun i hi => by
    refine ⟨sumN_pos fun j hj => by have := units_bd hok (j := j) (by omega); omega, ?_⟩
    have := sumN_le (f := units l) (g := fun _ => 4) (n := i) fun j hj => (units_bd hok (by omega)).2
    rw [sumN_const] at this
    exact this
  refine tot_loopX (I := fun i v => v = sumN (units l) i) (J := fun v => v = total l) (E := fun _ => False) rfl (fun i t v ht hI => ?_) (fun v hI => hI) (fun v hJ => ?_) (fun y _ => y.elim)
  · subst hI
    have hi := (List.getElem?_eq_some_iff.1 ht).1
    have et := tk_get ht
    have h1 := hub (i + 1) (by omega)
    have e : sumN (units l) (i + 1) = sumN (units l) i + t.Units := by show sumN (units l) i + units l i = _; unfold units; rw [et]
    unfold fleet_Assign_b1
    rw [w64_id (by omega) (by omega)]
    exact tot_some e.symm
  subst hJ
  refine tot_ifb (fun q => ?_) fun q => ?_
  · have q := of_decide_eq_true q
    exact tot_some ⟨fun _ => ⟨rfl, rfl⟩, fun h => (by cases h), fun _ _ _ h => by omega⟩
  have q := of_decide_eq_false q
  obtain ⟨o, ho1, ho2, _⟩ := order_ok hok.len
  have ho : OOk l o := ⟨ho2⟩
  refine tot_bind' (x := (l, turn, sets, s.Place, s.Long, s.Limit, (0 : Int), o, rep sets)) ?_ ?_
  · rw [ho1]
    simp only [Option.bind_some]
    rw [gmake_eq (by omega) (by have : (1000 : Nat) ≤ mkRoom := (by decide); omega) (by have : (1000 : Nat) ≤ maxLen := (by decide); omega), show ((sets.length : Int)).toNat = sets.length by omega]
    rfl
  have hwt := wt_bd hok.toTasksOk ho (a := 0) (b := o.length) (by omega) (by omega)
  have hol := ho.len
  refine tot_bind (give_ok (s := s) hok hsets ho bigN 0 0 0 (rep sets) none 0 (fun _ => False) (at0 hok.toTasksOk ho) (by have : 1000 < bigN := (by decide); unfold mu; simp only [Int.toNat_zero]; omega) (.inl ⟨rfl, fun F h => h.elim⟩)) fun r _ hr => ?_
  obtain ⟨b, m, rfl, hb⟩ := hr
  have hw : ∀ F, Way l turn sets F ↔ Gv l turn sets o 0 0 0 (rep sets) F := fun F => ⟨fun ⟨o', h1, _, h2⟩ => by rw [ho1] at h1; injection h1 with h1; subst h1; exact h2, fun h => ⟨o, ho1, ho, h⟩⟩
  unfold ns
  dsimp only
  refine tot_bind (P := fun c : Bool => c = true ↔ b = none) ?_ fun c _ hc => ?_
  · refine tot_ifb (fun q => ?_) fun q => ?_
    · have q := Option.isNone_iff_eq_none.1 q
      rcases hb with ⟨h1, h2⟩ | ⟨B, h1, _⟩
      · refine tot_ifb (fun _ => tot_some ⟨fun _ => q, fun _ => rfl⟩) fun q3 => ?_
        have q3 := of_decide_eq_false q3
        by_cases q4 : (sets.length : Int) > 0
        · exact tot_some ⟨fun _ => q, fun _ => decide_eq_true q4⟩
        · exfalso
          refine h2 (rep sets) (.inr (.fin (by omega))) fun i hi => ?_
          simp [rep] at hi
          omega
      · rw [h1] at q; cases q
    · exact tot_some ⟨fun e => (by cases e), fun e => by rw [e] at q; cases q⟩
  refine tot_ifb (fun q5 => ?_) fun q5 => ?_
  · have q5 := hc.1 q5
    rcases hb with ⟨h1, h2⟩ | ⟨B, h1, _⟩
    · exact tot_some ⟨fun _ => ⟨rfl, rfl⟩, fun h => (by cases h), fun _ _ _ _ F hF => h2 F (.inr ((hw F).1 hF))⟩
    · rw [h1] at q5; cases q5
  rcases hb with ⟨h1, _⟩ | ⟨B, h1, h2, h3, h4, h5⟩
  · rw [hc.2 h1] at q5; cases q5
  subst h1
  have hB : Gv l turn sets o 0 0 0 (rep sets) B := h2.elim False.elim id
  have hT := (hB.fits hok.toTasksOk ho (at0 hok.toTasksOk ho)).1
  have hTl := hT.len
  simp only [Option.getD_some]
  refine tot_loopX (I := fun i v => v = outs l sets s B i) (J := fun v => v = outs l sets s B B.length) (E := fun _ => False) rfl (fun i t v ht hI => ?_) (fun v hI => hI) (fun v hJ => ?_) (fun y _ => y.elim)
  · subst hI
    have hi := (List.getElem?_eq_some_iff.1 ht).1
    have et : nth [] B (i : Int) = t := nth_nat [] ht
    have hch := hT.ch i hi
    rw [et] at hch
    have hxo : SetOk (nth xz sets (i : Int)) s := hsets.all _ (nth_mem xz (by omega) (by omega))
    have hp := pos_eq hok.toTasksOk hch hsets.shop hxo (by have := ch_len hok hch; omega)
    unfold fleet_Assign_b2
    refine tot_bind' (idx_nth xz (by omega) (by omega)) ?_
    refine tot_bind' hp.1 ?_
    refine tot_bind' (gapp_eq (by rw [outs_len]; simp; have : (5000 : Nat) ≤ apRoom := (by decide); omega) (by rw [outs_len]; simp; have : (1000 : Nat) ≤ maxLen := (by decide); omega)) ?_
    exact tot_some (by rw [outs_succ, et])
  · subst hJ
    exact tot_some ⟨fun h => absurd rfl h, fun _ => ⟨hok, hsets, by omega, (hw B).2 hB, h3, rfl, fun F hF hg => by rw [h4]; exact h5 F (.inr ((hw F).1 hF)) hg⟩, fun h => absurd rfl h⟩
theorem Way.fits {F : List (List Int)} (hok : Ok l turn) (h : Way l turn sets F) : Tn l turn sets F ∧ ∀ j : Nat, j < l.length → cntT F j = units l j := by
  obtain ⟨o, _, ho, h⟩ := h
  exact h.fits hok.toTasksOk ho (at0 hok.toTasksOk ho)
theorem Way.more (x : S_fleet_Set) {F : List (List Int)} (h : Way l turn sets F) : Way l turn (sets ++ [x]) (F ++ [[]]) := by
  obtain ⟨o, h1, ho, h⟩ := h
  refine ⟨o, h1, ho, ?_⟩
  have := h.more x (by simp [rep])
  have e : rep (sets ++ [x]) = rep sets ++ [[]] := by unfold rep; rw [List.length_append]; exact List.replicate_succ'
  rw [e]; exact this
theorem turnsOk {F : List (List Int)} (hok : Ok l turn) (h : Way l turn sets F) : TurnsOk l turn F := by
  obtain ⟨h1, h2⟩ := h.fits hok
  have hch : ∀ t ∈ F, Ch l turn t := fun t ht => by
    obtain ⟨i, hi, rfl⟩ := List.mem_iff_getElem.1 ht
    have := h1.ch i hi
    rwa [nth_get [] hi] at this
  exact ⟨hch, fun t ht => by have := ch_len hok (hch t ht); omega, h2⟩
theorem equal_self (xs : List Int) : slices_Equal_int_int xs xs = some true := by
  refine tot_eq (?_ : Tot _ (· = true))
  unfold slices_Equal_int_int
  refine tot_ifb (fun q => by simp at q) fun _ => ?_
  refine tot_allX (P := fun _ _ => True) (E := fun _ => False) (fun i x hx => ?_) (fun _ => tot_some rfl) (fun y hy => hy.elim)
  have hi := (List.getElem?_eq_some_iff.1 hx).1
  unfold slices_Equal_int_int_b1
  refine tot_bind' (idx_nth 0 (by omega) (by omega)) ?_
  rw [nth_nat 0 hx]
  refine tot_ifb (fun q => by simp at q) fun _ => tot_some trivial
theorem equalF_self (xs : List (List Int)) : slices_EqualFunc_int_int_int_int xs xs = some true := by
  refine tot_eq (?_ : Tot _ (· = true))
  unfold slices_EqualFunc_int_int_int_int
  refine tot_ifb (fun q => by simp at q) fun _ => ?_
  refine tot_allX (P := fun _ _ => True) (E := fun _ => False) (fun i x hx => ?_) (fun _ => tot_some rfl) (fun y hy => hy.elim)
  have hi := (List.getElem?_eq_some_iff.1 hx).1
  unfold slices_EqualFunc_int_int_int_int_b1
  refine tot_bind' (idx_nth [] (by omega) (by omega)) ?_
  rw [nth_nat [] hx]
  refine tot_bind' (equal_self x) ?_
  exact tot_some trivial
theorem many_ok {T : List (List Int)} (h : ∀ i : Nat, i < T.length → (pOf l s (nth xz sets (i : Int)) (nth [] T (i : Int))).2.length ≤ 200) (hn : T.length ≤ 6) : fishkeep2_FleetAssigned_1 (outs l sets s T T.length) = some (cost l sets s T) := by
  refine tot_eq (?_ : Tot _ (· = cost l sets s T))
  have hsum : ∀ i : Nat, i ≤ T.length → 0 ≤ sumN (fun i => ((pOf l s (nth xz sets (i : Int)) (nth [] T (i : Int))).2.length : Int)) i ∧ sumN (fun i => ((pOf l s (nth xz sets (i : Int)) (nth [] T (i : Int))).2.length : Int)) i ≤ i * 200 := fun i hi => by
    refine ⟨sumN_pos fun j hj => by omega, ?_⟩
    have := sumN_le (f := fun i => ((pOf l s (nth xz sets (i : Int)) (nth [] T (i : Int))).2.length : Int)) (g := fun _ => 200) (n := i) fun j hj => by have := h j (by omega); omega
    rw [sumN_const] at this
    exact this
  unfold fishkeep2_FleetAssigned_1
  refine tot_loopX (I := fun i v => v = sumN (fun i => ((pOf l s (nth xz sets (i : Int)) (nth [] T (i : Int))).2.length : Int)) i) (J := fun v => v = cost l sets s T) (E := fun _ => False) rfl (fun i y v hy hI => ?_) (fun v hI => by rw [hI, outs_len]; rfl) (fun v hJ => tot_some hJ) (fun y _ => y.elim)
  subst hI
  obtain ⟨hi, he⟩ := List.getElem?_eq_some_iff.1 hy
  rw [outs_len] at hi
  have e : y = (pOf l s (nth xz sets (i : Int)) (nth [] T (i : Int))).2 := by rw [← he]; simp [outs]
  have h1 := hsum (i + 1) (by omega)
  have e2 : sumN (fun i => ((pOf l s (nth xz sets (i : Int)) (nth [] T (i : Int))).2.length : Int)) (i + 1) = sumN (fun i => ((pOf l s (nth xz sets (i : Int)) (nth [] T (i : Int))).2.length : Int)) i + (y.length : Int) := by rw [e]; rfl
  unfold fishkeep2_FleetAssigned_1_b1
  rw [w64_id (by omega) (by omega)]
  exact tot_some e2.symm
theorem pos_all {F : List (List Int)} (hok : Ok l turn) (hsets : SetsOk sets s 6) (h : Tn l turn sets F) (i : Nat) (hi : i < F.length) : (pOf l s (nth xz sets (i : Int)) (nth [] F (i : Int))).2.length ≤ 200 := by
  have hFl := h.len
  have hch := h.ch i hi
  have hxo : SetOk (nth xz sets (i : Int)) s := hsets.all _ (nth_mem xz (by omega) (by omega))
  exact (pos_eq hok.toTasksOk hch hsets.shop hxo (by have := ch_len hok hch; omega)).2.1
theorem awake : fishkeep2_awakeFleet = some true := by kernel_rfl
theorem sets_ : fishkeep2_sets = some true := by kernel_rfl
theorem law : Go.Proofs.Ytmhpeefjjclpfaa.FleetAssigned.FleetAssignedLaw := by
  intro l turn sets s _ _ _ _
  refine tot_eq (?_ : Tot _ (· = true))
  unfold fishkeep2_FleetAssigned
  rw [awake, sets_]
  simp only [Option.bind_some, Bool.not_true, ifb_false]
  refine tot_bind (assign_ok l turn sets s) fun r _ hr => ?_
  obtain ⟨T, e, at_⟩ := r
  simp only at hr
  refine tot_ifb (fun q => ?_) fun q => ?_
  · have q : e ≠ 0 := by simpa using q
    obtain ⟨rfl, rfl⟩ := hr.1 q
    exact tot_some rfl
  have q : e = 0 := by simpa using q
  obtain ⟨hok, hsets, htot, hw, hg, rfl, hmin⟩ := hr.2.1 q
  have hT := (hw.fits hok).1
  have hTl := hT.len
  have hsl := hsets.len
  refine tot_bind' (inspect_ok hok hsets hT hg) ?_
  refine tot_bind (P := fun c => c = false) ?_ fun c _ hc => ?_
  · refine tot_bind' (legal_ok hok (turnsOk hok hw)) ?_
    refine tot_ifb (fun q => absurd q (by decide)) fun _ => ?_
    refine tot_ifb (fun q => absurd (show ((0 : Int) != 0) = true from q) (by decide)) fun _ => ?_
    refine tot_bind' (equalF_self _) ?_
    refine tot_ifb (fun q => absurd q (by decide)) fun _ => ?_
    exact tot_some (by simp; omega)
  subst hc
  simp only [ifb_false]
  refine tot_bind (P := fun c : Bool => c = true ∨ 0 < sets.length ∧ sets.length < 4) ?_ fun c _ hc => ?_
  · refine tot_ifb (fun q => tot_some (.inl rfl)) fun q => ?_
    have q : (sets.length : Int) ≠ 0 := by simpa using q
    refine tot_some ?_
    by_cases q2 : (sets.length : Int) ≥ 4
    · exact .inl (decide_eq_true q2)
    · exact .inr ⟨by omega, by omega⟩
  refine tot_ifb (fun _ => tot_some rfl) fun q2 => ?_
  rcases hc with hc | ⟨n0, n1⟩
  · rw [hc] at q2; cases q2
  have hx := nth_mem xz (xs := sets) (i := 0) (by omega) (by omega)
  have hxo := hsets.all _ hx
  have hsets2 : SetsOk (sets ++ [nth xz sets 0]) s 6 := ⟨by simp; omega, fun x hx => by
    rcases List.mem_append.1 hx with hx | hx
    · exact hsets.all x hx
    · rw [List.mem_singleton.1 hx]; exact hxo, hsets.shop⟩
  have hnil := (pos_eq (x := nth xz sets 0) (t := []) hok.toTasksOk (ch_nil (turn := turn)) hsets.shop hxo (by simp)).2.2 rfl
  have eS : ∀ i : Nat, i < T.length → nth xz (sets ++ [nth xz sets 0]) (i : Int) = nth xz sets (i : Int) := fun i hi => nth_app xz (by omega) (by omega)
  have eT : ∀ i : Nat, i < T.length → nth [] (T ++ [[]]) (i : Int) = nth [] T (i : Int) := fun i hi => nth_app [] (by omega) (by omega)
  have eS2 : nth xz (sets ++ [nth xz sets 0]) (T.length : Int) = nth xz sets 0 := by rw [hTl]; exact nth_end xz
  have eT2 : nth [] (T ++ [[]]) (T.length : Int) = ([] : List Int) := nth_end []
  have hg2 : Good l (sets ++ [nth xz sets 0]) s (T ++ [[]]) := fun i hi => by
    simp only [List.length_append, List.length_singleton] at hi
    by_cases h : i < T.length
    · rw [eS i h, eT i h]; exact hg i h
    · have : i = T.length := by omega
      subst this
      rw [eS2, eT2, hnil]
  have hc2 : cost l (sets ++ [nth xz sets 0]) s (T ++ [[]]) = cost l sets s T := by
    unfold cost
    rw [List.length_append, List.length_singleton]
    show sumN _ T.length + ((pOf l s (nth xz (sets ++ [nth xz sets 0]) (T.length : Int)) (nth [] (T ++ [[]]) (T.length : Int))).2.length : Int) = _
    rw [eS2, eT2, hnil, sumN_eq (g := fun i => ((pOf l s (nth xz sets (i : Int)) (nth [] T (i : Int))).2.length : Int)) fun i hi => by rw [eS i hi, eT i hi]]
    simp
  have hway2 := hw.more (nth xz sets 0)
  refine tot_bind (P := fun r : Int × List (List Int) => r.1 = 0 ∧ ∃ T2, Way l turn (sets ++ [nth xz sets 0]) T2 ∧ r.2 = outs l (sets ++ [nth xz sets 0]) s T2 T2.length ∧ cost l (sets ++ [nth xz sets 0]) s T2 ≤ cost l sets s T) ?_ fun r _ hr => ?_
  · have hcl : slices_Clone_fleet_Set_fleet_Set sets = some sets := by
      unfold slices_Clone_fleet_Set_fleet_Set slices_Clone_fleet_Set_fleet_Set_v2
      simp only [Option.isNone_some, ifb_false, Option.getD_some]
      rw [gapp_eq (by simp; have : (1000 : Nat) ≤ apRoom := (by decide); omega) (by simp; have : (1000 : Nat) ≤ maxLen := (by decide); omega)]
      rfl
    refine tot_bind' hcl ?_
    refine tot_bind' (idx_nth xz (by omega) (by omega)) ?_
    refine tot_bind' (gapp_eq (by simp; have : (1000 : Nat) ≤ apRoom := (by decide); omega) (by simp; have : (1000 : Nat) ≤ maxLen := (by decide); omega)) ?_
    refine tot_bind (assign_ok l turn (sets ++ [nth xz sets 0]) s) fun r _ hr => ?_
    obtain ⟨T2, e2, at2⟩ := r
    simp only at hr
    have he2 : e2 = 0 := by
      by_cases h : e2 = 0
      · exact h
      · exact absurd hg2 (hr.2.2 h hok hsets2 htot _ hway2)
    obtain ⟨_, _, _, hw2, _, ha2, hmin2⟩ := hr.2.1 he2
    refine tot_some ⟨he2, T2, hw2, ha2, ?_⟩
    have := hmin2 _ hway2 hg2
    omega
  · obtain ⟨h1, T2, hw2, h2, h3⟩ := hr
    have hT2 := (hw2.fits hok).1
    have hTl2 := hT2.len
    have hsl2 := hsets2.len
    refine tot_bind (P := fun c => c = true) ?_ fun c _ hc => tot_some hc
    rw [h1, h2]
    refine tot_bind' (many_ok (pos_all hok hsets2 hT2) (by omega)) ?_
    refine tot_bind' (many_ok (pos_all hok hsets hT) (by omega)) ?_
    exact tot_some (decide_eq_true h3)
end
end Fl
namespace Go.Proofs.Ytmhpeefjjclpfaa
theorem fleetAssigned_proved : Rows.FleetAssignedSaid := FleetAssigned.close Fl.law
end Go.Proofs.Ytmhpeefjjclpfaa
