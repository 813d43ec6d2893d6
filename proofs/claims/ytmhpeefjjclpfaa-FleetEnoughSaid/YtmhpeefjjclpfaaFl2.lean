/- FleetEnough: the turns are legal, and as many as the moments say; and so they are with all tasks turned about. -/
import Derived.Test.YtmhpeefjjclpfaaFl1
import Derived.Test.YtmhpeefjjclpfaaFEC
set_option linter.unusedVariables false
set_option linter.unusedSimpArgs false
set_option maxRecDepth 100000
namespace Fl
open Go Hk Hd Pl Hs

section
variable {l : List S_fleet_Task} {turn : Int}
def turned (t : S_fleet_Task) : S_fleet_Task := ⟨t.To, t.From, 28800 - t.Arr, 28800 - t.Dep, t.Km, t.Units⟩
theorem turned_ok {t : S_fleet_Task} (h : TaskOk t) : TaskOk (turned t) := by
  have := h.f0; have := h.f1; have := h.o0; have := h.o1; have := h.d0; have := h.da; have := h.a1
  exact ⟨h.o0, h.o1, h.f0, h.f1, by simp only [turned]; omega, by simp only [turned]; omega, by simp only [turned]; omega, h.k0, h.k1, h.u0, h.u1⟩
theorem back_ok (h : Ok l turn) : Ok (l.map turned) turn :=
  ⟨⟨by simp only [List.length_map]; exact h.len, fun t ht => by obtain ⟨x, hx, rfl⟩ := List.mem_map.1 ht; exact turned_ok (h.all x hx)⟩, h.t0, h.t1⟩
theorem tk_map {j : Nat} (hj : j < l.length) : tk (l.map turned) j = turned (tk l j) := by
  unfold tk
  rw [nth_get tz (by simpa using hj), nth_get tz hj, List.getElem_map]
def ins_ (l : List S_fleet_Task) (p : Int) : Int := sumN (fun j => if (tk l j).To = p then units l j else 0) l.length
def outs_ (l : List S_fleet_Task) (p : Int) : Int := sumN (fun j => if (tk l j).From = p then units l j else 0) l.length
theorem sumN_comb (f g h k : Nat → Int) (n : Nat) (e : ∀ i, i < n → f i + g i = h i + k i) : sumN f n + sumN g n = sumN h n + sumN k n := by
  induction n with
  | zero => rfl
  | succ n ih => have := ih fun i hi => e i (by omega); have := e n (by omega); simp only [sumN]; omega
theorem dep_back (hok : Ok l turn) (p t : Int) : depS (l.map turned) p t (units (l.map turned)) + arrS l turn p (28800 - t + turn - 1) (units l) = ins_ l p := by
  unfold depS arrS ins_
  rw [List.length_map]
  have := sumN_comb (fun j => if (tk (l.map turned) j).From = p ∧ (tk (l.map turned) j).Dep ≤ t then units (l.map turned) j else 0) (fun j => if (tk l j).To = p ∧ (tk l j).Arr + turn ≤ 28800 - t + turn - 1 then units l j else 0)
    (fun j => if (tk l j).To = p then units l j else 0) (fun _ => 0) l.length fun j hj => by
      simp only [units, tk_map hj, turned]
      by_cases q : (tk l j).To = p
      · by_cases q2 : 28800 - (tk l j).Arr ≤ t
        · rw [if_pos ⟨q, q2⟩, if_neg (by omega), if_pos q]
        · rw [if_neg (by omega), if_pos ⟨q, by omega⟩, if_pos q]; omega
      · rw [if_neg (by omega), if_neg (by omega), if_neg q]
  rw [sumN_const] at this; omega
theorem arr_back (hok : Ok l turn) (p t : Int) : arrS (l.map turned) turn p t (units (l.map turned)) + depS l p (28800 - t + turn - 1) (units l) = outs_ l p := by
  unfold depS arrS outs_
  rw [List.length_map]
  have := sumN_comb (fun j => if (tk (l.map turned) j).To = p ∧ (tk (l.map turned) j).Arr + turn ≤ t then units (l.map turned) j else 0) (fun j => if (tk l j).From = p ∧ (tk l j).Dep ≤ 28800 - t + turn - 1 then units l j else 0)
    (fun j => if (tk l j).From = p then units l j else 0) (fun _ => 0) l.length fun j hj => by
      simp only [units, tk_map hj, turned]
      by_cases q : (tk l j).From = p
      · by_cases q2 : 28800 - (tk l j).Dep + turn ≤ t
        · rw [if_pos ⟨q, q2⟩, if_neg (by omega), if_pos q]
        · rw [if_neg (by omega), if_pos ⟨q, by omega⟩, if_pos q]; omega
      · rw [if_neg (by omega), if_neg (by omega), if_neg q]
  rw [sumN_const] at this; omega
theorem short_back (hok : Ok l turn) (p t : Int) : short (l.map turned) turn p t = short l turn p (28800 - t + turn - 1) + ins_ l p - outs_ l p := by
  have := dep_back hok p t; have := arr_back hok p t
  unfold short; omega
theorem short_late (hok : Ok l turn) (p : Int) {t : Int} (ht : 100000 ≤ t) : short l turn p t = outs_ l p - ins_ l p := by
  have t1 := hok.t1
  have e1 : depS l p t (units l) = outs_ l p := sumN_eq fun j hj => by
    have kk := hok.at (i := j) (by omega) (by omega)
    have := kk.da; have := kk.a1
    by_cases q : (tk l j).From = p
    · rw [if_pos ⟨q, by omega⟩, if_pos q]
    · rw [if_neg (by omega), if_neg q]
  have e2 : arrS l turn p t (units l) = ins_ l p := sumN_eq fun j hj => by
    have kk := hok.at (i := j) (by omega) (by omega)
    have := kk.da; have := kk.a1
    by_cases q : (tk l j).To = p
    · rw [if_pos ⟨q, by omega⟩, if_pos q]
    · rw [if_neg (by omega), if_neg q]
  unfold short; rw [e1, e2]
theorem short_early (hok : Ok l turn) (p : Int) {t : Int} (ht : t < 0) : short l turn p t = 0 := by
  have t0 := hok.t0
  have e1 : depS l p t (units l) = 0 := by
    unfold depS
    rw [sumN_eq (g := fun _ => 0) fun j hj => if_neg fun q => by have := (hok.at (i := j) (by omega) (by omega)).d0; omega, sumN_const]; simp
  have e2 : arrS l turn p t (units l) = 0 := by
    unfold arrS
    rw [sumN_eq (g := fun _ => 0) fun j hj => if_neg fun q => by have := (hok.at (i := j) (by omega) (by omega)).d0; have := (hok.at (i := j) (by omega) (by omega)).da; omega, sumN_const]; simp
  unfold short; rw [e1, e2]; rfl
theorem max_back (hok : Ok l turn) {p M : Int} (h : IsMax l turn p M) : IsMax (l.map turned) turn p (M + ins_ l p - outs_ l p) := by
  refine ⟨fun t => by rw [short_back hok]; have := h.ub (28800 - t + turn - 1); omega, ?_, ?_⟩
  · have := h.ub 100000
    rw [short_late hok p (Int.le_refl _)] at this; omega
  · rcases h.att with e | ⟨t, ht⟩
    · refine .inr ⟨200000, ?_⟩
      have t1 := hok.t1
      rw [short_back hok, short_early hok p (t := 28800 - 200000 + turn - 1) (by omega)]
      omega
    · exact .inr ⟨28800 + turn - 1 - t, by rw [short_back hok, show 28800 - (28800 + turn - 1 - t) + turn - 1 = t by omega]; omega⟩
/-- each turn begins somewhere -/
theorem sumN_one {x : Int} {n : Nat} (h0 : 0 ≤ x) (h1 : x < n) : sumN (fun p => if x = (p : Int) then 1 else 0) n = 1 := by
  have e : ∀ m : Nat, m ≤ n → sumN (fun p => if x = (p : Int) then 1 else 0) m = if x < m then 1 else 0 := by
    intro m
    induction m with
    | zero => intro _; simp only [sumN]; rw [if_neg (by omega)]
    | succ m ih =>
      intro hm
      simp only [sumN]
      rw [ih (by omega)]
      by_cases q : x < m
      · rw [if_pos q, if_neg (by omega), if_pos (by omega)]; rfl
      · by_cases q2 : x = m
        · rw [if_neg q, if_pos q2, if_pos (by omega)]; rfl
        · rw [if_neg q, if_neg q2, if_neg (by omega)]; rfl
  rw [e n (Nat.le_refl _), if_pos h1]
theorem turns_len (hok : Ok l turn) {T : List (List Int)} (hT : TurnsOk l turn T) : (T.length : Int) = sumN (fun p => news l p T) 12 := by
  unfold news
  rw [← sL_sumN (fun (p : Nat) t => if (tk l (nth 0 t 0)).From = (p : Int) then 1 else 0) 12 T, ← sL_one]
  refine sL_cong fun t ht => ?_
  have hch := hT.ch t ht
  have hne := hch.ne
  have h0 := hch.ix 0 (by omega) (by omega)
  have kk := hok.at h0.1 h0.2
  exact (sumN_one kk.f0 (by have := kk.f1; omega)).symm
theorem sums_same (hok : Ok l turn) : sumN (fun p => ins_ l p) 12 = sumN (fun p => outs_ l p) 12 := by
  have key : ∀ f : Nat → Int, (∀ j, j < l.length → 0 ≤ f j ∧ f j ≤ 11) → sumN (fun p => sumN (fun j => if f j = (p : Int) then units l j else 0) l.length) 12 = sumN (units l) l.length := by
    intro f hf
    have h1 : ∀ n : Nat, n ≤ l.length → sumN (fun p => sumN (fun j => if f j = (p : Int) then units l j else 0) n) 12 = sumN (units l) n := by
      intro n
      induction n with
      | zero => intro _; simp only [sumN]; rfl
      | succ n ih =>
        intro hn
        have e1 : sumN (fun p : Nat => sumN (fun j => if f j = (p : Int) then units l j else 0) (n + 1)) 12 = sumN (fun p : Nat => sumN (fun j => if f j = (p : Int) then units l j else 0) n) 12 + sumN (fun p : Nat => if f n = (p : Int) then units l n else 0) 12 := by
          have := sumN_comb (fun p : Nat => sumN (fun j => if f j = (p : Int) then units l j else 0) n) (fun p : Nat => if f n = (p : Int) then units l n else 0) (fun p : Nat => sumN (fun j => if f j = (p : Int) then units l j else 0) (n + 1)) (fun _ => 0) 12 fun i _ => by simp only [sumN]; omega
          rw [sumN_const] at this; omega
        have e2 : sumN (fun p : Nat => if f n = (p : Int) then units l n else 0) 12 = units l n := by
          have h := hf n (by omega)
          have := sumN_one (x := f n) (n := 12) h.1 (by omega)
          have e3 : ∀ m : Nat, sumN (fun p : Nat => if f n = (p : Int) then units l n else 0) m = units l n * sumN (fun p : Nat => if f n = (p : Int) then 1 else 0) m := by
            intro m
            induction m with
            | zero => simp [sumN]
            | succ m ih => simp only [sumN]; rw [ih, Int.mul_add]; split <;> simp
          rw [e3, this, Int.mul_one]
        rw [e1, e2, ih (by omega)]; rfl
    exact h1 l.length (Nat.le_refl _)
  unfold ins_ outs_
  rw [key (fun j => (tk l j).To) fun j hj => by have := hok.at (i := j) (by omega) (by omega); exact ⟨this.o0, this.o1⟩,
    key (fun j => (tk l j).From) fun j hj => by have := hok.at (i := j) (by omega) (by omega); exact ⟨this.f0, this.f1⟩]
theorem back_len (hok : Ok l turn) {T T' : List (List Int)} (hT : TurnsOk l turn T) (hT' : TurnsOk (l.map turned) turn T') : T'.length = T.length := by
  have h1 := turns_len hok hT
  have h2 := turns_len (back_ok hok) hT'
  have e : sumN (fun p => news (l.map turned) p T') 12 = sumN (fun p => (news l p T + ins_ l p) - outs_ l p) 12 := sumN_eq fun p hp => (hT'.mx p).uniq (max_back hok (hT.mx p))
  rw [e, sumN_sub (fun p => news l p T + ins_ l p) (fun p => outs_ l p)] at h2
  have e2 : sumN (fun p => news l p T + ins_ l p) 12 = sumN (fun p => news l p T) 12 + sumN (fun p => ins_ l p) 12 := by
    have := sumN_comb (fun p : Nat => news l p T) (fun p : Nat => ins_ l p) (fun p : Nat => news l p T + ins_ l p) (fun _ => 0) 12 fun i _ => by omega
    rw [sumN_const] at this; omega
  have := sums_same hok
  omega
end
theorem awake : fishkeep2_awakeFleet = some true := by kernel_rfl
theorem sets_ : fishkeep2_sets = some true := by kernel_rfl
theorem law : Go.Proofs.Ytmhpeefjjclpfaa.FleetEnough.FleetEnoughLaw := by
  intro l turn _ _
  refine tot_eq (?_ : Tot _ (· = true))
  unfold fishkeep2_FleetEnough
  rw [awake, sets_]
  simp only [Option.bind_some, Bool.not_true, ifb_false]
  rw [tfault_eq]
  obtain ⟨e, h1, h2⟩ := turn_tot l turn
  rw [h1]
  simp only [Option.bind_some]
  refine tot_ifb (fun _ => tot_some rfl) fun q => ?_
  have q : e = 0 := by simpa using q
  have hok := h2.1 q
  have hlen := hok.len
  refine tot_bind (turns_ok hok) fun r _ hr => ?_
  obtain ⟨hr0, hT⟩ := hr
  refine tot_bind (moments_ok hok) fun m _ hm => ?_
  obtain ⟨hm0, hml, hmb, M, hM, hsum⟩ := hm
  have hnum : sumS m.2 = r.1.length := by
    rw [turns_len hok hT, hsum]
    exact sumN_eq fun p hp => (hM p hp).uniq (hT.mx p)
  have hTl := hT.len
  refine tot_loopX (I := fun i s => s = sumS (m.2.take i)) (J := fun s => s = r.1.length) (E := fun _ => False) rfl (fun i x s hx hI => ?_) (fun s hI => by rw [hI, List.take_length]; exact hnum) (fun s hs => ?_) (fun _ h => h.elim)
  · subst hI
    obtain ⟨hi, hxe⟩ := List.getElem?_eq_some_iff.1 hx
    have et : m.2.take (i + 1) = m.2.take i ++ [x] := by rw [List.take_succ_eq_append_getElem hi, hxe]
    have e4 : sumS (m.2.take (i + 1)) = sumS (m.2.take i) + x.Short := by unfold sumS; rw [et, sL_app]; simp only [sL]; omega
    have b1 : 0 ≤ sumS (m.2.take i) := sL_nn fun y hy => (hmb y (List.mem_of_mem_take hy)).1
    have b2 : sumS (m.2.take i) ≤ 160 * 12 := by
      have : sumS (m.2.take i) ≤ sL (fun _ => 160) (m.2.take i) := sL_le fun y hy => (hmb y (List.mem_of_mem_take hy)).2
      have e5 : ∀ xs : List S_fleet_Moment, sL (fun _ => (160 : Int)) xs = 160 * xs.length := fun xs => by
        induction xs with
        | nil => rfl
        | cons y ys ih => simp only [sL, ih, List.length_cons]; omega
      rw [e5] at this
      have := List.length_take_le i m.2
      have := List.length_take_le' i m.2
      omega
    have b3 := hmb x (List.mem_of_getElem? hx)
    unfold fishkeep2_FleetEnough_b1
    rw [w64_id (by omega) (by omega)]
    exact tot_some e4.symm
  · subst hs
    rw [hr0, hm0, show ((0 : Int) != 0) = false from rfl, ifb_false, ifb_false, show (((r.1.length : Nat) : Int) != (r.1.length : Int)) = false by simp, ifb_false, legal_ok hok hT]
    simp only [Option.bind_some]
    rw [show ((0 : Int) != 0) = false from rfl, ifb_false]
    refine tot_loopX (I := fun i s => s = (l.take i).map turned) (J := fun s => s = l.map turned) (E := fun _ => False) rfl (fun i x s hx hI => ?_) (fun s hI => by rw [hI, List.take_length]) (fun s hs => ?_) (fun _ h => h.elim)
    · subst hI
      obtain ⟨hi, hxe⟩ := List.getElem?_eq_some_iff.1 hx
      have kk := hok.all x (List.mem_of_getElem? hx)
      have := kk.d0; have := kk.da; have := kk.a1
      unfold fishkeep2_FleetEnough_b2
      rw [gapp_eq (by simp only [apRoom, List.length_singleton, List.length_map, List.length_take]; omega) (by simp only [maxLen, List.length_singleton, List.length_map, List.length_take]; omega), w64_id (x := 28800 - x.Arr) (by omega) (by omega), w64_id (x := 28800 - x.Dep) (by omega) (by omega)]
      refine tot_some ?_
      show _ = (l.take (i + 1)).map turned
      rw [List.take_succ_eq_append_getElem hi, hxe, List.map_append]; rfl
    · subst hs
      refine tot_bind (turns_ok (back_ok hok)) fun r' _ hr' => ?_
      obtain ⟨g0, hT'⟩ := hr'
      rw [g0, show ((0 : Int) == 0) = true from rfl, ifb_true, back_len hok hT hT']
      exact tot_some (by simp)
end Fl
namespace Go.Proofs.Ytmhpeefjjclpfaa
theorem fleetEnough_proved : Rows.FleetEnoughSaid := FleetEnough.close Fl.law
end Go.Proofs.Ytmhpeefjjclpfaa
