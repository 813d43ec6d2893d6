/- What the checks of package run say, and how far a train goes until it is slow enough. -/
import Derived.Test.YtohpilnjebnelaaDoorZP
import Derived.Test.YtohpilnjebnelaaDoorK5
import Derived.Test.YtohpilnjebnelaaDoorZC
set_option linter.unusedVariables false
set_option linter.unusedSimpArgs false
set_option maxRecDepth 100000
namespace Rn
open Go Hk Hd Pl

theorem awake : fishkeep1_awakeRun = some () := by kernel_rfl
theorem within_eq (a b c : Int) : run_within a b c = some (decide (b ≤ a ∧ a ≤ c)) := by
  unfold run_within
  by_cases h1 : a ≥ b <;> by_cases h2 : a ≤ c <;> simp [ifb, h1, h2]
theorem name_tot {s : ByteArray} (h : s.size ≤ maxLen) : Tot (run_name s) fun _ => True := by
  unfold run_name
  refine tot_bind' (x := (sl8 s).map fun b => (b.toNat : Int)) (by unfold sbytes; rw [if_pos (by unfold maxLen at h; omega)]) ?_
  refine tot_allX (P := fun _ _ => True) (E := fun _ => True) (fun i x hx => ?_) (fun _ => ?_) (fun _ _ => tot_some trivial)
  · unfold run_name_b1
    rw [ifb_some, Option.bind_some]
    exact tot_ifb (fun _ => tot_some trivial) (fun _ => tot_some trivial)
  · rw [ifb_some, Option.bind_some]
    exact tot_some trivial
/-- stock that may be -/
structure Stk (p : S_api_Stock) : Prop where
  length : 10 ≤ p.Length ∧ p.Length ≤ 400
  mass : 10 ≤ p.Mass ∧ p.Mass ≤ 2000
  start : 60 ≤ p.Start ∧ p.Start ≤ 150
  power : 10000 ≤ p.Power ∧ p.Power ≤ 2000000
  roll : 0 ≤ p.Roll ∧ p.Roll ≤ 10
  drag : 1000000 ≤ p.Drag ∧ p.Drag ≤ 100000000
  brake : 60 ≤ p.Brake ∧ p.Brake ≤ 150
  top : 500 ≤ p.Top ∧ p.Top ≤ 6000
  seats : 0 ≤ p.Seats ∧ p.Seats ≤ 1000
theorem check_tot {p : S_api_Stock} (h : p.Name.size ≤ maxLen) : Tot (run_Check p) fun r => r = 0 → Stk p := by
  unfold run_Check
  refine tot_bind (name_tot h) fun x _ _ => ?_
  refine tot_ifb (fun _ => tot_some fun h => absurd h (by decide)) fun _ => ?_
  refine tot_bind' (x := ()) rfl ?_
  refine tot_bind' (x := _) rfl ?_
  let num : List Int := [p.Length, p.Mass, p.Start, p.Power, p.Roll, p.Drag, p.Brake, p.Top, p.Seats]
  let bnd : List Int := [10, 400, 10, 2000, 60, 150, 10000, 2000000, 0, 10, 1000000, 100000000, 60, 150, 500, 6000, 0, 1000]
  refine tot_bind (tot_iter (E := fun c => match c with | .go _ => Stk p | .out r => r ≠ 0) (I := fun i => ∃ k : Nat, i = k ∧ k ≤ 9 ∧ ∀ j, j < k → nth 0 bnd (j * 2) ≤ nth 0 num j ∧ nth 0 num j ≤ nth 0 bnd (j * 2 + 1)) (μ := fun i => (9 - i).toNat) ⟨0, rfl, by omega, fun j hj => by omega⟩ (Nat.lt_of_lt_of_le (by decide : (9 - (0 : Int)).toNat < 10) (by decide +kernel)) ?_) fun c _ hc => ?_
  · rintro i ⟨k, rfl, hk, hI⟩
    unfold run_Check_b1
    refine tot_ifb (fun hlt => ?_) fun hge => tot_some ?_
    · have hlt : (k : Int) < 9 := of_decide_eq_true hlt
      refine tot_bind' (idx_nth 0 (xs := num) (by omega) (by show (k : Int) < 9; omega)) ?_
      have g : gix 9 (k : Int) = some () := by unfold gix; rw [if_pos (by omega)]
      rw [g]
      refine tot_bind' rfl (tot_bind' (x := ()) rfl ?_)
      refine tot_bind' (idx_nth 0 (xs := bnd) (by omega) (by show _ < (18 : Int); omega)) ?_
      refine tot_bind' rfl (tot_bind' (x := ()) rfl ?_)
      refine tot_bind' (idx_nth 0 (xs := bnd) (by omega) (by show _ < (18 : Int); omega)) ?_
      rw [within_eq, Option.bind_some]
      refine tot_ifb (fun _ => tot_some (show (2 : Int) ≠ 0 by decide)) fun hb => tot_some ?_
      have hb : nth 0 bnd (0 + (k : Int) * 2 + 0 * 1) ≤ nth 0 num k ∧ nth 0 num k ≤ nth 0 bnd (0 + (k : Int) * 2 + 1 * 1) := by simpa using hb
      rw [show (0 + (k : Int) * 2 + 0 * 1) = (k : Int) * 2 by omega, show (0 + (k : Int) * 2 + 1 * 1) = (k : Int) * 2 + 1 by omega] at hb
      rw [w64_id (by omega) (by omega)]
      refine ⟨⟨k + 1, by omega, by omega, fun j hj => ?_⟩, by omega⟩
      rcases Nat.lt_or_ge j k with h | h
      · exact hI j h
      · have : j = k := by omega
        subst this; exact hb
    · have hge : ¬ (k : Int) < 9 := of_decide_eq_false hge
      have : k = 9 := by omega
      subst this
      exact ⟨hI 0 (by omega), hI 1 (by omega), hI 2 (by omega), hI 3 (by omega), hI 4 (by omega), hI 5 (by omega), hI 6 (by omega), hI 7 (by omega), hI 8 (by omega)⟩
  · refine tot_on (fun s hs => tot_some fun _ => ?_) (fun r hr => tot_some fun h => ?_)
    · subst hs; exact hc
    · subst hr; exact absurd h hc
/-- how far a train goes until its speed is t; d: how much slower it becomes in a second -/
def inD (d t v : Int) : Int := if h : v ≤ t ∨ d ≤ 0 then 0 else (v + max t (v - d) + 1) / 2 + inD d t (max t (v - d))
termination_by (v - t).toNat
decreasing_by omega
theorem inD_le {d t v : Int} (h : v ≤ t) : inD d t v = 0 := by
  unfold inD; rw [dif_pos (Or.inl h)]
theorem inD_gt {d t v : Int} (hd : 0 < d) (h : t < v) : inD d t v = (v + max t (v - d) + 1) / 2 + inD d t (max t (v - d)) := by
  conv => lhs; unfold inD
  rw [dif_neg (by omega)]
theorem inD_bound {d t : Int} (hd : 0 < d) (ht : 0 ≤ t) : ∀ (n : Nat) (v : Int), (v - t).toNat ≤ n → v ≤ 6001 → 0 ≤ inD d t v ∧ inD d t v ≤ 6001 * (if v ≤ t then 0 else v - t)
  | n, v, hn, hv => by
    by_cases h : v ≤ t
    · rw [inD_le h, if_pos h]; omega
    · rw [inD_gt hd (by omega), if_neg h]
      match n, hn with
      | 0, hn => omega
      | n + 1, hn =>
        have ih := inD_bound hd ht n (max t (v - d)) (by omega) (by omega)
        split at ih <;> omega
theorem inD_mono {d t : Int} (hd : 0 < d) (ht : 0 ≤ t) : ∀ (n : Nat) (v v' : Int), (v' - t).toNat ≤ n → v ≤ v' → v' ≤ 6001 → inD d t v ≤ inD d t v'
  | n, v, v', hn, hv, h6 => by
    by_cases h : v ≤ t
    · rw [inD_le h]; exact (inD_bound hd ht _ v' (Nat.le_refl _) h6).1
    · rw [inD_gt hd (by omega), inD_gt hd (by omega : t < v')]
      match n, hn with
      | 0, hn => omega
      | n + 1, hn =>
        have ih := inD_mono hd ht n (max t (v - d)) (max t (v' - d)) (by omega) (by omega) (by omega)
        omega
theorem gone_eq {v w : Int} (h0 : 0 ≤ v) (h1 : v ≤ 6001) (h2 : 0 ≤ w) (h3 : w ≤ 6001) : run_gone v w = some ((v + w + 1) / 2) := by
  unfold run_gone
  rw [w64_id (x := v + w) (by omega) (by omega), w64_id (x := v + w + 1) (by omega) (by omega)]
  have : gquoK .i64 (v + w + 1) 2 = some ((v + w + 1) / 2) := by
    unfold gquoK
    rw [if_neg (by decide), Int.tdiv_eq_ediv_of_nonneg (by omega)]
    exact congrArg some (w64_id (by omega) (by omega))
  rw [this]; rfl
theorem gmax_max (a b : Int) : gmax a b = max a b := by unfold gmax; omega
theorem into_eq {p : S_api_Stock} {v t : Int} (hp : 60 ≤ p.Brake ∧ p.Brake ≤ 150) (hv0 : 0 ≤ v) (hv : v ≤ 6001) (ht0 : 0 ≤ t) (ht : t ≤ 6000) : run_into p v t = some (inD (p.Brake - 40) t v) := by
  refine tot_eq ?_
  unfold run_into
  have hd : 0 < p.Brake - 40 := by omega
  refine tot_bind (tot_iter (E := fun c => c = Ctl.go (inD (p.Brake - 40) t v)) (I := fun s => 0 ≤ s.1 ∧ s.1 ≤ 6001 ∧ 0 ≤ s.2 ∧ s.2 + inD (p.Brake - 40) t s.1 = inD (p.Brake - 40) t v) (μ := fun s => (s.1 - t).toNat) ⟨hv0, hv, by dsimp only; omega, by dsimp only; omega⟩ (Nat.lt_of_lt_of_le (by show (v - t).toNat < 6002; omega) (by decide +kernel)) ?_) fun c _ hc => by subst hc; exact tot_some rfl
  rintro ⟨u, s⟩ ⟨h1, h2, h3, h4⟩
  dsimp only at h1 h2 h3 h4
  unfold run_into_b1
  dsimp only
  refine tot_ifb (fun hlt => ?_) fun hge => tot_some ?_
  · have hlt : u > t := of_decide_eq_true hlt
    rw [w64_id (x := p.Brake - 40) (by omega) (by omega), w64_id (x := u - (p.Brake - 40)) (by omega) (by omega), gmax_max, gone_eq (by omega) (by omega) (by omega) (by omega), Option.bind_some]
    refine tot_some ?_
    have e := inD_gt hd hlt
    have b := inD_bound hd ht0 _ v (Nat.le_refl _) hv
    have b2 := inD_bound hd ht0 _ (max t (u - (p.Brake - 40))) (Nat.le_refl _) (by omega)
    have hb : inD (p.Brake - 40) t v ≤ 36012001 := by have := b.2; split at this <;> omega
    rw [w64_id (by omega) (by omega)]
    refine ⟨⟨?_, ?_, ?_, ?_⟩, ?_⟩
    all_goals dsimp only
    all_goals omega
  · have hge : ¬ u > t := of_decide_eq_false hge
    rw [inD_le (by omega)] at h4
    show Ctl.go s = _
    rw [← h4]
    simp
theorem Into_eq {p : S_api_Stock} {v t : Int} {r : Int} (hc : run_Check p = some r) (hr : r = 0) (hp : Stk p) (hv0 : 0 ≤ v) (hv : v ≤ 6000) (ht0 : 0 ≤ t) (ht : t ≤ 6000) : run_Into p v t = some (inD (p.Brake - 40) t v, 0) := by
  unfold run_Into
  subst hr
  rw [hc, Option.bind_some, within_eq, within_eq, Option.bind_some, Option.bind_some, into_eq hp.brake hv0 (by omega) ht0 ht]
  simp [ifb, hv0, hv, ht0, ht]
theorem Stop_eq {p : S_api_Stock} {v : Int} {r : Int} (hc : run_Check p = some r) (hr : r = 0) (hp : Stk p) (hv0 : 0 ≤ v) (hv : v ≤ 6000) : run_Stop p v = some (inD (p.Brake - 40) 0 v, 0) := by
  unfold run_Stop
  rw [Into_eq hc hr hp hv0 hv (by omega) (by omega)]
  rfl
end Rn

/- RunSmooth: with departures that Smooth returns no second has more than the limit in sum; a run that departs later than in second 0 would not fit one second earlier. -/
set_option linter.unusedVariables false
set_option linter.unusedSimpArgs false
set_option maxRecDepth 100000
namespace Go.Proofs.YtohpilnjebnelaaDoor
open Go Hk Hd Pl Rn

def Fits (u : Int → Int) (l : List Int) (d lim : Int) : Prop := ∀ t : Nat, t < l.length → u (d + t) + nth 0 l t ≤ lim
instance (u : Int → Int) (l : List Int) (d lim : Int) : Decidable (Fits u l d lim) := by unfold Fits; infer_instance
def addF (u : Int → Int) (l : List Int) (d : Int) : Int → Int := fun k => if d ≤ k ∧ k < d + l.length then u k + nth 0 l (k - d) else u k
theorem fits_gen {body : Nat → Int → Unit → Option (Ctl Unit (Ctl Unit Bool))} {u : Int → Int} {l : List Int} {d lim : Int}
    (h : ∀ (i : Nat) x, l[i]? = some x → body i x () = some (if u (d + i) + x > lim then .out (.out false) else .go ())) :
    ((forX body l ()).bind fun c => Ctl.on c (fun _ => some true) (fun r => some r)) = some (decide (Fits u l d lim)) := by
  refine tot_eq ?_
  refine tot_allX (P := fun i x => u (d + i) + x ≤ lim) (E := fun y => y = false ∧ ¬ Fits u l d lim) (fun i x hx => ?_) (fun hP => tot_some ?_) (fun y hy => tot_some ?_)
  · rw [h i x hx]
    refine tot_some ?_
    by_cases hc : u (d + i) + x > lim
    · rw [if_pos hc]
      refine ⟨rfl, fun hF => ?_⟩
      have := hF i (List.getElem?_eq_some_iff.1 hx).1
      rw [nth_nat 0 hx] at this
      omega
    · rw [if_neg hc]; show u (d + i) + x ≤ lim; omega
  · refine (decide_eq_true ?_).symm
    intro t ht
    have := hP t l[t] (List.getElem?_eq_getElem ht)
    rw [nth_get 0 ht]
    exact this
  · rw [hy.1]
    exact (decide_eq_false hy.2).symm
theorem add_gen {X β : Type} {body : Nat → Int → List Int → Option (Ctl (List Int) (Ctl (List Int) X))} {us l : List Int} {d : Int} {F : List Int → Option β} {H : X → Option β} {Q : β → Prop} (d0 : 0 ≤ d) (hd : d + l.length ≤ us.length)
    (h : ∀ (i : Nat) x s, l[i]? = some x → s.length = us.length → (∀ k : Int, 0 ≤ k → k < us.length → nth 0 s k = addF (nth 0 us) (l.take i) d k) → body i x s = some (.go (setI s (d + i) (nth 0 s (d + i) + x))))
    (hF : ∀ s, s.length = us.length → (∀ k : Int, 0 ≤ k → k < us.length → nth 0 s k = addF (nth 0 us) l d k) → Tot (F s) Q) :
    Tot ((forX body l us).bind fun c => Ctl.on c F H) Q := by
  refine tot_loopX (I := fun i s => s.length = us.length ∧ ∀ k : Int, 0 ≤ k → k < us.length → nth 0 s k = addF (nth 0 us) (l.take i) d k) (J := fun s => s.length = us.length ∧ ∀ k : Int, 0 ≤ k → k < us.length → nth 0 s k = addF (nth 0 us) l d k) (E := fun _ => False)
    ⟨rfl, fun k h0 h1 => by unfold addF; rw [if_neg (by simp only [List.take_zero, List.length_nil]; omega)]⟩ (fun i x s hx hI => ?_) (fun s hI => by rw [List.take_length] at hI; exact hI) (fun s hJ => hF s hJ.1 hJ.2) (fun _ hf => hf.elim)
  obtain ⟨hl, hI⟩ := hI
  have hi := (List.getElem?_eq_some_iff.1 hx).1
  rw [h i x s hx hl hI]
  refine tot_some ⟨by rw [setI_length]; exact hl, fun k h0 h1 => ?_⟩
  rw [nth_setI 0 (by omega) h0 (by omega)]
  have hlen : (l.take (i + 1)).length = i + 1 := by rw [List.length_take]; omega
  have hlen0 : (l.take i).length = i := by rw [List.length_take]; omega
  by_cases hk : k = d + i
  · subst hk
    rw [if_pos rfl, hI _ (by omega) (by omega)]
    simp only [addF, hlen, hlen0]
    rw [if_neg (by omega), if_pos (by omega), show d + (i : Int) - d = (i : Int) by omega, nth_nat 0 (x := x) (by rw [List.getElem?_take_of_lt (by omega)]; exact hx)]
  · rw [if_neg hk, hI k h0 h1]
    simp only [addF, hlen, hlen0]
    by_cases hr : d ≤ k ∧ k < d + (i : Int)
    · rw [if_pos hr, if_pos (by omega)]
      congr 1
      obtain ⟨m, hm⟩ := Int.eq_ofNat_of_zero_le (show 0 ≤ k - d by omega)
      rw [hm]
      simp only [nth, Int.toNat_natCast]
      rw [List.getElem?_take_of_lt (by omega), List.getElem?_take_of_lt (by omega)]
    · rw [if_neg hr, if_neg (by omega)]
/-- what is used ahead of run i -/
def uN (p : List (List Int)) (ds : List Int) : Nat → Int → Int
  | 0 => fun _ => 0
  | i + 1 => addF (uN p ds i) (p.getD i []) (nth 0 ds i)
theorem uN_congr {p : List (List Int)} {ds ds' : List Int} : ∀ {i : Nat}, (∀ j : Nat, j < i → nth 0 ds j = nth 0 ds' j) → uN p ds i = uN p ds' i
  | 0, _ => rfl
  | i + 1, h => by
    unfold uN
    rw [uN_congr (i := i) fun j hj => h j (by omega), h i (by omega)]
def Okp (p : List (List Int)) : Prop := p.length ≤ 12 ∧ ∀ l, l ∈ p → l.length ≤ 3600 ∧ ∀ x, x ∈ l → 0 ≤ x ∧ x ≤ 1125899906842624
theorem getD_mem {p : List (List Int)} {i : Nat} : p.getD i [] = [] ∨ p.getD i [] ∈ p := by
  rw [List.getD_eq_getElem?_getD]
  cases h : p[i]? with
  | none => exact Or.inl rfl
  | some l => exact Or.inr (List.mem_of_getElem? h)
theorem uN_bound {p : List (List Int)} {ds : List Int} (hp : Okp p) : ∀ (i : Nat) (k : Int), 0 ≤ uN p ds i k ∧ uN p ds i k ≤ i * 1125899906842624
  | 0, k => by simp [uN]
  | i + 1, k => by
    have ih := uN_bound hp i k (ds := ds)
    unfold uN addF
    split
    · rename_i hk
      have : 0 ≤ nth 0 (p.getD i []) (k - nth 0 ds i) ∧ nth 0 (p.getD i []) (k - nth 0 ds i) ≤ 1125899906842624 := by
        have hm := nth_mem 0 (xs := p.getD i []) (i := k - nth 0 ds i) (by omega) (by omega)
        rcases getD_mem (p := p) (i := i) with h | h
        · rw [h] at hm; simp at hm
        · exact (hp.2 _ h).2 _ hm
      omega
    · omega
structure Cnd (p : List (List Int)) (ds : List Int) (lim most : Int) (i : Nat) : Prop where
  lo : 0 ≤ nth 0 ds i
  hi : nth 0 ds i ≤ most
  fit : Fits (uN p ds i) (p.getD i []) (nth 0 ds i) lim
  least : 0 < nth 0 ds i → ¬ Fits (uN p ds i) (p.getD i []) (nth 0 ds i - 1) lim
theorem nth_app {ds : List Int} {d : Int} {j : Nat} (h : j < ds.length) : nth 0 (ds ++ [d]) j = nth 0 ds j := by
  simp only [nth, Int.toNat_natCast]
  rw [List.getElem?_append_left h]
theorem nth_last {ds : List Int} {d : Int} : nth 0 (ds ++ [d]) (ds.length : Int) = d := by
  simp [nth]
theorem fits_congr {u u' : Int → Int} {l : List Int} {d lim N : Int} (h : ∀ k, 0 ≤ k → k < N → u k = u' k) (d0 : 0 ≤ d) (hN : d + l.length ≤ N) : Fits u l d lim ↔ Fits u' l d lim := by
  unfold Fits
  constructor <;> intro hF t ht
  · rw [← h _ (by omega) (by omega)]; exact hF t ht
  · rw [h _ (by omega) (by omega)]; exact hF t ht
theorem smooth_tot {p : List (List Int)} {lim most : Int} : Tot (run_Smooth p lim most) fun r => (r.1 ≠ 0 ∧ r.2 = []) ∨ (r.1 = 0 ∧ Okp p ∧ 0 ≤ lim ∧ lim ≤ 36028797018963968 ∧ 0 ≤ most ∧ most ≤ 3600 ∧ r.2.length = p.length ∧ ∀ i, i < p.length → Cnd p r.2 lim most i) := by
  unfold run_Smooth
  refine tot_ifb (fun _ => tot_some (Or.inl ⟨show (4 : Int) ≠ 0 by decide, rfl⟩)) fun h12 => ?_
  have h12 := of_decide_eq_false h12
  refine tot_allX (P := fun i l => l.length ≤ 3600) (E := fun y => y.1 ≠ 0 ∧ y.2 = []) (fun i l hl => ?_) (fun hP1 => ?_) (fun y hy => tot_some (Or.inl hy))
  · unfold run_Smooth_b1
    refine tot_ifb (fun _ => tot_some ⟨show (4 : Int) ≠ 0 by decide, rfl⟩) fun h => tot_some ?_
    have h := of_decide_eq_false h
    show l.length ≤ 3600
    omega
  refine tot_allX (P := fun i l => ∀ x ∈ l, 0 ≤ x ∧ x ≤ 1125899906842624) (E := fun y => y.1 ≠ 0 ∧ y.2 = []) (fun i l hl => ?_) (fun hP2 => ?_) (fun y hy => tot_some (Or.inl hy))
  · unfold run_Smooth_b2
    refine tot_allX (P := fun i x => 0 ≤ x ∧ x ≤ 1125899906842624) (E := fun y => y.1 ≠ 0 ∧ y.2 = []) (fun i x hx => ?_) (fun hP => tot_some (mem_of_all hP)) (fun y hy => tot_some hy)
    unfold run_Smooth_b3
    rw [within_eq, Option.bind_some]
    refine tot_ifb (fun _ => tot_some ⟨show (2 : Int) ≠ 0 by decide, rfl⟩) fun h => tot_some ?_
    show 0 ≤ x ∧ x ≤ 1125899906842624
    simpa using h
  have hp : Okp p := ⟨by omega, fun l hl => ⟨mem_of_all (P := fun l => l.length ≤ 3600) hP1 l hl, mem_of_all (P := fun l => ∀ x ∈ l, 0 ≤ x ∧ x ≤ 1125899906842624) hP2 l hl⟩⟩
  rw [within_eq, within_eq, Option.bind_some, Option.bind_some]
  refine tot_bind (P := fun b => b = false → 0 ≤ lim ∧ lim ≤ 36028797018963968 ∧ 0 ≤ most ∧ most ≤ 3600) ?_ fun b _ hb => ?_
  · refine tot_ifb (fun _ => tot_some fun h => by cases h) fun h0 => tot_some fun h1 => ?_
    have h0 : 0 ≤ lim ∧ lim ≤ 36028797018963968 := by simpa using h0
    have h1 : 0 ≤ most ∧ most ≤ 3600 := by simpa using h1
    exact ⟨h0.1, h0.2, h1.1, h1.2⟩
  refine tot_ifb (fun _ => tot_some (Or.inl ⟨show (2 : Int) ≠ 0 by decide, rfl⟩)) fun hbf => ?_
  obtain ⟨l0, l1, m0, m1⟩ := hb hbf
  rw [w64_id (by omega) (by omega)]
  refine tot_bind' (x := List.replicate (most + 3600).toNat 0) (by unfold gmake; rw [if_pos ⟨by omega, by simp only [mkRoom]; omega, by simp only [maxLen]; omega⟩]) ?_
  refine tot_loopX (I := fun i s => s.1.length = (most + 3600).toNat ∧ s.2.length = i ∧ (∀ k, 0 ≤ k → k < most + 3600 → nth 0 s.1 k = uN p s.2 i k) ∧ ∀ j, j < i → Cnd p s.2 lim most j) (J := fun s => s.2.length = p.length ∧ ∀ j, j < p.length → Cnd p s.2 lim most j)
    (E := fun y => y.1 ≠ 0 ∧ y.2 = []) ⟨by simp, rfl, fun k h0 h1 => by show nth 0 (List.replicate _ 0) k = 0; exact nth_replicate h0 (by omega), fun j hj => by omega⟩ (fun i l s hl hI => ?_) (fun s hI => ⟨hI.2.1, hI.2.2.2⟩)
    (fun s hJ => tot_some (Or.inr ⟨rfl, hp, l0, l1, m0, m1, hJ.1, hJ.2⟩)) (fun y hy => tot_some (Or.inl hy))
  obtain ⟨us, out⟩ := s
  obtain ⟨hlen, hol, hu, hC⟩ := hI
  dsimp only at hlen hol hu hC
  have hi := (List.getElem?_eq_some_iff.1 hl).1
  have hgl : p.getD i [] = l := by rw [List.getD_eq_getElem?_getD, hl]; rfl
  have hlm : l ∈ p := List.mem_of_getElem? hl
  have hll := (hp.2 l hlm).1
  have hlx := (hp.2 l hlm).2
  have hub : ∀ k, 0 ≤ k → k < most + 3600 → 0 ≤ nth 0 us k ∧ nth 0 us k ≤ 12 * 1125899906842624 := fun k h0 h1 => by
    rw [hu k h0 h1]
    have := uN_bound (ds := out) hp i k
    have := hp.1
    omega
  have hxb : ∀ (t : Nat) x, l[t]? = some x → 0 ≤ x ∧ x ≤ 1125899906842624 := fun t x hx => hlx x (List.mem_of_getElem? hx)
  have hfit : ∀ d : Int, 0 ≤ d → d ≤ most → run_Smooth_1 d (some l) (some us) (some lim) = some (decide (Fits (nth 0 us) l d lim)) := fun d d0 d1 => by
    unfold run_Smooth_1
    rw [Option.bind_some]
    refine fits_gen fun t x hx => ?_
    have ht := (List.getElem?_eq_some_iff.1 hx).1
    unfold run_Smooth_1_b1
    have b := hub (d + t) (by omega) (by omega)
    have bx := hxb t x hx
    rw [Option.bind_some, w64_id (by omega) (by omega), idx_nth 0 (by omega) (by omega), Option.bind_some, Option.bind_some, w64_id (by omega) (by omega)]
    by_cases hc : nth 0 us (d + t) + x > lim
    · rw [if_pos hc, decide_eq_true hc]; rfl
    · rw [if_neg hc, decide_eq_false hc]; rfl
  unfold run_Smooth_b4
  dsimp only
  refine tot_bind (tot_iter (E := fun c => ∃ d, c = Ctl.go d ∧ 0 ≤ d ∧ d ≤ most + 1 ∧ (d ≤ most → Fits (nth 0 us) l d lim) ∧ ∀ e, 0 ≤ e → e < d → ¬ Fits (nth 0 us) l e lim) (I := fun d => 0 ≤ d ∧ d ≤ most + 1 ∧ ∀ e, 0 ≤ e → e < d → ¬ Fits (nth 0 us) l e lim) (μ := fun d => (most + 1 - d).toNat)
    ⟨by omega, by omega, fun e h0 h1 => by omega⟩ (Nat.lt_of_lt_of_le (show (most + 1 - 0).toNat < 3602 by omega) (by decide +kernel)) ?_) fun c _ hc => ?_
  · rintro d ⟨d0, d1, hmin⟩
    unfold run_Smooth_b5
    refine tot_bind (P := fun b => (b = true → d ≤ most ∧ ¬ Fits (nth 0 us) l d lim) ∧ (b = false → (d ≤ most → Fits (nth 0 us) l d lim))) ?_ fun b _ hb => ?_
    · refine tot_ifb (fun h => ?_) fun h => tot_some ⟨fun h2 => by (cases h2), fun _ h3 => absurd h3 (of_decide_eq_false h)⟩
      have h := of_decide_eq_true h
      rw [hfit d d0 h, Option.bind_some]
      refine tot_some ⟨fun h2 => ⟨h, by simpa using h2⟩, fun h2 _ => by simpa using h2⟩
    · refine tot_ifb (fun hbt => tot_some ?_) fun hbf => tot_some ⟨d, rfl, d0, d1, hb.2 hbf, hmin⟩
      obtain ⟨g1, g2⟩ := hb.1 hbt
      rw [w64_id (by omega) (by omega)]
      refine ⟨⟨by omega, by omega, fun e h0 h1 => ?_⟩, by omega⟩
      by_cases h : e = d
      · subst h; exact g2
      · exact hmin e h0 (by omega)
  · obtain ⟨d, rfl, d0, d1, g1, g2⟩ := hc
    show Tot (ifb (decide (d > most)) _ _) _
    refine tot_ifb (fun _ => tot_some ⟨show (9 : Int) ≠ 0 by decide, rfl⟩) fun h => ?_
    have h := of_decide_eq_false h
    have hd : d ≤ most := by omega
    have e1 : ∀ d', 0 ≤ d' → d' ≤ most → (Fits (nth 0 us) l d' lim ↔ Fits (uN p out i) l d' lim) := fun d' a b => fits_congr (N := most + 3600) (fun k h0 h1 => hu k h0 h1) a (by omega)
    refine add_gen d0 (by omega) (fun t x s hx hsl hs => ?_) fun s hsl hs => ?_
    · unfold run_Smooth_b6
      have ht := (List.getElem?_eq_some_iff.1 hx).1
      have bx := hxb t x hx
      have hsv : nth 0 s (d + t) = nth 0 us (d + t) := by
        rw [hs _ (by omega) (by omega)]
        unfold addF
        rw [if_neg (by rw [List.length_take]; omega)]
      have b := hub (d + t) (by omega) (by omega)
      rw [w64_id (x := d + (t : Int)) (by omega) (by omega), idx_nth 0 (by omega) (by omega), Option.bind_some, Option.bind_some, w64_id (by omega) (by omega)]
    · refine tot_bind' (x := out ++ [d]) (by unfold gapp; rw [if_pos ⟨by simp only [apRoom, List.length_singleton]; have := hp.1; omega, by simp only [maxLen, List.length_singleton]; have := hp.1; omega⟩]) ?_
      have hc : ∀ j, j ≤ i → uN p (out ++ [d]) j = uN p out j := fun j hj => uN_congr fun q hq => nth_app (by omega)
      have hlast : nth 0 (out ++ [d]) (i : Int) = d := by rw [← hol]; exact nth_last
      refine tot_some ⟨by dsimp only; rw [hsl]; exact hlen, by simp [hol], fun k h0 h1 => ?_, fun j hj => ?_⟩
      · dsimp only
        rw [hs k h0 (by omega)]
        show _ = addF (uN p (out ++ [d]) i) (p.getD i []) (nth 0 (out ++ [d]) i) k
        rw [hc i (Nat.le_refl _), hgl, hlast]
        unfold addF
        rw [hu k h0 h1]
      · dsimp only
        rcases Nat.lt_or_ge j i with hj2 | hj2
        · have := hC j hj2
          refine ⟨?_, ?_, ?_, ?_⟩ <;> rw [nth_app (by omega)]
          · exact this.lo
          · exact this.hi
          · rw [hc j (by omega)]; exact this.fit
          · rw [hc j (by omega)]; exact this.least
        · have : j = i := by omega
          subst this
          refine ⟨by rw [hlast]; exact d0, by rw [hlast]; exact hd, ?_, ?_⟩
          · rw [hlast, hc j (Nat.le_refl _), hgl]; exact (e1 d d0 hd).1 (g1 hd)
          · rw [hlast, hc j (Nat.le_refl _), hgl]
            intro hpos
            exact fun hF => g2 (d - 1) (by omega) (by omega) ((e1 (d - 1) (by omega) (by omega)).2 hF)
theorem runSmooth_law : RunSmooth.RunSmoothLaw := by
  intro p lim most hp hl hm
  refine tot_eq ?_
  unfold fishkeep1_RunSmooth
  rw [awake, Option.bind_some]
  refine tot_bind smooth_tot fun r _ hr => ?_
  obtain ⟨e, ds⟩ := r
  dsimp only at hr ⊢
  rcases hr with ⟨h1, rfl⟩ | ⟨rfl, hok, l0, l1, m0, m1, hlen, hC⟩
  · rw [show (e != 0) = true from by simpa using h1, ifb_true]
    exact tot_some rfl
  simp only [bne_self_eq_false, ifb_false]
  rw [hlen]
  simp only [bne_self_eq_false, ifb_false]
  refine tot_bind' (x := List.replicate 7201 0) (by unfold gmakec; rw [if_pos ⟨by decide, by decide, by decide, by decide⟩]; rfl) ?_
  refine tot_loopX (I := fun i s => s.length = 7201 ∧ ∀ k, 0 ≤ k → k < 7201 → nth 0 s k = uN p ds i k) (J := fun _ => True) (E := fun _ => False) ⟨by simp, fun k h0 h1 => nth_replicate h0 (by omega)⟩ (fun i l s hli hI => ?_) (fun _ _ => trivial) (fun _ _ => tot_some rfl) (fun _ hf => hf.elim)
  obtain ⟨hsl, hu⟩ := hI
  have hi := (List.getElem?_eq_some_iff.1 hli).1
  have hgl : p.getD i [] = l := by rw [List.getD_eq_getElem?_getD, hli]; rfl
  have hlm : l ∈ p := List.mem_of_getElem? hli
  have hll := (hok.2 l hlm).1
  have hlx := (hok.2 l hlm).2
  have c := hC i hi
  have hxb : ∀ (t : Nat) x, l[t]? = some x → 0 ≤ x ∧ x ≤ 1125899906842624 := fun t x hx => hlx x (List.mem_of_getElem? hx)
  have hub : ∀ k, 0 ≤ k → k < 7201 → 0 ≤ nth 0 s k ∧ nth 0 s k ≤ 12 * 1125899906842624 := fun k h0 h1 => by
    rw [hu k h0 h1]
    have := uN_bound (ds := ds) hok i k
    have := hok.1
    omega
  have hfit : ∀ d : Int, 0 ≤ d → d ≤ most → fishkeep1_fits s l d lim = some (decide (Fits (uN p ds i) l d lim)) := fun d d0 d1 => by
    unfold fishkeep1_fits
    refine fits_gen fun t x hx => ?_
    have ht := (List.getElem?_eq_some_iff.1 hx).1
    unfold fishkeep1_fits_b1
    have b := hub (d + t) (by omega) (by omega)
    have bx := hxb t x hx
    rw [w64_id (by omega) (by omega), idx_nth 0 (by omega) (by omega), Option.bind_some, w64_id (by omega) (by omega), hu _ (by omega) (by omega)]
    by_cases hc : uN p ds i (d + t) + x > lim
    · rw [if_pos hc, decide_eq_true hc]; rfl
    · rw [if_neg hc, decide_eq_false hc]; rfl
  unfold fishkeep1_RunSmooth_b1
  dsimp only
  rw [idx_nth 0 (by omega) (by omega)]
  simp only [Option.bind_some]
  have c1 := c.lo
  have c2 := c.hi
  have c3 := c.fit
  have c4 := c.least
  rw [hgl] at c3 c4
  rw [decide_eq_false (show ¬ nth 0 ds (i : Int) < 0 by omega), ifb_false, decide_eq_false (show ¬ nth 0 ds (i : Int) > most by omega), ifb_false, hfit _ c1 c2, Option.bind_some, decide_eq_true c3]
  simp only [Bool.not_true, ifb_false]
  have hlast : ifb (decide (nth 0 ds (i : Int) > 0)) ((fishkeep1_fits s l (w64 (nth 0 ds (i : Int) - 1)) lim).bind fun x29 => some x29) (some false) = some false := by
    by_cases h : nth 0 ds (i : Int) > 0
    · rw [decide_eq_true h, ifb_true, w64_id (by omega) (by omega), hfit _ (by omega) (by omega), Option.bind_some, decide_eq_false (c4 h)]
    · rw [decide_eq_false h, ifb_false]
  rw [hlast]
  simp only [Option.bind_some, ifb_false]
  refine add_gen c1 (by omega) (fun t x s' hx hsl' hs' => ?_) fun s' hsl' hs' => tot_some ⟨by rw [hsl']; exact hsl, fun k h0 h1 => ?_⟩
  · unfold fishkeep1_RunSmooth_b2
    dsimp only
    have ht := (List.getElem?_eq_some_iff.1 hx).1
    have bx := hxb t x hx
    have hsv : nth 0 s' (nth 0 ds (i : Int) + t) = nth 0 s (nth 0 ds (i : Int) + t) := by
      rw [hs' _ (by omega) (by omega)]
      unfold addF
      rw [if_neg (by rw [List.length_take]; omega)]
    have b := hub (nth 0 ds (i : Int) + t) (by omega) (by omega)
    rw [idx_nth 0 (by omega) (by omega), Option.bind_some, w64_id (x := nth 0 ds (i : Int) + (t : Int)) (by omega) (by omega), idx_nth 0 (by omega) (by omega), Option.bind_some, Option.bind_some, w64_id (by omega) (by omega)]
  · rw [hs' k h0 (by omega)]
    show _ = addF (uN p ds i) (p.getD i []) (nth 0 ds i) k
    rw [hgl]
    unfold addF
    rw [hu k h0 h1]
theorem runSmooth_proved : Rows.RunSmoothCardSaid := RunSmooth.close runSmooth_law
#print axioms runSmooth_proved
end Go.Proofs.YtohpilnjebnelaaDoor
