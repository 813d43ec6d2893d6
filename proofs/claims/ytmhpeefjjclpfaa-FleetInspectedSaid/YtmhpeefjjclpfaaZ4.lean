/- FleetInspected: a set that is inspected at the positions of Inspect never runs beyond the limit; with a greater limit it is inspected no more often. -/
import Derived.Test.YtmhpeefjjclpfaaZ3
import Derived.Test.YtmhpeefjjclpfaaZC
set_option linter.unusedVariables false
set_option linter.unusedSimpArgs false
set_option maxRecDepth 100000
namespace Fi
open Go Hk Hd Pl Hs Fl

def xz : S_fleet_Set := ⟨0, 0⟩
structure SetsOk (sets : List S_fleet_Set) (s : S_fleet_Shop) (most : Int) : Prop where
  len : (sets.length : Int) ≤ most
  all : ∀ x ∈ sets, SetOk x s
  shop : ShopOk s
theorem sfault_eq (sets : List S_fleet_Set) (s : S_fleet_Shop) (m : Int) : fishref2_SetsFault sets s m = fleet_checkSets sets s m := rfl
theorem sets_tot (sets : List S_fleet_Set) (s : S_fleet_Shop) (m : Int) : Tot (fleet_checkSets sets s m) fun e => e = 0 ↔ SetsOk sets s m := by
  unfold fleet_checkSets
  refine tot_ifb (fun q => ?_) fun q => ?_
  · have q := of_decide_eq_true q
    exact tot_some ⟨fun e => (by cases e), fun h => by have := h.len; omega⟩
  have q := of_decide_eq_false q
  refine tot_allX (P := fun _ x => SetOk x s) (E := fun y => y ≠ 0 ∧ ¬ SetsOk sets s m) (fun i x hx => ?_) (fun hall => ?_) fun y hy => tot_some ⟨fun e => absurd e hy.1, fun h => absurd h hy.2⟩
  · unfold fleet_checkSets_b1
    rw [within_eq, within_eq]
    simp only [Option.bind_some]
    by_cases q1 : 0 ≤ x.Home ∧ x.Home ≤ 11
    · rw [decide_eq_true q1]
      simp only [Bool.not_true, ifb_false, Option.bind_some]
      by_cases q2 : 0 ≤ x.Km ∧ x.Km ≤ s.Limit
      · rw [decide_eq_true q2]; exact tot_some ⟨q1.1, q1.2, q2.1, q2.2⟩
      · rw [decide_eq_false q2]; exact tot_some ⟨by decide, fun h => q2 (by have := h.all x (List.mem_of_getElem? hx); exact ⟨this.k0, this.k1⟩)⟩
    · rw [decide_eq_false q1]; exact tot_some ⟨by decide, fun h => q1 (by have := h.all x (List.mem_of_getElem? hx); exact ⟨this.h0, this.h1⟩)⟩
  · have hall := mem_of_all hall
    rw [within_eq, within_eq, within_eq]
    simp only [Option.bind_some]
    by_cases q1 : 0 ≤ s.Place ∧ s.Place ≤ 11
    · rw [decide_eq_true q1]
      simp only [Bool.not_true, ifb_false, Option.bind_some]
      by_cases q2 : 0 ≤ s.Long ∧ s.Long ≤ 28800
      · rw [decide_eq_true q2]
        simp only [Bool.not_true, ifb_false, Option.bind_some]
        by_cases q3 : 0 ≤ s.Limit ∧ s.Limit ≤ 10000
        · rw [decide_eq_true q3]; exact tot_some ⟨fun _ => ⟨by omega, hall, q1.1, q1.2, q2.1, q2.2, q3.1, q3.2⟩, fun _ => rfl⟩
        · rw [decide_eq_false q3]; exact tot_some ⟨fun e => (by cases e), fun h => absurd ⟨h.shop.m0, h.shop.m1⟩ q3⟩
      · rw [decide_eq_false q2]; exact tot_some ⟨fun e => (by cases e), fun h => absurd ⟨h.shop.l0, h.shop.l1⟩ q2⟩
    · rw [decide_eq_false q1]; exact tot_some ⟨fun e => (by cases e), fun h => absurd ⟨h.shop.p0, h.shop.p1⟩ q1⟩

section
variable (l : List S_fleet_Task) (home : Int) (t : List Int)
structure Cond (k : Nat) : Prop where
  ix : 0 ≤ nth 0 t (k : Int) ∧ nth 0 t (k : Int) < l.length
  first : k = 0 → (tk l (nth 0 t (k : Int))).From = home
  next : 0 < k → (tk l (nth 0 t (k : Int))).From = (tk l (nth 0 t ((k : Int) - 1))).To ∧ (tk l (nth 0 t ((k : Int) - 1))).Arr ≤ (tk l (nth 0 t (k : Int))).Dep
def code (k : Nat) : Int := if 0 ≤ nth 0 t (k : Int) ∧ nth 0 t (k : Int) < l.length then 13 else 2
def Good : Prop := ∀ k, k < t.length → Cond l home t k
def Bad (c : Int) : Prop := ∃ k, k < t.length ∧ (∀ j, j < k → Cond l home t j) ∧ ¬ Cond l home t k ∧ c = code l t k
variable {l home t}
theorem Bad.uniq {c c' : Int} (h : Bad l home t c) (h' : Bad l home t c') : c = c' := by
  obtain ⟨k, a1, a2, a3, a4⟩ := h
  obtain ⟨k', b1, b2, b3, b4⟩ := h'
  rcases Nat.lt_trichotomy k k' with q | q | q
  · exact absurd (b2 k q) a3
  · subst q; rw [a4, b4]
  · exact absurd (a2 k' q) b3
theorem Bad.not {c : Int} (h : Bad l home t c) : ¬ Good l home t := fun g => by
  obtain ⟨k, a1, _, a3, _⟩ := h
  exact a3 (g k a1)
theorem Bad.nz {c : Int} (h : Bad l home t c) : c ≠ 0 := by
  obtain ⟨k, _, _, _, rfl⟩ := h
  unfold code; split <;> decide
def Step (l : List S_fleet_Task) (home : Int) (t : List Int) (k : Nat) : Ctl Unit (Ctl Unit (Int × List (List Int))) → Prop
  | .go _ => Cond l home t k
  | .out (.go _) => False
  | .out (.out r) => ¬ Cond l home t k ∧ r = (code l t k, [])
theorem prog_b2 {sets : List S_fleet_Set} {i k : Nat} {y : Int} {x : S_fleet_Set} (hl : TasksOk l) (hx : sets[i]? = some x) (hh : x.Home = home) (hy : t[k]? = some y) (hlen : t.length ≤ maxLen) (hpre : ∀ j, j < k → Cond l home t j) :
    Tot (fleet_Inspect_b2 l sets t i k y ()) (Step l home t k) := by
  have hk := (List.getElem?_eq_some_iff.1 hy).1
  have ey : nth 0 t (k : Int) = y := nth_nat 0 hy
  have hll := hl.len
  unfold maxLen at hlen
  unfold fleet_Inspect_b2
  rw [w64_id (x := (l.length : Int) - 1) (by omega) (by omega), within_eq]
  simp only [Option.bind_some]
  by_cases q1 : 0 ≤ y ∧ y ≤ (l.length : Int) - 1
  · rw [decide_eq_true q1]
    simp only [Bool.not_true, ifb_false]
    have iy : 0 ≤ y ∧ y < l.length := by omega
    have ec : code l t k = 13 := by unfold code; rw [ey, if_pos iy]
    cases k with
    | zero =>
      rw [show ((((0 : Nat) : Int)) == 0) = true from rfl, ifb_true, tk_idx iy.1 iy.2]
      simp only [Option.bind_some]
      have exi : idx sets (i : Int) = some x := by unfold idx; rw [if_pos (by omega), Int.toNat_natCast]; exact hx
      rw [exi]
      simp only [Option.bind_some]
      rw [show decide (((0 : Nat) : Int) > 0) = false from rfl, ifb_false, hh]
      by_cases q2 : (tk l y).From = home
      · rw [show ((tk l y).From != home) = false by simpa using q2]
        exact tot_some ⟨by rw [ey]; exact iy, fun _ => by rw [ey]; exact q2, fun h => by omega⟩
      · rw [show ((tk l y).From != home) = true by simpa using q2]
        exact tot_some ⟨fun h => q2 (by have := h.first rfl; rwa [ey] at this), by rw [ec]⟩
    | succ k =>
      have hp := (hpre k (by omega)).ix
      rw [show ((((k + 1 : Nat) : Int)) == 0) = false by simp; omega, ifb_false, show decide (((k + 1 : Nat) : Int) > 0) = true from decide_eq_true (by omega), ifb_true, w64_id (by omega) (by omega), show ((k + 1 : Nat) : Int) - 1 = (k : Int) by omega, idx_nth 0 (xs := t) (i := (k : Int)) (by omega) (by omega)]
      simp only [Option.bind_some]
      rw [tk_idx hp.1 hp.2, tk_idx iy.1 iy.2]
      simp only [Option.bind_some]
      rw [follows_eq _ _ (by omega) (by omega) (hl.at hp.1 hp.2)]
      simp only [Option.bind_some]
      have ep : ((k + 1 : Nat) : Int) - 1 = (k : Int) := by omega
      by_cases q2 : (tk l y).From = (tk l (nth 0 t (k : Int))).To ∧ (tk l (nth 0 t (k : Int))).Arr + 0 ≤ (tk l y).Dep
      · rw [decide_eq_true q2]
        exact tot_some ⟨by rw [ey]; exact iy, fun h => by omega, fun _ => by rw [ey, ep]; exact ⟨q2.1, by have := q2.2; omega⟩⟩
      · rw [decide_eq_false q2]
        exact tot_some ⟨fun h => q2 (by have := h.next (by omega); rw [ey, ep] at this; exact ⟨this.1, by have := this.2; omega⟩), by rw [ec]⟩
  · rw [decide_eq_false q1]
    have ny : ¬ (0 ≤ y ∧ y < l.length) := by omega
    exact tot_some ⟨fun h => ny (by have := h.ix; rwa [ey] at this), by unfold code; rw [ey, if_neg ny]⟩
theorem ref_b2 {sets : List S_fleet_Set} {i k : Nat} {y : Int} {x : S_fleet_Set} (hl : TasksOk l) (hx : sets[i]? = some x) (hh : x.Home = home) (hy : t[k]? = some y) (hlen : t.length ≤ maxLen) (hpre : ∀ j, j < k → Cond l home t j) :
    Tot (fishref2_InspectOf_b2 l sets t i k y ()) (Step l home t k) := by
  have hk := (List.getElem?_eq_some_iff.1 hy).1
  have ey : nth 0 t (k : Int) = y := nth_nat 0 hy
  have hll := hl.len
  unfold maxLen at hlen
  unfold fishref2_InspectOf_b2
  refine tot_bind (P := fun b => b = decide (¬ (0 ≤ y ∧ y < l.length))) ?_ fun b _ hb => ?_
  · by_cases q : y < 0
    · rw [decide_eq_true q, ifb_true]; exact tot_some (decide_eq_true (by omega)).symm
    · rw [decide_eq_false q, ifb_false]
      by_cases q2 : y ≥ (l.length : Int)
      · rw [decide_eq_true q2]; exact tot_some (decide_eq_true (by omega)).symm
      · rw [decide_eq_false q2]; exact tot_some (decide_eq_false (by omega)).symm
  subst hb
  by_cases iy : 0 ≤ y ∧ y < l.length
  · rw [show decide (¬ (0 ≤ y ∧ y < (l.length : Int))) = false from decide_eq_false (by omega), ifb_false]
    have ec : code l t k = 13 := by unfold code; rw [ey, if_pos iy]
    cases k with
    | zero =>
      rw [show ((((0 : Nat) : Int)) == 0) = true from rfl, ifb_true, tk_idx iy.1 iy.2]
      simp only [Option.bind_some]
      have exi : idx sets (i : Int) = some x := by unfold idx; rw [if_pos (by omega), Int.toNat_natCast]; exact hx
      rw [exi]
      simp only [Option.bind_some]
      rw [show decide (((0 : Nat) : Int) > 0) = false from rfl, ifb_false, hh]
      by_cases q2 : (tk l y).From = home
      · rw [show ((tk l y).From != home) = false by simpa using q2]
        exact tot_some ⟨by rw [ey]; exact iy, fun _ => by rw [ey]; exact q2, fun h => by omega⟩
      · rw [show ((tk l y).From != home) = true by simpa using q2]
        exact tot_some ⟨fun h => q2 (by have := h.first rfl; rwa [ey] at this), by rw [ec]⟩
    | succ k =>
      have hp := (hpre k (by omega)).ix
      rw [show ((((k + 1 : Nat) : Int)) == 0) = false by simp; omega, ifb_false]
      simp only [Option.bind_some, ifb_false]
      rw [show decide (((k + 1 : Nat) : Int) > 0) = true from decide_eq_true (by omega), ifb_true, w64_id (by omega) (by omega), show ((k + 1 : Nat) : Int) - 1 = (k : Int) by omega, idx_nth 0 (xs := t) (i := (k : Int)) (by omega) (by omega)]
      simp only [Option.bind_some]
      rw [tk_idx hp.1 hp.2, tk_idx iy.1 iy.2]
      simp only [Option.bind_some]
      have ep : ((k + 1 : Nat) : Int) - 1 = (k : Int) := by omega
      by_cases q2 : (tk l (nth 0 t (k : Int))).To = (tk l y).From
      · rw [show ((tk l (nth 0 t (k : Int))).To != (tk l y).From) = false by simpa using q2, ifb_false]
        simp only [Option.bind_some]
        by_cases q3 : (tk l y).Dep < (tk l (nth 0 t (k : Int))).Arr
        · rw [decide_eq_true q3]
          exact tot_some ⟨fun h => by have := h.next (by omega); rw [ey, ep] at this; omega, by rw [ec]⟩
        · rw [decide_eq_false q3]
          exact tot_some ⟨by rw [ey]; exact iy, fun h => by omega, fun _ => by rw [ey, ep]; exact ⟨q2.symm, by omega⟩⟩
      · rw [show ((tk l (nth 0 t (k : Int))).To != (tk l y).From) = true by simpa using q2, ifb_true]
        exact tot_some ⟨fun h => q2 (by have := h.next (by omega); rw [ey, ep] at this; exact this.1.symm), by rw [ec]⟩
  · rw [show decide (¬ (0 ≤ y ∧ y < (l.length : Int))) = true from decide_eq_true iy, ifb_true]
    exact tot_some ⟨fun h => iy (by have := h.ix; rwa [ey] at this), by unfold code; rw [ey, if_neg iy]⟩
/-- a turn is looked at -/
def Row (l : List S_fleet_Task) (home : Int) (t : List Int) : Ctl Unit (Int × List (List Int)) → Prop
  | .go _ => Good l home t
  | .out r => r.2 = [] ∧ Bad l home t r.1
theorem row_of {b2 : Nat → Int → Unit → Option (Ctl Unit (Ctl Unit (Int × List (List Int))))} (h : ∀ (k : Nat) y, t[k]? = some y → (∀ j, j < k → Cond l home t j) → Tot (b2 k y ()) (Step l home t k)) : Tot (forX b2 t ()) (Row l home t) := by
  rw [forX_eq]
  refine tot_forC (I := fun k _ => ∀ j, j < k → Cond l home t j) (fun j h => by omega) (fun k y _ hy hI => tot_mono (h k y hy hI) fun c hc => ?_) fun _ hI => hI
  rcases c with _ | (_ | r)
  · intro j hj
    by_cases e : j = k
    · subst e; exact hc
    · exact hI j (by omega)
  · exact hc.elim
  · obtain ⟨h1, rfl⟩ := hc
    exact ⟨rfl, k, (List.getElem?_eq_some_iff.1 hy).1, hI, h1, rfl⟩
theorem good_len (hl : TasksOk l) (h : Good l home t) : t.length ≤ l.length := by
  have hok : Ok l 0 := ⟨hl, by omega, by omega⟩
  rcases Nat.eq_zero_or_pos t.length with e | e
  · omega
  have hch : Chain l 0 t := ⟨e, fun i h0 h1 => by
      obtain ⟨n, rfl⟩ : ∃ n : Nat, i = n := ⟨i.toNat, by omega⟩
      exact (h n (by omega)).ix, fun i h0 h1 => by
      obtain ⟨n, rfl⟩ : ∃ n : Nat, i = n := ⟨i.toNat, by omega⟩
      have := (h (n + 1) (by omega)).next (by omega)
      rw [show (((n + 1 : Nat) : Int)) - 1 = (n : Int) by omega, show (((n + 1 : Nat) : Int)) = (n : Int) + 1 by omega] at this
      exact ⟨this.1, by have := this.2; omega⟩⟩
  have hnd : (t.map Int.toNat).Nodup := by
    refine List.pairwise_iff_getElem.2 fun i j hi hj hij e => ?_
    simp only [List.length_map] at hi hj
    simp only [List.getElem_map] at e
    have h1 := chain_dep hok hch (i := (i : Int)) (by omega) (j - i - 1) (by omega)
    have h2 := hch.ix (i : Int) (by omega) (by omega)
    have h3 := hch.ix (j : Int) (by omega) (by omega)
    rw [show (i : Int) + ((j - i - 1 : Nat) : Int) + 1 = (j : Int) by omega] at h1
    rw [nth_get 0 hi] at h1 h2
    rw [nth_get 0 hj] at h1 h3
    rw [show t[i] = t[j] by omega] at h1
    omega
  have := nodup_len hnd fun i hi => by
    obtain ⟨y, hy, rfl⟩ := List.mem_map.1 hi
    obtain ⟨k, hk⟩ := List.getElem?_of_mem hy
    have := (h k (List.getElem?_eq_some_iff.1 hk).1).ix
    rw [nth_nat 0 hk] at this
    show y.toNat < l.length
    omega
  simpa using this
theorem good_valid (h : Good l home t) : Valid l t := fun i hi => (h i hi).ix
end

section
variable (l : List S_fleet_Task) (ts : List (List Int)) (sets : List S_fleet_Set) (s : S_fleet_Shop)
def home (sets : List S_fleet_Set) (i : Nat) : Int := (nth xz sets (i : Int)).Home
def turnAt (ts : List (List Int)) (i : Nat) : List Int := nth [] ts (i : Int)
def GoodAll : Prop := ∀ i, i < ts.length → Good l (home sets i) (turnAt ts i)
def BadAll (c : Int) : Prop := ∃ i, i < ts.length ∧ (∀ j, j < i → Good l (home sets j) (turnAt ts j)) ∧ Bad l (home sets i) (turnAt ts i) c
def Can (i : Nat) : Prop := ∃ S, Found l (turnAt ts i) (nth xz sets (i : Int)) s S
variable {l ts sets s}
theorem BadAll.uniq {c c' : Int} (h : BadAll l ts sets c) (h' : BadAll l ts sets c') : c = c' := by
  obtain ⟨k, a1, a2, a3⟩ := h
  obtain ⟨k', b1, b2, b3⟩ := h'
  rcases Nat.lt_trichotomy k k' with q | q | q
  · exact absurd (b2 k q) a3.not
  · subst q; exact a3.uniq b3
  · exact absurd (a2 k' q) b3.not
theorem BadAll.not {c : Int} (h : BadAll l ts sets c) : ¬ GoodAll l ts sets := fun g => by
  obtain ⟨k, a1, _, a3⟩ := h
  exact a3.not (g k a1)
theorem BadAll.nz {c : Int} (h : BadAll l ts sets c) : c ≠ 0 := by
  obtain ⟨k, _, _, a3⟩ := h
  exact a3.nz
/-- all turns are looked at -/
def Rows_ (l : List S_fleet_Task) (ts : List (List Int)) (sets : List S_fleet_Set) : Ctl Unit (Int × List (List Int)) → Prop
  | .go _ => GoodAll l ts sets
  | .out r => r.2 = [] ∧ BadAll l ts sets r.1
theorem rows_of {b1 : Nat → List Int → Unit → Option (Ctl Unit (Ctl Unit (Int × List (List Int))))} (h : ∀ (i : Nat) t, ts[i]? = some t → Tot (b1 i t ()) (fun c => match c with | .go _ => Good l (home sets i) t | .out (.go _) => False | .out (.out r) => r.2 = [] ∧ Bad l (home sets i) t r.1)) :
    Tot (forX b1 ts ()) (Rows_ l ts sets) := by
  rw [forX_eq]
  refine tot_forC (I := fun k _ => ∀ j, j < k → Good l (home sets j) (turnAt ts j)) (fun j h => by omega) (fun k y _ hy hI => tot_mono (h k y hy) fun c hc => ?_) fun _ hI => hI
  have ey : turnAt ts k = y := nth_nat [] hy
  rcases c with _ | (_ | r)
  · intro j hj
    by_cases e : j = k
    · subst e; rw [ey]; exact hc
    · exact hI j (by omega)
  · exact hc.elim
  · exact ⟨hc.1, k, (List.getElem?_eq_some_iff.1 hy).1, hI, by rw [ey]; exact hc.2⟩
/-- what Inspect gives -/
def Out (l : List S_fleet_Task) (ts : List (List Int)) (sets : List S_fleet_Set) (s : S_fleet_Shop) (r : Int × List (List Int)) : Prop :=
  (ts.length ≠ sets.length ∧ r = (1, [])) ∨ (ts.length = sets.length ∧ BadAll l ts sets r.1 ∧ r.2 = []) ∨ (ts.length = sets.length ∧ GoodAll l ts sets ∧ (∃ i, i < ts.length ∧ ¬ Can l ts sets s i) ∧ r = (9, [])) ∨
    (ts.length = sets.length ∧ GoodAll l ts sets ∧ r.1 = 0 ∧ r.2.length = ts.length ∧ ∀ i, i < ts.length → Found l (turnAt ts i) (nth xz sets (i : Int)) s (turnAt r.2 i) ∧ ∀ S, Found l (turnAt ts i) (nth xz sets (i : Int)) s S → (turnAt r.2 i).length ≤ S.length)
theorem inspect_ok (hl : TasksOk l) (hs : SetsOk sets s 40) (hlen : ∀ t ∈ ts, t.length ≤ maxLen) : Tot (fleet_Inspect l ts sets s) (Out l ts sets s) := by
  have hsl := hs.len
  unfold fleet_Inspect
  rw [tasks_ok hl]
  simp only [Option.bind_some]
  rw [show ((0 : Int) != 0) = false from rfl, ifb_false]
  obtain ⟨e, h1, h2⟩ := sets_tot sets s 40
  rw [h1, h2.2 hs]
  simp only [Option.bind_some]
  rw [show ((0 : Int) != 0) = false from rfl, ifb_false]
  by_cases q : ts.length = sets.length
  · rw [show (((ts.length : Nat) : Int) != ((sets.length : Nat) : Int)) = false by simpa using congrArg (fun n : Nat => (n : Int)) q, ifb_false]
    refine tot_bind (rows_of (l := l) (sets := sets) (ts := ts) fun i t ht => ?_) fun c _ hc => ?_
    · have hi := (List.getElem?_eq_some_iff.1 ht).1
      unfold fleet_Inspect_b1
      have hx : sets[i]? = some (nth xz sets (i : Int)) := by rw [nth_get xz (by omega), List.getElem?_eq_getElem]
      refine tot_bind (row_of (l := l) (home := home sets i) fun k y hy hpre => prog_b2 hl hx rfl hy (hlen t (List.mem_of_getElem? ht)) hpre) fun c _ hc => ?_
      cases c with
      | go _ => exact tot_some hc
      | out r => exact tot_some hc
    cases c with
    | out r => exact tot_some (.inr (.inl ⟨q, hc.2, hc.1⟩))
    | go _ =>
      have hg : GoodAll l ts sets := hc
      refine tot_loopX (I := fun i o => o.length = i ∧ ∀ j, j < i → Found l (turnAt ts j) (nth xz sets (j : Int)) s (turnAt o j) ∧ ∀ S, Found l (turnAt ts j) (nth xz sets (j : Int)) s S → (turnAt o j).length ≤ S.length)
        (J := fun o => o.length = ts.length ∧ ∀ j, j < ts.length → Found l (turnAt ts j) (nth xz sets (j : Int)) s (turnAt o j) ∧ ∀ S, Found l (turnAt ts j) (nth xz sets (j : Int)) s S → (turnAt o j).length ≤ S.length)
        (E := fun r => (∃ i, i < ts.length ∧ ¬ Can l ts sets s i) ∧ r = (9, [])) ⟨rfl, fun j h => by omega⟩ (fun i t o ht hI => ?_) (fun o h => h) (fun o hJ => tot_some (.inr (.inr (.inr ⟨q, hg, rfl, hJ⟩)))) (fun r hr => tot_some (.inr (.inr (.inl ⟨q, hg, hr⟩))))
      obtain ⟨i1, i2⟩ := hI
      have hi := (List.getElem?_eq_some_iff.1 ht).1
      have et : turnAt ts i = t := nth_nat [] ht
      have hgi := hg i hi
      rw [et] at hgi
      have htl := good_len hl hgi
      have hll := hl.len
      unfold fleet_Inspect_b3
      rw [idx_nth xz (xs := sets) (i := (i : Int)) (by omega) (by omega)]
      simp only [Option.bind_some]
      refine tot_bind (positions_ok hl (good_valid hgi) hs.shop (hs.all _ (nth_mem xz (by omega) (by omega))) (by omega)) fun r _ hr => ?_
      rcases hr with ⟨h1, h2, h3⟩ | ⟨rfl, h2⟩
      · rw [h1]
        simp only [Bool.not_true, ifb_false]
        rw [gapp_eq (by simp only [apRoom, List.length_singleton]; omega) (by simp only [maxLen, List.length_singleton]; omega)]
        refine tot_some ⟨by simp; omega, fun j hj => ?_⟩
        have ej : turnAt (o ++ [r.2]) j = if j < i then turnAt o j else r.2 := by
          unfold turnAt
          rw [nth_snoc [] o r.2 _ (by omega)]
          by_cases c : j < i
          · rw [if_pos (by omega), if_pos c]
          · rw [if_neg (by omega), if_pos (by omega), if_neg c]
        rw [ej]
        by_cases c : j < i
        · rw [if_pos c]; exact i2 j c
        · rw [if_neg c, show j = i by omega, et]; exact ⟨h2, h3⟩
      · refine tot_some ⟨⟨i, hi, fun ⟨S, hS⟩ => ?_⟩, rfl⟩
        rw [et] at hS
        exact h2 S hS
  · have q' : ((ts.length : Nat) : Int) ≠ ((sets.length : Nat) : Int) := by omega
    rw [show (((ts.length : Nat) : Int) != ((sets.length : Nat) : Int)) = true by simpa using q', ifb_true]
    exact tot_some (.inl ⟨q, rfl⟩)
theorem inspectOf_ok (hl : TasksOk l) (hs : SetsOk sets s 40) (hlen : ∀ t ∈ ts, t.length ≤ maxLen) :
    Tot (fishref2_InspectOf l ts sets s 40) fun r => (ts.length ≠ sets.length ∧ r.1 = 1) ∨ (ts.length = sets.length ∧ BadAll l ts sets r.1) ∨ (ts.length = sets.length ∧ GoodAll l ts sets ∧ (∃ i, i < ts.length ∧ ¬ Can l ts sets s i) ∧ r.1 = 9) ∨
      (ts.length = sets.length ∧ GoodAll l ts sets ∧ r.1 = 0 ∧ ∀ i, i < ts.length → Can l ts sets s i) := by
  have hsl := hs.len
  unfold fishref2_InspectOf
  rw [sfault_eq]
  obtain ⟨e, h1, h2⟩ := sets_tot sets s 40
  rw [h1, h2.2 hs]
  simp only [Option.bind_some]
  rw [show ((0 : Int) != 0) = false from rfl, ifb_false]
  by_cases q : ts.length = sets.length
  · rw [show (((ts.length : Nat) : Int) != ((sets.length : Nat) : Int)) = false by simpa using congrArg (fun n : Nat => (n : Int)) q, ifb_false]
    refine tot_bind (rows_of (l := l) (sets := sets) (ts := ts) fun i t ht => ?_) fun c _ hc => ?_
    · have hi := (List.getElem?_eq_some_iff.1 ht).1
      unfold fishref2_InspectOf_b1
      have hx : sets[i]? = some (nth xz sets (i : Int)) := by rw [nth_get xz (by omega), List.getElem?_eq_getElem]
      refine tot_bind (row_of (l := l) (home := home sets i) fun k y hy hpre => ref_b2 hl hx rfl hy (hlen t (List.mem_of_getElem? ht)) hpre) fun c _ hc => ?_
      cases c with
      | go _ => exact tot_some hc
      | out r => exact tot_some hc
    cases c with
    | out r => exact tot_some (.inr (.inl ⟨q, hc.2⟩))
    | go _ =>
      have hg : GoodAll l ts sets := hc
      refine tot_loopX (I := fun i o => o.length = i ∧ ∀ j, j < i → Can l ts sets s j) (J := fun o => ∀ j, j < ts.length → Can l ts sets s j)
        (E := fun r => (∃ i, i < ts.length ∧ ¬ Can l ts sets s i) ∧ r.1 = 9) ⟨rfl, fun j h => by omega⟩ (fun i t o ht hI => ?_) (fun o h => h.2) (fun o hJ => tot_some (.inr (.inr (.inr ⟨q, hg, rfl, hJ⟩)))) (fun r hr => tot_some (.inr (.inr (.inl ⟨q, hg, hr⟩))))
      obtain ⟨i1, i2⟩ := hI
      have hi := (List.getElem?_eq_some_iff.1 ht).1
      have et : turnAt ts i = t := nth_nat [] ht
      have hgi := hg i hi
      rw [et] at hgi
      have htl := good_len hl hgi
      have hll := hl.len
      unfold fishref2_InspectOf_b3
      rw [idx_nth xz (xs := sets) (i := (i : Int)) (by omega) (by omega)]
      simp only [Option.bind_some]
      refine tot_bind (refpos_ok hl (good_valid hgi) hs.shop (hs.all _ (nth_mem xz (by omega) (by omega))) (by omega)) fun r _ hr => ?_
      have hcan : r.1 = true ↔ Can l ts sets s i := by unfold Can; rw [et]; exact hr
      refine tot_ifb (fun c => ?_) fun c => ?_
      · refine tot_some ⟨⟨i, hi, fun h => ?_⟩, rfl⟩
        rw [hcan.2 h] at c; cases c
      · rw [gapp_eq (by simp only [apRoom, List.length_singleton]; omega) (by simp only [maxLen, List.length_singleton]; omega)]
        refine tot_some ⟨by simp; omega, fun j hj => ?_⟩
        by_cases e : j = i
        · subst e; exact hcan.1 (by simpa using c)
        · exact i2 j (by omega)
  · have q' : ((ts.length : Nat) : Int) ≠ ((sets.length : Nat) : Int) := by omega
    rw [show (((ts.length : Nat) : Int) != ((sets.length : Nat) : Int)) = true by simpa using q', ifb_true]
    exact tot_some (.inl ⟨q, rfl⟩)
end
theorem awake : fishkeep2_awakeFleet = some true := by kernel_rfl
theorem sets_ : fishkeep2_sets = some true := by kernel_rfl
theorem law : Go.Proofs.Ytmhpeefjjclpfaa.FleetInspected.FleetInspectedLaw := by
  intro l ts sets s more _ hts _ _ _
  have hlen : ∀ t ∈ ts, t.length ≤ maxLen := fun t ht => (hts.2 t ht).1
  refine tot_eq (?_ : Tot _ (· = true))
  unfold fishkeep2_FleetInspected
  rw [awake, sets_]
  simp only [Option.bind_some, Bool.not_true, ifb_false]
  rw [fault_eq, sfault_eq]
  obtain ⟨e1, h1, h2⟩ := tasks_tot l
  obtain ⟨e2, h3, h4⟩ := sets_tot sets s 40
  rw [h1, h3]
  simp only [Option.bind_some]
  by_cases q1 : e1 = 0
  · by_cases q2 : e2 = 0
    · subst q1 q2
      have hl := h2.1 rfl
      have hs := h4.1 rfl
      have hll := hl.len
      have hsl := hs.len
      have m0 := hs.shop.m0; have m1 := hs.shop.m1
      rw [show ((0 : Int) != 0) = false from rfl, ifb_false]
      simp only [Option.bind_some, ifb_false]
      refine tot_bind (inspect_ok hl hs hlen) fun r _ hr => ?_
      refine tot_bind (inspectOf_ok hl hs hlen) fun f _ hf => ?_
      -- the document finds an error
      have err : f.1 ≠ 0 → r = (f.1, []) := fun hne => by
        rcases hf with ⟨a1, a2⟩ | ⟨a1, a2⟩ | ⟨a1, a2, a3, a4⟩ | ⟨a1, a2, a3, a4⟩
        · rcases hr with ⟨b1, b2⟩ | ⟨b1, _⟩ | ⟨b1, _⟩ | ⟨b1, _⟩
          · rw [a2]; exact b2
          · exact absurd b1 a1
          · exact absurd b1 a1
          · exact absurd b1 a1
        · rcases hr with ⟨b1, b2⟩ | ⟨b1, b2, b3⟩ | ⟨b1, b2, _⟩ | ⟨b1, b2, _⟩
          · exact absurd a1 b1
          · rw [a2.uniq b2, ← b3]
          · exact absurd b2 a2.not
          · exact absurd b2 a2.not
        · rcases hr with ⟨b1, b2⟩ | ⟨b1, b2, b3⟩ | ⟨b1, b2, b3, b4⟩ | ⟨b1, b2, b3, b4, b5⟩
          · exact absurd a1 b1
          · exact absurd a2 b2.not
          · rw [a4]; exact b4
          · obtain ⟨i, hi, hn⟩ := a3
            exact absurd ⟨_, (b5 i hi).1⟩ hn
        · exact absurd a3 hne
      refine tot_ifb (fun q => ?_) fun q => ?_
      · have q : f.1 ≠ 0 := by simpa using q
        rw [err q]
        simp only [beq_self_eq_true, ifb_true, Option.bind_some]
        exact tot_some rfl
      · have q : f.1 = 0 := by simpa using q
        have good : ts.length = sets.length ∧ GoodAll l ts sets ∧ r.1 = 0 ∧ r.2.length = ts.length ∧ ∀ i, i < ts.length → Found l (turnAt ts i) (nth xz sets (i : Int)) s (turnAt r.2 i) ∧ ∀ S, Found l (turnAt ts i) (nth xz sets (i : Int)) s S → (turnAt r.2 i).length ≤ S.length := by
          rcases hf with ⟨_, a2⟩ | ⟨_, a2⟩ | ⟨_, _, _, a4⟩ | ⟨a1, a2, a3, a4⟩
          · rw [a2] at q; cases q
          · exact absurd q a2.nz
          · rw [a4] at q; cases q
          · rcases hr with ⟨b1, b2⟩ | ⟨b1, b2, b3⟩ | ⟨b1, b2, ⟨i, hi, hn⟩, b4⟩ | h
            · exact absurd a1 b1
            · exact absurd a2 b2.not
            · exact absurd (a4 i hi) hn
            · exact h
        obtain ⟨g1, g2, g3, g4, g5⟩ := good
        rw [g3, show ((0 : Int) != 0) = false from rfl, ifb_false, show (((r.2.length : Nat) : Int) != ((sets.length : Nat) : Int)) = false by simp; omega]
        simp only [Option.bind_some, ifb_false]
        refine tot_allX (P := fun _ _ => True) (E := fun _ => False) (fun i t ht => ?_) (fun _ => ?_) (fun _ h => h.elim)
        · have hi := (List.getElem?_eq_some_iff.1 ht).1
          have et : turnAt ts i = t := nth_nat [] ht
          have hgi := g2 i hi
          rw [et] at hgi
          have htl := good_len hl hgi
          have hv := good_valid hgi
          obtain ⟨f1, f2⟩ := g5 i hi
          rw [et] at f1
          have hx := hs.all _ (nth_mem xz (xs := sets) (i := (i : Int)) (by omega) (by omega))
          have k0 := hx.k0; have k1 := hx.k1
          unfold fishkeep2_FleetInspected_b1
          rw [idx_nth xz (xs := sets) (i := (i : Int)) (by omega) (by omega)]
          simp only [Option.bind_some]
          rw [w64_id (x := (t.length : Int) + 1) (by omega) (by omega), glim_eq (by omega)]
          simp only [Option.bind_some]
          rw [show ((t.length : Int) + 1).toNat = t.length + 1 by omega]
          have hS : (turnAt r.2 i).length ≤ 1000000 := by
            have := f2 (mays (mayB l t (nth xz sets (i : Int)) s) (t.length + 1)) (by
              rw [et]
              refine ⟨?_, fun p hp => by obtain ⟨k, a, b, c⟩ := mem_mays.1 hp; exact ⟨k, a, by omega, c⟩⟩
              -- all positions that may be are enough where some are
              intro k hk
              have hK := f1.1 k hk
              have hkm : ∀ k, 0 ≤ kmOf l t k := fun k => (km_nn hl hv k).1
              rcases last_or (turnAt r.2 i) k with h | ⟨p, p1, p2, p3⟩
              · rw [v_none h] at hK
                have := v_le (S := mays (mayB l t (nth xz sets (i : Int)) s) (t.length + 1)) hkm k0 k
                omega
              · rw [v_last p2 p1 p3] at hK
                obtain ⟨p', e, _, hm⟩ := f1.2 _ p2
                have e : p = p' := by omega
                subst e
                have pm : (p : Int) ∈ mays (mayB l t (nth xz sets (i : Int)) s) (t.length + 1) := mem_mays.2 ⟨p, rfl, by omega, hm⟩
                rcases last_or (mays (mayB l t (nth xz sets (i : Int)) s) (t.length + 1)) k with h | ⟨m, m1, m2, m3⟩
                · exact absurd pm (h p p1)
                · rw [v_last m2 m1 m3]
                  have : p ≤ m := by
                    rcases Nat.lt_or_ge m p with c | c
                    · exact absurd pm (m3 p c p1)
                    · exact c
                  have := P_mono hkm this
                  omega)
            have := mays_len (mayB l t (nth xz sets (i : Int)) s) (t.length + 1)
            omega
          refine tot_loopN (I := fun k a => k ≤ t.length → a = u (kmOf l t) (nth xz sets (i : Int)).Km (turnAt r.2 i) k) (J := fun _ => True) (E := fun _ => False) (fun _ => rfl) (fun k a hk1 hI => ?_) (fun a _ => trivial) (fun a _ => tot_some trivial) (fun _ h => h.elim)
          have h1 := hI (by omega)
          subst h1
          unfold fishkeep2_FleetInspected_b2
          rw [idx_nth [] (xs := r.2) (i := (i : Int)) (by omega) (by omega)]
          simp only [Option.bind_some]
          rw [show nth [] r.2 (i : Int) = turnAt r.2 i from rfl, contains_ok _ _ hS]
          simp only [Option.bind_some]
          have e1 : ifb (decide ((k : Int) ∈ turnAt r.2 i)) (some (0 : Int)) (some (u (kmOf l t) (nth xz sets (i : Int)).Km (turnAt r.2 i) k)) = some (v (kmOf l t) (nth xz sets (i : Int)).Km (turnAt r.2 i) k) := by
            unfold v
            by_cases q : (k : Int) ∈ turnAt r.2 i
            · rw [decide_eq_true q, if_pos q]; rfl
            · rw [decide_eq_false q, if_neg q]; rfl
          rw [e1]
          simp only [Option.bind_some]
          refine tot_ifb (fun q => ?_) fun q => ?_
          · have q := of_decide_eq_true q
            have hkn : k < t.length := by omega
            have h := hv k hkn
            have ekm : (tk l (nth 0 t (k : Int))).Km = kmOf l t k := by unfold kmOf; rw [if_pos hkn]
            have b1 := km_nn hl hv k
            have b2 := u_bd hl hv k0 (turnAt r.2 i) k
            have b3 : 0 ≤ v (kmOf l t) (nth xz sets (i : Int)).Km (turnAt r.2 i) k ∧ v (kmOf l t) (nth xz sets (i : Int)).Km (turnAt r.2 i) k ≤ (nth xz sets (i : Int)).Km + 10000 * k := by unfold v; split <;> omega
            have b4 := f1.1 k hkn
            rw [idx_nth 0 (xs := t) (i := (k : Int)) (by omega) (by omega)]
            simp only [Option.bind_some]
            rw [tk_idx h.1 h.2]
            simp only [Option.bind_some]
            rw [ekm, w64_id (by omega) (by omega), decide_eq_false (by omega), ifb_false]
            exact tot_some fun _ => rfl
          · have q := of_decide_eq_false q
            exact tot_some fun h => by omega
        · rw [w64_id (x := 10000 - s.Limit) (by omega) (by omega)]
          refine tot_bind (P := fun b => b = decide (more < 0 ∨ more > 10000 - s.Limit)) ?_ fun b _ hb => ?_
          · by_cases q : more < 0
            · rw [decide_eq_true q, ifb_true]; exact tot_some (decide_eq_true (.inl q)).symm
            · rw [decide_eq_false q, ifb_false]
              by_cases q2 : more > 10000 - s.Limit
              · rw [decide_eq_true q2]; exact tot_some (decide_eq_true (.inr q2)).symm
              · rw [decide_eq_false q2]; exact tot_some (decide_eq_false (by omega)).symm
          subst hb
          refine tot_ifb (fun _ => tot_some rfl) fun q => ?_
          have q := of_decide_eq_false q
          rw [w64_id (x := s.Limit + more) (by omega) (by omega)]
          have hs' : SetsOk sets (S_fleet_Shop.mk s.Place s.Long (s.Limit + more)) 40 := ⟨hs.len, fun x hx => by
            have := hs.all x hx
            exact ⟨this.h0, this.h1, this.k0, by have := this.k1; simp only; omega⟩, hs.shop.p0, hs.shop.p1, hs.shop.l0, hs.shop.l1, by simp only; omega, by simp only; omega⟩
          have wider : ∀ i S, Found l (turnAt ts i) (nth xz sets (i : Int)) s S → Found l (turnAt ts i) (nth xz sets (i : Int)) (S_fleet_Shop.mk s.Place s.Long (s.Limit + more)) S := fun i S hF => ⟨fun k hk => by have := hF.1 k hk; simp only; omega, hF.2⟩
          refine tot_bind (inspect_ok hl hs' hlen) fun r' _ hr' => ?_
          rcases hr' with ⟨b1, b2⟩ | ⟨b1, b2, b3⟩ | ⟨b1, b2, ⟨i, hi, hn⟩, b4⟩ | ⟨b1, b2, b3, b4, b5⟩
          · exact absurd g1 b1
          · exact absurd g2 b2.not
          · exact absurd ⟨_, wider i _ (g5 i hi).1⟩ hn
          · rw [b3, show ((0 : Int) == 0) = true from rfl, ifb_true]
            unfold slices_EqualFunc_int_int_int_int
            rw [show (((r'.2.length : Nat) : Int) != ((r.2.length : Nat) : Int)) = false by simp; omega, ifb_false]
            refine tot_bind (P := fun b => b = true) ?_ fun b _ hb => tot_some_iff.2 ?_
            · refine tot_bind (P := fun b => b = true) ?_ fun b _ hb => tot_some hb
              refine tot_allX (P := fun _ _ => True) (E := fun _ => False) (fun i x hx => ?_) (fun _ => tot_some rfl) (fun _ h => h.elim)
              have hi := (List.getElem?_eq_some_iff.1 hx).1
              have ex : turnAt r'.2 i = x := nth_nat [] hx
              have := (b5 i (by omega)).2 (turnAt r.2 i) (wider i _ (g5 i (by omega)).1)
              rw [ex] at this
              unfold slices_EqualFunc_int_int_int_int_b1 fishkeep2_FleetInspected_1
              rw [idx_nth [] (xs := r.2) (i := (i : Int)) (by omega) (by omega)]
              simp only [Option.bind_some]
              rw [show nth [] r.2 (i : Int) = turnAt r.2 i from rfl, decide_eq_true (by omega)]
              exact tot_some trivial
            · exact hb
    · rw [q1, show ((0 : Int) != 0) = false from rfl, ifb_false, show (e2 != 0) = true by simpa using q2]
      simp only [Option.bind_some, ifb_true]
      exact tot_some rfl
  · rw [show (e1 != 0) = true by simpa using q1, ifb_true]
    simp only [Option.bind_some, ifb_true]
    exact tot_some rfl
end Fi
namespace Go.Proofs.Ytmhpeefjjclpfaa
theorem fleetInspected_proved : Rows.FleetInspectedSaid := FleetInspected.close Fi.law
end Go.Proofs.Ytmhpeefjjclpfaa
