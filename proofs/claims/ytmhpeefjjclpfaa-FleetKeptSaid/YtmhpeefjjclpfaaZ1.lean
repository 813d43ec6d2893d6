/- FleetKept: tasks, limits, and what judge says. -/
import Derived.Test.YtmhpeefjjclpfaaZP
import Derived.Test.YtmhpeefjjclpfaaK5
import Derived.Test.YtmhpeefjjclpfaaZC
set_option linter.unusedVariables false
set_option linter.unusedSimpArgs false
set_option maxRecDepth 100000
namespace Fp
open Go Hk Hd Pl

def tz : S_fleet_Task := ⟨0, 0, 0, 0, 0, 0⟩
def tk (l : List S_fleet_Task) (i : Int) : S_fleet_Task := nth tz l i
structure TaskOk (t : S_fleet_Task) : Prop where
  f0 : 0 ≤ t.From
  f1 : t.From ≤ 11
  o0 : 0 ≤ t.To
  o1 : t.To ≤ 11
  d0 : 0 ≤ t.Dep
  da : t.Dep < t.Arr
  a1 : t.Arr ≤ 28800
  k0 : 0 ≤ t.Km
  k1 : t.Km ≤ 10000
  u0 : 1 ≤ t.Units
  u1 : t.Units ≤ 4
structure TasksOk (l : List S_fleet_Task) : Prop where
  len : l.length ≤ 40
  all : ∀ t ∈ l, TaskOk t
theorem TasksOk.at {l : List S_fleet_Task} (h : TasksOk l) {i : Int} (h0 : 0 ≤ i) (h1 : i < l.length) : TaskOk (tk l i) := h.all _ (nth_mem tz h0 h1)
theorem tk_idx {l : List S_fleet_Task} {i : Int} (h0 : 0 ≤ i) (h1 : i < l.length) : idx l i = some (tk l i) := idx_nth tz h0 h1
theorem tk_get {l : List S_fleet_Task} {i : Nat} {x : S_fleet_Task} (h : l[i]? = some x) : tk l (i : Int) = x := nth_nat tz h
theorem within_eq (a b c : Int) : fleet_within a b c = some (decide (b ≤ a ∧ a ≤ c)) := by
  unfold fleet_within
  by_cases h : b ≤ a
  · rw [show decide (a ≥ b) = true from decide_eq_true h, ifb_true]; simp [h]
  · rw [show decide (a ≥ b) = false from decide_eq_false h, ifb_false]; simp [h]
theorem task_b1 (i : Nat) (x : S_fleet_Task) : Tot (fleet_CheckTasks_b1 i x ()) (fun c => match c with | .go _ => TaskOk x | .out (.go _) => False | .out (.out y) => y ≠ 0 ∧ ¬ TaskOk x) := by
  simp only [fleet_CheckTasks_b1, within_eq, Option.bind_some, tot_bind_iff, tot_ifb_iff, tot_some_iff]
  simp only [Bool.not_eq_true', Bool.not_eq_false', decide_eq_true_eq, decide_eq_false_iff_not]
  refine ⟨fun h => ?_, fun h => ?_⟩
  · simp only [true_implies, Bool.true_eq_false, false_implies, and_true]
    exact ⟨by decide, fun k => h ⟨k.f0, k.f1⟩⟩
  refine ⟨fun h2 => ?_, fun h2 => ?_⟩
  · simp only [true_implies, Bool.true_eq_false, false_implies, and_true]
    exact ⟨by decide, fun k => h2 ⟨k.o0, k.o1⟩⟩
  refine ⟨fun h3 => ?_, fun h3 => ?_⟩
  · simp only [true_implies, Bool.true_eq_false, false_implies, and_true]
    exact ⟨by decide, fun k => h3 ⟨k.d0, by have := k.da; have := k.a1; omega⟩⟩
  refine ⟨fun h4 => ⟨by decide, fun k => h4 ⟨by have := k.da; have := k.d0; omega, k.a1⟩⟩, fun h4 => ⟨fun h5 => ⟨by decide, fun k => by have := k.da; omega⟩, fun h5 => ⟨fun h6 => ?_, fun h6 => ?_⟩⟩⟩
  · simp only [true_implies, Bool.true_eq_false, false_implies, and_true]
    exact ⟨by decide, fun k => h6 ⟨k.k0, k.k1⟩⟩
  · exact ⟨fun h7 => ⟨by decide, fun k => h7 ⟨k.u0, k.u1⟩⟩, fun h7 => ⟨h.1, h.2, h2.1, h2.2, h3.1, by omega, h4.2, h6.1, h6.2, h7.1, h7.2⟩⟩
theorem tasks_tot (l : List S_fleet_Task) : Tot (fleet_CheckTasks l) (fun e => e = 0 ↔ TasksOk l) := by
  unfold fleet_CheckTasks
  refine tot_ifb (fun h => ?_) fun h => ?_
  · simp only [decide_eq_true_eq] at h
    exact tot_some ⟨fun h => (by cases h), fun k => (by have := k.len; omega)⟩
  · simp only [decide_eq_false_iff_not] at h
    refine tot_bind (P := fun c => match c with | .go _ => ∀ (i : Nat) x, l[i]? = some x → TaskOk x | .out y => y ≠ 0 ∧ ¬ TasksOk l) ?_ fun c _ hc => ?_
    · rw [forX_eq]
      refine tot_forC (I := fun k _ => ∀ (i : Nat) x, i < k → l[i]? = some x → TaskOk x) (fun i x h => by omega) (fun i x s hx hI => tot_mono (task_b1 i x) fun c hc => ?_) fun s hI i x hx => hI i x (List.getElem?_eq_some_iff.1 hx).1 hx
      rcases c with _ | (_ | y)
      · intro j y hj hy
        by_cases h : j = i
        · subst h; rw [hx] at hy; injection hy with hy; subst hy; exact hc
        · exact hI j y (by omega) hy
      · exact hc.elim
      · exact ⟨hc.1, fun k => hc.2 (k.all x (List.mem_of_getElem? hx))⟩
    · cases c with
      | go _ => exact tot_some ⟨fun _ => ⟨by omega, mem_of_all hc⟩, fun _ => rfl⟩
      | out y => exact tot_some ⟨fun e => absurd e hc.1, fun k => absurd k hc.2⟩
theorem tasks_ok {l : List S_fleet_Task} (h : TasksOk l) : fleet_CheckTasks l = some 0 := by
  obtain ⟨e, h1, h2⟩ := tasks_tot l
  rw [h1, h2.2 h]

theorem contains_ok (xs : List Int) (v : Int) (h : xs.length ≤ 1000000) : slices_Contains_int_int xs v = some (decide (v ∈ xs)) := by
  refine tot_eq (?_ : Tot _ (· = decide (v ∈ xs)))
  unfold slices_Contains_int_int slices_Index_int_int
  refine tot_bind (P := fun i => (i = -1 ∧ v ∉ xs) ∨ 0 ≤ i ∧ v ∈ xs) ?_ fun i _ hi => ?_
  · refine tot_allX (P := fun i x => x ≠ v) (E := fun i => 0 ≤ i ∧ v ∈ xs) (fun i x hx => ?_) (fun h => ?_) fun i hi => tot_some (.inr hi)
    · unfold slices_Index_int_int_b1
      refine tot_ifb (fun q => ?_) fun q => ?_
      · have q : v = x := by simpa using q
        exact tot_some ⟨by omega, by rw [q]; exact List.mem_of_getElem? hx⟩
      · have q : v ≠ x := by simpa using q
        exact tot_some fun e => q e.symm
    · refine tot_some (.inl ⟨rfl, fun hm => ?_⟩)
      obtain ⟨i, hi⟩ := List.getElem?_of_mem hm
      exact h i v hi rfl
  · refine tot_some ?_
    rcases hi with ⟨rfl, h⟩ | ⟨h0, h⟩
    · simp [h]
    · simp [h, h0]
theorem containsB_ok (xs : List Bool) (v : Bool) (h : xs.length ≤ 1000000) : slices_Contains_bool_bool_v2 v xs = some (decide (v ∈ xs)) := by
  refine tot_eq (?_ : Tot _ (· = decide (v ∈ xs)))
  unfold slices_Contains_bool_bool_v2 slices_Index_bool_bool
  refine tot_bind (P := fun i => (i = -1 ∧ v ∉ xs) ∨ 0 ≤ i ∧ v ∈ xs) ?_ fun i _ hi => ?_
  · refine tot_allX (P := fun i x => x ≠ v) (E := fun i => 0 ≤ i ∧ v ∈ xs) (fun i x hx => ?_) (fun h => ?_) fun i hi => tot_some (.inr hi)
    · unfold slices_Index_bool_bool_b1
      refine tot_ifb (fun q => ?_) fun q => ?_
      · have q : v = x := by simpa using q
        exact tot_some ⟨by omega, by rw [q]; exact List.mem_of_getElem? hx⟩
      · have q : v ≠ x := by simpa using q
        exact tot_some fun e => q e.symm
    · refine tot_some (.inl ⟨rfl, fun hm => ?_⟩)
      obtain ⟨i, hi⟩ := List.getElem?_of_mem hm
      exact h i v hi rfl
  · refine tot_some ?_
    rcases hi with ⟨rfl, h⟩ | ⟨h0, h⟩
    · simp [h]
    · simp [h, h0]

structure LimOk (x : S_fleet_Limits) : Prop where
  c0 : 0 ≤ x.Change
  c1 : x.Change ≤ 86400
  l0 : 0 ≤ x.Long
  l1 : x.Long ≤ 86400
  w0 : 0 ≤ x.Work
  w1 : x.Work ≤ 86400
  a0 : 0 ≤ x.After
  a1 : x.After ≤ 86400
  b0 : 0 ≤ x.Break
  b1 : x.Break ≤ 86400
  r0 : 0 ≤ x.Rest
  r1 : x.Rest ≤ 86400
  o0 : 1 ≤ x.Row
  o1 : x.Row ≤ 7
theorem lims_tot (x : S_fleet_Limits) : Tot (fleet_CheckLimits x) (fun e => e = 0 ↔ LimOk x) := by
  unfold fleet_CheckLimits
  refine tot_bind (P := fun c => match c with | .go _ => ∀ j : Int, 0 ≤ j → j < 6 → 0 ≤ nth 0 [x.Change, x.Long, x.Work, x.After, x.Break, x.Rest] j ∧ nth 0 [x.Change, x.Long, x.Work, x.After, x.Break, x.Rest] j ≤ 86400 | .out y => y ≠ 0 ∧ ¬ LimOk x) ?_ fun c _ hc => ?_
  · refine tot_iter (I := fun s => 0 ≤ s ∧ s ≤ 6 ∧ ∀ j : Int, 0 ≤ j → j < s → 0 ≤ nth 0 [x.Change, x.Long, x.Work, x.After, x.Break, x.Rest] j ∧ nth 0 [x.Change, x.Long, x.Work, x.After, x.Break, x.Rest] j ≤ 86400) (μ := fun s => (6 - s).toNat) ⟨by omega, by omega, fun j h0 h1 => by omega⟩ (by show 6 < bigN; decide) ?_
    rintro s ⟨h0, h1, h2⟩
    unfold fleet_CheckLimits_b1
    refine tot_ifb (fun q => ?_) fun q => ?_
    · have q := of_decide_eq_true q
      rw [idx_nth 0 h0 (by simp; omega)]
      simp only [Option.bind_some, within_eq]
      refine tot_ifb (fun q2 => ?_) fun q2 => ?_
      · simp only [Bool.not_eq_true', decide_eq_false_iff_not] at q2
        refine tot_some ⟨by decide, fun k => q2 ?_⟩
        obtain rfl | rfl | rfl | rfl | rfl | rfl : s = 0 ∨ s = 1 ∨ s = 2 ∨ s = 3 ∨ s = 4 ∨ s = 5 := by omega
        · exact ⟨k.c0, k.c1⟩
        · exact ⟨k.l0, k.l1⟩
        · exact ⟨k.w0, k.w1⟩
        · exact ⟨k.a0, k.a1⟩
        · exact ⟨k.b0, k.b1⟩
        · exact ⟨k.r0, k.r1⟩
      · simp only [Bool.not_eq_false', decide_eq_true_eq] at q2
        rw [w64_id (by omega) (by omega)]
        refine tot_some ⟨⟨by omega, by omega, fun j h3 h4 => ?_⟩, by omega⟩
        by_cases h : j = s
        · subst h; exact q2
        · exact h2 j h3 (by omega)
    · have q := of_decide_eq_false q
      exact tot_some fun j h3 h4 => h2 j h3 (by omega)
  · cases c with
    | out y => exact tot_some ⟨fun e => absurd e hc.1, fun k => absurd k hc.2⟩
    | go u =>
      simp only [Ctl.on, within_eq, Option.bind_some]
      refine tot_ifb (fun q2 => ?_) fun q2 => ?_
      · simp only [Bool.not_eq_true', decide_eq_false_iff_not] at q2
        exact tot_some ⟨fun e => (by cases e), fun k => absurd ⟨k.o0, k.o1⟩ q2⟩
      · simp only [Bool.not_eq_false', decide_eq_true_eq] at q2
        have e0 := hc 0 (by omega) (by omega)
        have e1 := hc 1 (by omega) (by omega)
        have e2 := hc 2 (by omega) (by omega)
        have e3 := hc 3 (by omega) (by omega)
        have e4 := hc 4 (by omega) (by omega)
        have e5 := hc 5 (by omega) (by omega)
        exact tot_some ⟨fun _ => ⟨e0.1, e0.2, e1.1, e1.2, e2.1, e2.2, e3.1, e3.2, e4.1, e4.2, e5.1, e5.2, q2.1, q2.2⟩, fun _ => rfl⟩
theorem checks_tot (l : List S_fleet_Task) (x : S_fleet_Limits) : Tot (fleet_checkTasks l x) (fun e => e = 0 ↔ TasksOk l ∧ LimOk x) := by
  unfold fleet_checkTasks
  refine tot_bind (tasks_tot l) fun e _ he => ?_
  refine tot_ifb (fun h => ?_) fun h => ?_
  · have h : e ≠ 0 := by simpa using h
    exact tot_some ⟨fun k => absurd k h, fun k => he.2 k.1⟩
  · have h : e = 0 := by simpa using h
    refine tot_bind (lims_tot x) fun e2 _ he2 => tot_some ?_
    exact ⟨fun k => ⟨he.1 h, he2.1 k⟩, fun k => he2.2 k.2⟩

/-! ### judge -/
def last (t : List Int) : Int := nth 0 t ((t.length : Int) - 1)
/-- the task at a place of a duty -/
def at_ (l : List S_fleet_Task) (d : List Int) (i : Nat) : S_fleet_Task := tk l (nth 0 d (i : Int))
/-- one task may follow another -/
def Lk (l : List S_fleet_Task) (x : S_fleet_Limits) (a b : Int) : Prop := (tk l b).From = (tk l a).To ∧ (tk l a).Arr + x.Change ≤ (tk l b).Dep
/-- begin of the time without a pause -/
def bg (l : List S_fleet_Task) (d : List Int) (B : Int) : Nat → Int
  | 0 => (at_ l d 0).Dep
  | i + 1 => if B ≤ (at_ l d (i + 1)).Dep - (at_ l d i).Arr then (at_ l d (i + 1)).Dep else bg l d B i
def wk (l : List S_fleet_Task) (d : List Int) (n : Nat) : Int := sumN (fun i => (at_ l d i).Arr - (at_ l d i).Dep) n
structure Jd (l : List S_fleet_Task) (x : S_fleet_Limits) (d : List Int) : Prop where
  ne : d ≠ []
  lk : ∀ i : Nat, i + 1 < d.length → Lk l x (nth 0 d i) (nth 0 d (i + 1 : Nat))
  br : ∀ i : Nat, i + 1 < d.length → x.Break ≤ (at_ l d (i + 1)).Dep - (at_ l d i).Arr → (at_ l d i).Arr - bg l d x.Break i ≤ x.After
  be : (tk l (last d)).Arr - bg l d x.Break (d.length - 1) ≤ x.After
  lo : (tk l (last d)).Arr - (at_ l d 0).Dep ≤ x.Long
  wo : wk l d d.length ≤ x.Work
  to_ : (tk l (last d)).To = (at_ l d 0).From
/-- looser limits -/
structure Lax (x y : S_fleet_Limits) : Prop where
  c : y.Change ≤ x.Change
  l : x.Long ≤ y.Long
  w : x.Work ≤ y.Work
  a : x.After ≤ y.After
  b : y.Break = x.Break
theorem Lk.lax {l : List S_fleet_Task} {x y : S_fleet_Limits} {a b : Int} (h : Lk l x a b) (hx : Lax x y) : Lk l y a b := ⟨h.1, by have := h.2; have := hx.c; omega⟩
theorem Jd.lax {l : List S_fleet_Task} {x y : S_fleet_Limits} {d : List Int} (h : Jd l x d) (hx : Lax x y) : Jd l y d where
  ne := h.ne
  lk i hi := (h.lk i hi).lax hx
  br i hi hb := by rw [hx.b] at hb ⊢; have := h.br i hi hb; have := hx.a; omega
  be := by rw [hx.b]; have := h.be; have := hx.a; omega
  lo := by have := h.lo; have := hx.l; omega
  wo := by have := h.wo; have := hx.w; omega
  to_ := h.to_
theorem bg_bd {l : List S_fleet_Task} {d : List Int} {B : Int} (hl : TasksOk l) (hd : ∀ k ∈ d, 0 ≤ k ∧ k < l.length) : ∀ i : Nat, i < d.length → 0 ≤ bg l d B i ∧ bg l d B i ≤ 28800
  | 0, h => by have := hl.at (hd _ (nth_mem 0 (i := ((0 : Nat) : Int)) (by omega) (by omega))).1 (hd _ (nth_mem 0 (i := ((0 : Nat) : Int)) (by omega) (by omega))).2; have h1 := this.d0; have h2 := this.da; have h3 := this.a1; simp only [bg, at_]; omega
  | i + 1, h => by
    have := hl.at (hd _ (nth_mem 0 (i := ((i + 1 : Nat) : Int)) (by omega) (by omega))).1 (hd _ (nth_mem 0 (i := ((i + 1 : Nat) : Int)) (by omega) (by omega))).2
    have h1 := this.d0; have h2 := this.da; have h3 := this.a1
    have h4 : 0 ≤ (at_ l d (i + 1)).Dep := h1
    have h5 : (at_ l d (i + 1)).Dep ≤ 28800 := by show (tk l (nth 0 d ((i + 1 : Nat) : Int))).Dep ≤ 28800; omega
    have ih := bg_bd (B := B) hl hd i (by omega)
    show 0 ≤ (if B ≤ (at_ l d (i + 1)).Dep - (at_ l d i).Arr then (at_ l d (i + 1)).Dep else bg l d B i) ∧ (if B ≤ (at_ l d (i + 1)).Dep - (at_ l d i).Arr then (at_ l d (i + 1)).Dep else bg l d B i) ≤ 28800
    by_cases hb : B ≤ (at_ l d (i + 1)).Dep - (at_ l d i).Arr
    · rw [if_pos hb]; exact ⟨h4, h5⟩
    · rw [if_neg hb]; exact ih
/-- what judge keeps -/
structure JI (l : List S_fleet_Task) (x : S_fleet_Limits) (d : List Int) (k : Nat) (w br be : Int) : Prop where
  w : w = wk l d k
  be : be = bg l d x.Break (k - 1)
  br : (br = 0 ∨ br = 4) ∧ (br = 0 ↔ ∀ i : Nat, i + 1 < k → x.Break ≤ (at_ l d (i + 1)).Dep - (at_ l d i).Arr → (at_ l d i).Arr - bg l d x.Break i ≤ x.After)
  lk : ∀ i : Nat, i + 1 < k → Lk l x (nth 0 d i) (nth 0 d (i + 1 : Nat))
theorem wk_bd {l : List S_fleet_Task} {d : List Int} (hl : TasksOk l) (hd : ∀ k ∈ d, 0 ≤ k ∧ k < l.length) (n : Nat) (h : n ≤ d.length) : 0 ≤ wk l d n ∧ wk l d n ≤ n * 28800 := by
  have hb : ∀ i, i < n → 0 ≤ (at_ l d i).Arr - (at_ l d i).Dep ∧ (at_ l d i).Arr - (at_ l d i).Dep ≤ 28800 := fun i hi => by
    have := hl.at (hd _ (nth_mem 0 (i := (i : Int)) (by omega) (by omega))).1 (hd _ (nth_mem 0 (i := (i : Int)) (by omega) (by omega))).2
    have h1 := this.d0; have h2 := this.da; have h3 := this.a1
    unfold at_; omega
  constructor
  · exact sumN_pos fun i hi => (hb i hi).1
  · have h := sumN_le (f := fun i => (at_ l d i).Arr - (at_ l d i).Dep) (g := fun _ => 28800) (n := n) fun i hi => (hb i hi).2
    rw [sumN_const] at h
    exact h
section
variable {l : List S_fleet_Task} {x : S_fleet_Limits} {d : List Int}
def js (x : S_fleet_Limits) (w br be : Int) : Int × Int × Int × Int × Int × Int × Int × Int × Int × Int := (w, x.Change, x.Long, x.Work, x.After, x.Break, x.Rest, x.Row, br, be)
theorem judge_b1 (hl : TasksOk l) (hx : LimOk x) (hd : ∀ k ∈ d, 0 ≤ k ∧ k < l.length) (hn : d.length ≤ 1000) {i : Nat} {k : Int} (hk : d[i]? = some k) {w br be : Int} (h : JI l x d i w br be) :
    Tot (fleet_judge_b1 l d i k (js x w br be)) (fun c => match c with | .go s => ∃ w br be, s = js x w br be ∧ JI l x d (i + 1) w br be | .out (.go s) => False | .out (.out y) => y ≠ 0 ∧ ¬ Jd l x d) := by
  have hi : i < d.length := (List.getElem?_eq_some_iff.1 hk).1
  have hkk := hd k (List.mem_of_getElem? hk)
  have ek : nth 0 d (i : Int) = k := nth_nat 0 hk
  have ht := hl.at hkk.1 hkk.2
  have t1 := ht.d0; have t2 := ht.da; have t3 := ht.a1
  have hw := wk_bd hl hd i (by omega)
  have hw2 : wk l d (i + 1) = wk l d i + ((tk l k).Arr - (tk l k).Dep) := by
    show wk l d i + ((at_ l d i).Arr - (at_ l d i).Dep) = _
    unfold at_; rw [ek]
  have x1 := hx.c0; have x2 := hx.c1; have x3 := hx.b0
  unfold fleet_judge_b1 js
  refine tot_bind' (tk_idx hkk.1 hkk.2) ?_
  rw [w64_id (x := (tk l k).Arr - (tk l k).Dep) (by omega) (by omega)]
  have ew : w64 (w + ((tk l k).Arr - (tk l k).Dep)) = wk l d (i + 1) := by
    rw [hw2, ← h.w, w64_id]
    all_goals (have := h.w; omega)
  simp only [ew]
  refine tot_ifb (fun q => ?_) fun q => ?_
  · have q : (i : Int) = 0 := by simpa using q
    have q : i = 0 := by omega
    subst q
    refine tot_some ⟨wk l d 1, br, be, rfl, rfl, by rw [h.be], ⟨h.br.1, ?_⟩, fun j hj => by omega⟩
    exact ⟨fun _ j hj => by omega, fun _ => h.br.2.2 fun j hj => by omega⟩
  have q : ¬ (i : Int) = 0 := by simpa using q
  obtain ⟨j, rfl⟩ : ∃ j, i = j + 1 := ⟨i - 1, by omega⟩
  have e1 : w64 (((j + 1 : Nat) : Int) - 1) = (j : Int) := by rw [w64_id (by omega) (by omega)]; omega
  rw [e1]
  have hj : j < d.length := by omega
  have hb := hd _ (nth_mem 0 (xs := d) (i := (j : Int)) (by omega) (by omega))
  have hbt := hl.at hb.1 hb.2
  have b1 := hbt.d0; have b2 := hbt.da; have b3 := hbt.a1
  refine tot_bind' (idx_nth 0 (by omega) (by omega)) ?_
  refine tot_bind' (tk_idx hb.1 hb.2) ?_
  refine tot_bind (P := fun b : Bool => b = true ↔ ¬ Lk l x (nth 0 d j) k) ?_ fun b _ hbk => ?_
  · refine tot_ifb (fun q => ?_) fun q => ?_
    · have q : (tk l k).From ≠ (tk l (nth 0 d j)).To := by simpa using q
      exact tot_some ⟨fun _ k => q k.1, fun _ => rfl⟩
    · have q : (tk l k).From = (tk l (nth 0 d j)).To := by simpa using q
      rw [w64_id (by omega) (by omega)]
      refine tot_some ?_
      rw [decide_eq_true_iff]
      exact ⟨fun h k => by have := k.2; omega, fun h => by
        by_cases hh : (tk l (nth 0 d j)).Arr + x.Change ≤ (tk l k).Dep
        · exact absurd ⟨q, hh⟩ h
        · omega⟩
  refine tot_ifb (fun q => ?_) fun q => ?_
  · refine tot_some ⟨by decide, fun hj2 => hbk.1 q ?_⟩
    have := hj2.lk j hi
    rwa [ek] at this
  have hlk : Lk l x (nth 0 d j) k := by
    by_cases hh : Lk l x (nth 0 d j) k
    · exact hh
    · rw [hbk.2 hh] at q; cases q
  have lk2 : ∀ i : Nat, i + 1 < j + 1 + 1 → Lk l x (nth 0 d i) (nth 0 d (i + 1 : Nat)) := fun i hi2 => by
    by_cases hh : i = j
    · subst hh; rw [ek]; exact hlk
    · exact h.lk i (by omega)
  have eAt1 : at_ l d (j + 1) = tk l k := by unfold at_; rw [ek]
  have eAt0 : at_ l d j = tk l (nth 0 d j) := rfl
  have bb := bg_bd (B := x.Break) hl hd j (by omega)
  have hbe : be = bg l d x.Break j := h.be
  rw [w64_id (x := (tk l k).Dep - (tk l (nth 0 d j)).Arr) (by omega) (by omega)]
  refine tot_ifb (fun q2 => ?_) fun q2 => ?_
  · have q2 := of_decide_eq_true q2
    have e2 : bg l d x.Break (j + 1) = (tk l k).Dep := by
      show (if x.Break ≤ (at_ l d (j + 1)).Dep - (at_ l d j).Arr then (at_ l d (j + 1)).Dep else bg l d x.Break j) = _
      rw [eAt1, eAt0, if_pos (by omega)]
    unfold fleet_judge_1_v2
    rw [w64_id (x := (tk l (nth 0 d j)).Arr - be) (by omega) (by omega)]
    refine tot_bind (P := fun r => ∃ br', r = (be, x.Change, x.Long, x.Work, x.After, x.Break, x.Rest, x.Row, br') ∧ (br' = 0 ∨ br' = 4) ∧ (br' = 0 ↔ br = 0 ∧ (tk l (nth 0 d j)).Arr - be ≤ x.After)) ?_ fun r _ hr => ?_
    · refine tot_ifb (fun q3 => ?_) fun q3 => ?_
      · have q3 := of_decide_eq_true q3
        exact tot_some ⟨4, rfl, .inr rfl, by omega⟩
      · have q3 := of_decide_eq_false q3
        exact tot_some ⟨br, rfl, h.br.1, by omega⟩
    · obtain ⟨br', rfl, h1, h2⟩ := hr
      refine tot_some ⟨wk l d (j + 1 + 1), br', (tk l k).Dep, rfl, rfl, e2.symm, ⟨h1, ?_⟩, lk2⟩
      rw [h2, h.br.2]
      constructor
      · rintro ⟨h3, h4⟩ i hi2 hg
        by_cases hh : i = j
        · subst hh; rw [eAt0, ← hbe]; exact h4
        · exact h3 i (by omega) hg
      · intro h3
        refine ⟨fun i hi2 hg => h3 i (by omega) hg, ?_⟩
        have := h3 j (by omega) (by rw [eAt1, eAt0]; omega)
        rw [hbe]; exact this
  · have q2 := of_decide_eq_false q2
    have e2 : bg l d x.Break (j + 1) = bg l d x.Break j := by
      show (if x.Break ≤ (at_ l d (j + 1)).Dep - (at_ l d j).Arr then (at_ l d (j + 1)).Dep else bg l d x.Break j) = _
      rw [eAt1, eAt0, if_neg (by omega)]
    refine tot_some ⟨wk l d (j + 1 + 1), br, be, rfl, rfl, by rw [hbe]; exact e2.symm, ⟨h.br.1, ?_⟩, lk2⟩
    rw [h.br.2]
    constructor
    · intro h3 i hi2 hg
      by_cases hh : i = j
      · subst hh; rw [eAt1, eAt0] at hg; omega
      · exact h3 i (by omega) hg
    · intro h3 i hi2 hg
      exact h3 i (by omega) hg
theorem judge_ok (hl : TasksOk l) (hx : LimOk x) (hne : d ≠ []) (hd : ∀ k ∈ d, 0 ≤ k ∧ k < l.length) (hn : d.length ≤ 1000) : Tot (fleet_judge l d x) fun v => v = 0 ↔ Jd l x d := by
  have hlen : 0 < d.length := List.length_pos_iff.2 hne
  have f0 := hd _ (nth_mem 0 (xs := d) (i := 0) (by omega) (by omega))
  have g0 := hd _ (nth_mem 0 (xs := d) (i := (d.length : Int) - 1) (by omega) (by omega))
  have ft := hl.at f0.1 f0.2
  have gt := hl.at g0.1 g0.2
  have a1 := ft.d0; have a2 := ft.da; have a3 := ft.a1
  have c1 := gt.d0; have c2 := gt.da; have c3 := gt.a1
  unfold fleet_judge
  refine tot_bind' (x := ((tk l (nth 0 d 0)).From, (tk l (nth 0 d 0)).To, (tk l (nth 0 d 0)).Dep, (tk l (nth 0 d 0)).Arr, (tk l (nth 0 d 0)).Km, (tk l (nth 0 d 0)).Units, (tk l (last d)).From, (tk l (last d)).To, (tk l (last d)).Dep, (tk l (last d)).Arr, (tk l (last d)).Km, (tk l (last d)).Units)) ?_ ?_
  · rw [idx_nth 0 (by omega) (by omega), Option.bind_some, tk_idx f0.1 f0.2, Option.bind_some, w64_id (by omega) (by omega), idx_nth 0 (by omega) (by omega), Option.bind_some, tk_idx g0.1 g0.2]
    rfl
  refine tot_loopX (I := fun k s => ∃ w br be, s = js x w br be ∧ JI l x d k w br be) (J := fun s => ∃ w br be, s = js x w br be ∧ JI l x d d.length w br be) (E := fun y => y ≠ 0 ∧ ¬ Jd l x d) ⟨0, 0, _, rfl, rfl, rfl, ⟨.inl rfl, fun _ i hi => by omega, fun _ => rfl⟩, fun i hi => by omega⟩ ?_ (fun s h => h) ?_ (fun y hy => tot_some ⟨fun e => absurd e hy.1, fun k => absurd k hy.2⟩)
  · rintro i k s hk ⟨w, br, be, rfl, h⟩
    exact tot_mono (judge_b1 hl hx hd hn hk h) fun c hc => by
      rcases c with s | (s | y)
      · exact hc
      · exact hc.elim
      · exact hc
  · rintro s ⟨w, br, be, rfl, h⟩
    have bb := bg_bd (B := x.Break) hl hd (d.length - 1) (by omega)
    have hbe := h.be
    unfold fleet_judge_1 js last
    simp only [Option.bind_some]
    rw [w64_id (x := (tk l (nth 0 d ((d.length : Int) - 1))).Arr - be) (by omega) (by omega), w64_id (x := (tk l (nth 0 d ((d.length : Int) - 1))).Arr - (tk l (nth 0 d 0)).Dep) (by omega) (by omega)]
    refine tot_bind (P := fun v => (v = 0 ∨ v = 4) ∧ (v = 0 ↔ br = 0 ∧ (tk l (nth 0 d ((d.length : Int) - 1))).Arr - be ≤ x.After)) ?_ fun v _ hv => ?_
    · refine tot_ifb (fun q3 => ?_) fun q3 => ?_
      · have q3 := of_decide_eq_true q3
        exact tot_some ⟨.inr rfl, by omega⟩
      · have q3 := of_decide_eq_false q3
        exact tot_some ⟨h.br.1, by omega⟩
    refine tot_ifb (fun q => ?_) fun q => ?_
    · have q := of_decide_eq_true q
      exact tot_some ⟨fun e => (by cases e), fun k => by have : (tk l (nth 0 d ((d.length : Int) - 1))).Arr - (tk l (nth 0 d 0)).Dep ≤ x.Long := k.lo; omega⟩
    have q := of_decide_eq_false q
    refine tot_ifb (fun q1 => ?_) fun q1 => ?_
    · have q1 := of_decide_eq_true q1
      exact tot_some ⟨fun e => (by cases e), fun k => by have := k.wo; have := h.w; omega⟩
    have q1 := of_decide_eq_false q1
    refine tot_ifb (fun q2 => ?_) fun q2 => ?_
    · have q2 := of_decide_eq_true q2
      refine tot_some ⟨fun e => by omega, fun k => ?_⟩
      exact hv.2.2 ⟨h.br.2.2 k.br, by have := k.be; rw [hbe]; exact this⟩
    have q2 := of_decide_eq_false q2
    have hv0 : v = 0 := by have := hv.1; omega
    have hb2 := hv.2.1 hv0
    refine tot_ifb (fun q3 => ?_) fun q3 => ?_
    · have q3 : (tk l (nth 0 d ((d.length : Int) - 1))).To ≠ (tk l (nth 0 d 0)).From := by simpa using q3
      exact tot_some ⟨fun e => (by cases e), fun k => absurd k.to_ q3⟩
    · have q3 : (tk l (nth 0 d ((d.length : Int) - 1))).To = (tk l (nth 0 d 0)).From := by simpa using q3
      refine tot_some ⟨fun _ => ⟨hne, h.lk, h.br.2.1 hb2.1, by rw [← hbe]; exact hb2.2, by show (tk l (nth 0 d ((d.length : Int) - 1))).Arr - (tk l (nth 0 d 0)).Dep ≤ x.Long; omega, by rw [← h.w]; omega, q3⟩, fun _ => rfl⟩
end
end Fp

/- FleetKept: the search for duties, and what it finds. -/
set_option linter.unusedVariables false
set_option linter.unusedSimpArgs false
set_option maxRecDepth 100000
namespace Fp
open Go Hk Hd Pl

/-- a search that succeeds -/
inductive Tr (l : List S_fleet_Task) (x : S_fleet_Limits) : Int → Int → Option (List Int) → List Bool → List (List Int) → Prop
  | done {above : Int} {U : List Bool} : false ∉ U → Tr l x 0 above none U []
  | start {many above k : Int} {U : List Bool} {new : List (List Int)} : false ∈ U → many ≠ 0 → above < k → k < l.length → nth false U k = false → Tr l x many above (some [k]) (setI U k true) new → Tr l x many above none U new
  | close {many above : Int} {d : List Int} {U : List Bool} {new : List (List Int)} : Jd l x d → Tr l x (many - 1) (nth 0 d 0) none U new → Tr l x many above (some d) U (d :: new)
  | ext {many above k : Int} {d : List Int} {U : List Bool} {new : List (List Int)} : 0 ≤ k → k < l.length → nth false U k = false → Lk l x (last d) k → Tr l x many above (some (d ++ [k])) (setI U k true) new → Tr l x many above (some d) U new
theorem Tr.lax {l : List S_fleet_Task} {x y : S_fleet_Limits} (hx : Lax x y) {many above : Int} {o : Option (List Int)} {U : List Bool} {new : List (List Int)} (h : Tr l x many above o U new) : Tr l y many above o U new := by
  induction h with
  | done h => exact .done h
  | start h1 h2 h3 h4 h5 _ ih => exact .start h1 h2 h3 h4 h5 ih
  | close h1 _ ih => exact .close (h1.lax hx) ih
  | ext h1 h2 h3 h4 _ ih => exact .ext h1 h2 h3 (h4.lax hx) ih
theorem Tr.len {l : List S_fleet_Task} {x : S_fleet_Limits} {many above : Int} {o : Option (List Int)} {U : List Bool} {new : List (List Int)} (h : Tr l x many above o U new) : (new.length : Int) = many := by
  induction h with
  | done h => rfl
  | start h1 h2 h3 h4 h5 _ ih => exact ih
  | close h1 _ ih => rw [List.length_cons]; omega
  | ext h1 h2 h3 h4 _ ih => exact ih
theorem Tr.jd {l : List S_fleet_Task} {x : S_fleet_Limits} {many above : Int} {o : Option (List Int)} {U : List Bool} {new : List (List Int)} (h : Tr l x many above o U new) : ∀ d ∈ new, Jd l x d := by
  induction h with
  | done h => intro d hd; cases hd
  | start h1 h2 h3 h4 h5 _ ih => exact ih
  | close h1 _ ih =>
    intro d hd
    rcases List.mem_cons.1 hd with rfl | hd
    · exact h1
    · exact ih d hd
  | ext h1 h2 h3 h4 _ ih => exact ih
/-- a task that is not used yet -/
def fr (U : List Bool) (j : Int) : Nat := if 0 ≤ j ∧ j < U.length ∧ nth false U j = false then 1 else 0
theorem fr_set {U : List Bool} {k j : Int} (h0 : 0 ≤ k) (h1 : k < U.length) (h : nth false U k = false) : fr U j = fr (setI U k true) j + if j = k then 1 else 0 := by
  unfold fr
  rw [setI_length]
  by_cases hj : 0 ≤ j ∧ j < U.length
  · by_cases e : j = k
    · subst e
      rw [nth_setI_self false h0 h1, if_pos ⟨h0, h1, h⟩]; simp
    · rw [nth_setI_ne false h0 hj.1 e]; simp [e]
  · have : ¬ j = k := fun e => hj (e ▸ ⟨h0, h1⟩)
    rw [if_neg fun h => hj ⟨h.1, h.2.1⟩, if_neg fun h => hj ⟨h.1, h.2.1⟩, if_neg this]
theorem fr_none {U : List Bool} (h : false ∉ U) (j : Int) : fr U j = 0 := by
  unfold fr
  rw [if_neg]
  rintro ⟨h0, h1, h2⟩
  exact h (h2 ▸ nth_mem false h0 h1)
def TrC (U : List Bool) (new : List (List Int)) : Option (List Int) → Prop
  | none => ∀ j, new.flatten.count j = fr U j
  | some d => ∃ e r, new = (d ++ e) :: r ∧ ∀ j, (e ++ r.flatten).count j = fr U j
theorem Tr.count {l : List S_fleet_Task} {x : S_fleet_Limits} {many above : Int} {o : Option (List Int)} {U : List Bool} {new : List (List Int)} (h : Tr l x many above o U new) : U.length = l.length → -1 ≤ above → (∀ d, o = some d → d ≠ [] ∧ ∀ k ∈ d, 0 ≤ k) → TrC U new o := by
  induction h with
  | done h => intro _ _ _ j; rw [fr_none h]; rfl
  | @start many above k U new h1 h2 h3 h4 h5 _ ih =>
    intro hU ha _
    obtain ⟨e, r, rfl, h⟩ := ih (by rw [setI_length]; exact hU) ha fun d hd => by injection hd with hd; subst hd; exact ⟨by simp, fun k hk => by simp at hk; omega⟩
    intro j
    rw [fr_set (k := k) (by omega) (by omega) h5, ← h j]
    simp only [List.flatten_cons, List.cons_append, List.nil_append, List.count_cons, List.count_append, beq_iff_eq]
    simp only [eq_comm (a := k)]
  | @close many above d U new h1 _ ih =>
    intro hU ha hd
    have hd := hd d rfl
    have h0 := hd.2 _ (nth_mem 0 (xs := d) (i := 0) (by omega) (by have := List.length_pos_iff.2 hd.1; omega))
    exact ⟨[], new, by simp, ih hU (by omega) fun d hd => (by cases hd)⟩
  | @ext many above k d U new h1 h2 h3 h4 _ ih =>
    intro hU ha hd
    have hd := hd d rfl
    obtain ⟨e, r, rfl, h⟩ := ih (by rw [setI_length]; exact hU) ha fun d' hd' => by
      injection hd' with hd'; subst hd'
      exact ⟨by simp, fun j hj => by
        rcases List.mem_append.1 hj with hj | hj
        · exact hd.2 j hj
        · simp at hj; omega⟩
    refine ⟨k :: e, r, by simp, fun j => ?_⟩
    rw [fr_set (k := k) (by omega) (by omega) h3, ← h j]
    simp only [List.cons_append, List.count_cons, List.count_append, beq_iff_eq]
    simp only [eq_comm (a := k)]

section
variable {l : List S_fleet_Task} {x : S_fleet_Limits}
abbrev St := List Bool × List S_fleet_Task × Int × Int × Int × Int × Int × Int × Int × List (List Int)
def st (l : List S_fleet_Task) (x : S_fleet_Limits) (U : List Bool) (D : List (List Int)) : St := (U, l, x.Change, x.Long, x.Work, x.After, x.Break, x.Rest, x.Row, D)
/-- what a search answers; P: what would be a success -/
def Ans (l : List S_fleet_Task) (x : S_fleet_Limits) (U : List Bool) (D : List (List Int)) (P : List (List Int) → Prop) (r : Bool × St) : Prop :=
  (∃ U' new, r = (true, st l x U' (D ++ new)) ∧ P new) ∨ (r = (false, st l x U D) ∧ ∀ new, ¬ P new)
abbrev Rec := Int → Int → Option (List Int) → List S_fleet_Task → Int → Int → Int → Int → Int → Int → Int → List Bool → List (List Int) → Option (Bool × St)
def call (R : Rec) (l : List S_fleet_Task) (x : S_fleet_Limits) (many above : Int) (o : Option (List Int)) (U : List Bool) (D : List (List Int)) : Option (Bool × St) := R many above o l x.Change x.Long x.Work x.After x.Break x.Rest x.Row U D
/-- where a search may stand -/
structure At (l : List S_fleet_Task) (many above : Int) (o : Option (List Int)) (U : List Bool) (D : List (List Int)) : Prop where
  u : U.length = l.length
  m0 : 0 ≤ many
  a0 : -1 ≤ above
  a1 : above < l.length
  d : (D.length : Int) + many ≤ 100
  o1 : ∀ d, o = some d → d ≠ [] ∧ 1 ≤ many ∧ (∀ k ∈ d, 0 ≤ k ∧ k < l.length) ∧ d.length + U.count false ≤ 40
theorem count_setI {U : List Bool} {k : Int} (h0 : 0 ≤ k) (h1 : k < U.length) (h : nth false U k = false) : (setI U k true).count false + 1 = U.count false := by
  have e : U[k.toNat]'(by omega) = false := by
    unfold nth at h; rw [List.getElem?_eq_getElem (by omega)] at h; exact h
  unfold setI
  rw [List.count_set (by omega), e]
  have : 0 < U.count false := List.count_pos_iff.2 (e ▸ List.getElem_mem _)
  simp; omega
theorem setI_back {U : List Bool} {k : Int} (h0 : 0 ≤ k) (h1 : k < U.length) (h : nth false U k = false) : setI (setI U k true) k false = U := by
  have e : U[k.toNat]'(by omega) = false := by
    unfold nth at h; rw [List.getElem?_eq_getElem (by omega)] at h; exact h
  unfold setI
  rw [List.set_set]
  conv => lhs; rw [← e]
  exact List.set_getElem_self _
/-- what taking a task would have to be -/
def TP (l : List S_fleet_Task) (x : S_fleet_Limits) (many above : Int) (d : List Int) (k : Int) (U : List Bool) (new : List (List Int)) : Prop :=
  nth false U k = false ∧ (d ≠ [] → Lk l x (last d) k) ∧ Tr l x many above (some (d ++ [k])) (setI U k true) new
theorem take_ok {R : Rec} {many above k : Int} {d : List Int} {U : List Bool} {D : List (List Int)} (hl : TasksOk l) (hx : LimOk x) (hk0 : 0 ≤ k) (hk1 : k < l.length) (hd : ∀ k ∈ d, 0 ≤ k ∧ k < l.length) (hdn : d.length + U.count false ≤ 40)
    (h : At l many above none U D) (hm : 1 ≤ many)
    (hR : nth false U k = false → At l many above (some (d ++ [k])) (setI U k true) D → Tot (call R l x many above (some (d ++ [k])) (setI U k true) D) (Ans l x (setI U k true) D (Tr l x many above (some (d ++ [k])) (setI U k true)))) :
    Tot (fleet_divider_take R many above d k l x.Change x.Long x.Work x.After x.Break x.Rest x.Row U D) (Ans l x U D (TP l x many above d k U)) := by
  have hu := h.u
  have hti := hl.at hk0 hk1
  have t1 := hti.d0; have t2 := hti.da; have t3 := hti.a1
  have c0 := hx.c0; have c1 := hx.c1
  unfold fleet_divider_take
  refine tot_bind' (idx_nth false hk0 (by omega)) ?_
  refine tot_ifb (fun q => ?_) fun q => ?_
  · exact tot_some (.inr ⟨rfl, fun new hn => by have := hn.1; rw [q] at this; cases this⟩)
  refine tot_bind (P := fun c => match c with | .go _ => (d ≠ [] → Lk l x (last d) k) | .out r => r = (false, st l x U D) ∧ d ≠ [] ∧ ¬ Lk l x (last d) k) ?_ fun c _ hc => ?_
  · refine tot_ifb (fun q1 => ?_) fun q1 => ?_
    · have q1 := of_decide_eq_true q1
      have hb := hd _ (nth_mem 0 (xs := d) (i := (d.length : Int) - 1) (by omega) (by omega))
      have hbt := hl.at hb.1 hb.2
      have b1 := hbt.d0; have b2 := hbt.da; have b3 := hbt.a1
      rw [w64_id (x := (d.length : Int) - 1) (by omega) (by omega)]
      refine tot_bind' (idx_nth 0 (by omega) (by omega)) ?_
      refine tot_bind' (tk_idx hb.1 hb.2) ?_
      refine tot_bind (P := fun b : Bool => b = true ↔ ¬ Lk l x (last d) k) ?_ fun b _ hbk => ?_
      · refine tot_bind' (tk_idx hk0 hk1) ?_
        refine tot_ifb (fun q => ?_) fun q => ?_
        · have q : (tk l k).From ≠ (tk l (nth 0 d ((d.length : Int) - 1))).To := by simpa using q
          exact tot_some ⟨fun _ k => q k.1, fun _ => rfl⟩
        · have q : (tk l k).From = (tk l (nth 0 d ((d.length : Int) - 1))).To := by simpa using q
          refine tot_bind' (tk_idx hk0 hk1) ?_
          rw [w64_id (by omega) (by omega)]
          refine tot_some ?_
          rw [decide_eq_true_iff]
          refine ⟨fun h k => by have : (tk l (nth 0 d ((d.length : Int) - 1))).Arr + x.Change ≤ _ := k.2; omega, fun h => ?_⟩
          by_cases hh : (tk l (nth 0 d ((d.length : Int) - 1))).Arr + x.Change ≤ (tk l k).Dep
          · exact absurd ⟨q, hh⟩ h
          · omega
      · refine tot_ifb (fun q2 => ?_) fun q2 => ?_
        · exact tot_some ⟨rfl, List.length_pos_iff.1 (by omega), hbk.1 q2⟩
        · refine tot_some fun _ => ?_
          by_cases hh : Lk l x (last d) k
          · exact hh
          · rw [hbk.2 hh] at q2; cases q2
    · have q1 := of_decide_eq_false q1
      exact tot_some fun hne => absurd (List.length_pos_iff.2 hne) (by omega)
  · cases c with
    | out r =>
      obtain ⟨rfl, h1, h2⟩ := hc
      exact tot_some (.inr ⟨rfl, fun new hn => h2 (hn.2.1 h1)⟩)
    | go u =>
      simp only [Ctl.on]
      have hcnt := count_setI hk0 (by omega) q
      refine tot_bind' (idx_nth false hk0 (by omega)) ?_
      have hcl : slices_Clone_int_int d = some d := by
        unfold slices_Clone_int_int slices_Clone_int_int_v2
        simp only [Option.isNone_some, ifb_false, Option.getD_some]
        rw [gapp_eq (by simp; show d.length * 8 ≤ apRoom; have : (1000 : Nat) ≤ apRoom := (by decide); omega) (by simp; have : (1000 : Nat) ≤ maxLen := (by decide); omega)]
        rfl
      refine tot_bind' hcl ?_
      refine tot_bind' (gapp_eq (by simp; have : (1000 : Nat) ≤ apRoom := (by decide); omega) (by simp; have : (1000 : Nat) ≤ maxLen := (by decide); omega)) ?_
      have hAt : At l many above (some (d ++ [k])) (setI U k true) D := ⟨by rw [setI_length]; exact hu, h.m0, h.a0, h.a1, h.d, fun d' hd' => by
        injection hd' with hd'; subst hd'
        exact ⟨by simp, hm, fun j hj => by
          rcases List.mem_append.1 hj with hj | hj
          · exact hd j hj
          · simp at hj; omega, by simp; omega⟩⟩
      refine tot_bind (hR q hAt) fun r _ hr => ?_
      rcases hr with ⟨U', new, rfl, hP⟩ | ⟨rfl, hP⟩
      · exact tot_some (.inl ⟨U', new, rfl, q, hc, hP⟩)
      · refine tot_bind' (idx_nth false hk0 (by show k < ((setI U k true).length : Int); rw [setI_length]; omega)) ?_
        refine tot_some (.inr ⟨?_, fun new hn => hP new hn.2.2⟩)
        show (false, setI (setI U k true) k false, _) = _
        rw [setI_back hk0 (by omega) q]
        rfl
/-- how deep a search may go -/
def dep (o : Option (List Int)) (U : List Bool) : Nat := 2 * U.count false + (if o.isSome then 1 else 0)
theorem step_ok {R : Rec} {many above : Int} {o : Option (List Int)} {U : List Bool} {D : List (List Int)} (hl : TasksOk l) (hx : LimOk x) (h : At l many above o U D)
    (hR : ∀ many above o' U' D', At l many above o' U' D' → dep o' U' < dep o U → Tot (call R l x many above o' U' D') (Ans l x U' D' (Tr l x many above o' U'))) :
    Tot (call (fleet_divider_divide_step R) l x many above o U D) (Ans l x U D (Tr l x many above o U)) := by
  have hu := h.u
  have hl40 := hl.len
  have hm0 := h.m0; have ha0 := h.a0; have ha1 := h.a1; have hdm := h.d
  unfold call fleet_divider_divide_step
  cases o with
  | none =>
    simp only [Option.isNone_none, ifb_true]
    rw [containsB_ok _ _ (by omega)]
    simp only [Option.bind_some]
    refine tot_ifb (fun q => ?_) fun q => ?_
    · have q : false ∉ U := by simpa using q
      by_cases hm : many = 0
      · subst hm
        exact tot_some (.inl ⟨U, [], by simp [st], .done q⟩)
      · refine tot_some (.inr ⟨by simp [hm, st], fun new hn => ?_⟩)
        cases hn with
        | done _ => exact hm rfl
        | start h1 => exact q h1
    have q : false ∈ U := by simpa using q
    refine tot_ifb (fun q1 => ?_) fun q1 => ?_
    · have q1 : many = 0 := by simpa using q1
      subst q1
      refine tot_some (.inr ⟨rfl, fun new hn => ?_⟩)
      cases hn with
      | done h1 => exact h1 q
      | start h1 h2 => exact h2 rfl
    have q1 : many ≠ 0 := by simpa using q1
    rw [w64_id (x := above + 1) (by omega) (by omega)]
    have hcU : U.count false ≤ 40 := by have := List.count_le_length (a := false) (l := U); omega
    refine tot_bind (P := fun c => match c with | .go s => s = st l x U D ∧ ∀ k : Int, above < k → k < l.length → ∀ new, ¬ TP l x many above [] k U new | .out r => ∃ U' new, r = (true, st l x U' (D ++ new)) ∧ Tr l x many above none U new) ?_ fun c _ hc => ?_
    · refine tot_iter (I := fun s => s.2 = st l x U D ∧ above + 1 ≤ s.1 ∧ s.1 ≤ l.length ∧ ∀ k : Int, above < k → k < s.1 → ∀ new, ¬ TP l x many above [] k U new) (μ := fun s => (l.length - s.1).toNat) ⟨rfl, by simp, by simp; omega, fun k h0 h1 => by simp at h1; omega⟩ (by have : 1000 < bigN := (by decide); simp; omega) ?_
      rintro ⟨k, s⟩ ⟨rfl, h1, h2, h3⟩
      simp only at h1 h2 h3
      unfold fleet_divider_divide_b1 st
      refine tot_ifb (fun q2 => ?_) fun q2 => ?_
      · have q2 : k < l.length := of_decide_eq_true q2
        refine tot_bind (take_ok (l := l) (x := x) (R := R) (many := many) (above := above) (k := k) (d := []) (U := U) (D := D) hl hx (by omega) q2 (fun k hk => (by cases hk)) (by simpa using hcU) ⟨h.u, h.m0, h.a0, h.a1, h.d, fun d hd => (by cases hd)⟩ (by omega) fun hn hAt => hR _ _ _ _ _ hAt ?_) fun r _ hr => ?_
        · have := count_setI (k := k) (by omega) (by omega) hn
          unfold dep; simp; omega
        rcases hr with ⟨U', new, rfl, hP⟩ | ⟨rfl, hP⟩
        · exact tot_some ⟨U', new, rfl, .start q q1 (by omega) q2 hP.1 hP.2.2⟩
        · have e : w64 (k + 1) = k + 1 := w64_id (by omega) (by omega)
          refine tot_some ⟨⟨rfl, ?_, ?_, ?_⟩, ?_⟩
          · show above + 1 ≤ w64 (k + 1); omega
          · show w64 (k + 1) ≤ _; omega
          · intro j h4 h5 new
            have h5 : j < w64 (k + 1) := h5
            by_cases hh : j = k
            · subst hh; exact hP new
            · exact h3 j h4 (by omega) new
          · show ((l.length : Int) - w64 (k + 1)).toNat < (l.length - k).toNat
            omega
      · have q2 : ¬ k < l.length := of_decide_eq_false q2
        exact tot_some ⟨rfl, fun j h4 h5 => h3 j h4 (by omega)⟩
    · cases c with
      | out r =>
        obtain ⟨U', new, rfl, hP⟩ := hc
        exact tot_some (.inl ⟨U', new, rfl, hP⟩)
      | go s =>
        obtain ⟨rfl, hP⟩ := hc
        refine tot_some (.inr ⟨rfl, fun new hn => ?_⟩)
        cases hn with
        | done h1 => exact h1 q
        | start h1 h2 h3 h4 h5 h6 => exact hP _ h3 h4 new ⟨h5, fun e => absurd rfl e, h6⟩
  | some d =>
    obtain ⟨hne, hm1, hdr, hdl⟩ := h.o1 d rfl
    have hlen := List.length_pos_iff.2 hne
    simp only [Option.isNone_some, ifb_false, Option.getD_some]
    refine tot_bind (P := fun c => match c with | .go s => s = st l x U D ∧ (∀ new, Jd l x d → ¬ Tr l x (many - 1) (nth 0 d 0) none U new) | .out r => ∃ U' new, r = (true, st l x U' (D ++ new)) ∧ Tr l x many above (some d) U new) ?_ fun c _ hc => ?_
    · refine tot_bind (judge_ok (x := x) hl hx hne hdr (by omega)) fun v _ hv => ?_
      refine tot_ifb (fun q => ?_) fun q => ?_
      · have q : v = 0 := by simpa using q
        have hj := hv.1 q
        refine tot_bind' (gapp_eq (by simp; have : (5000 : Nat) ≤ apRoom := (by decide); omega) (by simp; have : (1000 : Nat) ≤ maxLen := (by decide); omega)) ?_
        refine tot_bind' (idx_nth 0 (by omega) (by omega)) ?_
        have h0 := hdr _ (nth_mem 0 (xs := d) (i := 0) (by omega) (by omega))
        rw [w64_id (x := many - 1) (by omega) (by omega)]
        refine tot_bind (hR (many - 1) (nth 0 d 0) none U (D ++ [d]) ⟨h.u, by omega, by omega, h0.2, by simp; omega, fun d hd => (by cases hd)⟩ (by unfold dep; simp)) fun r _ hr => ?_
        rcases hr with ⟨U', new, rfl, hP⟩ | ⟨rfl, hP⟩
        · exact tot_some ⟨U', d :: new, by simp [st], .close hj hP⟩
        · refine tot_bind (P := fun y => y = D) ?_ fun y _ hy => ?_
          · show Tot (gcut (D ++ [d]) 0 (w64 (((D ++ [d]).length : Int) - 1))) _
            have e : w64 (((D ++ [d]).length : Int) - 1) = (D.length : Int) := by simp; exact w64_id (by omega) (by omega)
            rw [e, gcut_eq (by omega) (by omega) (by simp; omega)]
            exact tot_some (by simp)
          · subst hy
            exact tot_some ⟨rfl, fun new _ => hP new⟩
      · have q : v ≠ 0 := by simpa using q
        exact tot_some ⟨rfl, fun new hj => absurd (hv.2 hj) q⟩
    · cases c with
      | out r =>
        obtain ⟨U', new, rfl, hP⟩ := hc
        exact tot_some (.inl ⟨U', new, rfl, hP⟩)
      | go s =>
        obtain ⟨rfl, hJ⟩ := hc
        simp only [Ctl.on]
        refine tot_loopN (I := fun i s => s = st l x U D ∧ ∀ k : Int, 0 ≤ k → k < i → ∀ new, ¬ TP l x many above d k U new) (J := fun s => s = st l x U D ∧ ∀ k : Int, 0 ≤ k → k < l.length → ∀ new, ¬ TP l x many above d k U new) (E := fun r => ∃ U' new, r = (true, st l x U' (D ++ new)) ∧ Tr l x many above (some d) U new) ⟨rfl, fun k h0 h1 => by have h1 : k < ((0 : Nat) : Int) := h1; omega⟩ ?_ (fun s hs => hs) ?_ (fun r hr => ?_)
        · rintro i s hi ⟨rfl, h3⟩
          have hi : i < l.length := hi
          unfold fleet_divider_divide_b2 st
          refine tot_bind (take_ok (l := l) (x := x) (R := R) (many := many) (above := above) (k := (i : Int)) (d := d) (U := U) (D := D) hl hx (by omega) (by omega) hdr hdl ⟨h.u, h.m0, h.a0, h.a1, h.d, fun d hd => (by cases hd)⟩ (by omega) fun hn hAt => hR _ _ _ _ _ hAt ?_) fun r _ hr => ?_
          · have := count_setI (k := (i : Int)) (by omega) (by omega) hn
            unfold dep; simp; omega
          rcases hr with ⟨U', new, rfl, hP⟩ | ⟨rfl, hP⟩
          · exact tot_some ⟨U', new, rfl, .ext (k := (i : Int)) (by omega) (by omega) hP.1 (hP.2.1 hne) hP.2.2⟩
          · refine tot_some ⟨rfl, fun j h4 h5 new => ?_⟩
            by_cases hh : j = i
            · subst hh; exact hP new
            · exact h3 j h4 (by omega) new
        · rintro s ⟨rfl, hP⟩
          refine tot_some (.inr ⟨rfl, fun new hn => ?_⟩)
          cases hn with
          | close h1 h2 => exact hJ _ h1 h2
          | ext h1 h2 h3 h4 h5 => exact hP _ h1 h2 new ⟨h3, fun _ => h4, h5⟩
        · obtain ⟨U', new, rfl, hP⟩ := hr
          exact tot_some (.inl ⟨U', new, rfl, hP⟩)
theorem divide_ok (hl : TasksOk l) (hx : LimOk x) : ∀ (n : Nat) (many above : Int) (o : Option (List Int)) (U : List Bool) (D : List (List Int)), At l many above o U D → dep o U < n → Tot (call (fleet_divider_divide_n n) l x many above o U D) (Ans l x U D (Tr l x many above o U))
  | 0, _, _, _, _, _, _, h => by omega
  | n + 1, many, above, o, U, D, h, hn => step_ok hl hx h fun many above o' U' D' h' hd => divide_ok hl hx n many above o' U' D' h' (by omega)
end
end Fp

/- FleetKept: the law. -/
set_option linter.unusedVariables false
set_option linter.unusedSimpArgs false
set_option maxRecDepth 100000
namespace Fp
open Go Hk Hd Pl

section
variable {l : List S_fleet_Task} {x : S_fleet_Limits}
def none_ (l : List S_fleet_Task) : List Bool := List.replicate l.length false
theorem duties_ok (l : List S_fleet_Task) (x : S_fleet_Limits) : Tot (fleet_Duties l x) fun r => (r.1 ≠ 0 → r.2 = []) ∧
    (r.1 = 0 → TasksOk l ∧ LimOk x ∧ l.length ≤ 8 ∧ ∃ k : Nat, k ≤ l.length ∧ Tr l x k (-1) none (none_ l) r.2 ∧ ∀ j : Nat, j < k → ∀ new, ¬ Tr l x j (-1) none (none_ l) new) ∧
    (r.1 ≠ 0 → TasksOk l → LimOk x → l.length ≤ 8 → ∀ j : Nat, j ≤ l.length → ∀ new, ¬ Tr l x j (-1) none (none_ l) new) := by
  unfold fleet_Duties
  refine tot_bind (checks_tot l x) fun e _ he => ?_
  refine tot_ifb (fun q => ?_) fun q => ?_
  · have q : e ≠ 0 := by simpa using q
    exact tot_some ⟨fun _ => rfl, fun h => absurd h q, fun _ h1 h2 => absurd (he.2 ⟨h1, h2⟩) q⟩
  have q : e = 0 := by simpa using q
  obtain ⟨hl, hx⟩ := he.1 q
  refine tot_ifb (fun q1 => ?_) fun q1 => ?_
  · have q1 := of_decide_eq_true q1
    exact tot_some ⟨fun _ => rfl, fun h => (by cases h), fun _ _ _ h => (by omega)⟩
  have q1 := of_decide_eq_false q1
  have en : w64 ((l.length : Int) + 1) = (l.length : Int) + 1 := w64_id (by omega) (by omega)
  rw [en]
  refine tot_bind' (glim_eq (by omega)) ?_
  have et : ((l.length : Int) + 1).toNat = l.length + 1 := by omega
  rw [et]
  refine tot_loopN (I := fun i _ => ∀ j : Nat, j < i → ∀ new, ¬ Tr l x j (-1) none (none_ l) new) (J := fun _ => ∀ j : Nat, j ≤ l.length → ∀ new, ¬ Tr l x j (-1) none (none_ l) new)
    (E := fun r => r.1 = 0 ∧ ∃ k : Nat, k ≤ l.length ∧ Tr l x k (-1) none (none_ l) r.2 ∧ ∀ j : Nat, j < k → ∀ new, ¬ Tr l x j (-1) none (none_ l) new) (fun j h => by omega) (fun i s hi hI => ?_) (fun s hI j hj => hI j (by omega))
    (fun s hJ => tot_some ⟨fun _ => rfl, fun h => (by cases h), fun _ _ _ _ => hJ⟩) (fun r hr => tot_some ⟨fun h => absurd hr.1 h, fun _ => ⟨hl, hx, by omega, hr.2⟩, fun h => absurd hr.1 h⟩)
  unfold fleet_Duties_b1
  refine tot_bind' (gmake_eq (by omega) (by have : (1000 : Nat) ≤ mkRoom := (by decide); omega) (by have : (1000 : Nat) ≤ maxLen := (by decide); omega)) ?_
  have eu : List.replicate ((l.length : Int)).toNat false = none_ l := by unfold none_; rw [show ((l.length : Int)).toNat = l.length by omega]
  rw [eu]
  have hcn : (none_ l).count false ≤ 8 := by have := List.count_le_length (a := false) (l := none_ l); unfold none_ at this ⊢; rw [List.length_replicate] at this; omega
  refine tot_bind (divide_ok hl hx bigN (i : Int) (-1) none (none_ l) [] ⟨by simp [none_], by omega, by omega, by omega, by simp; omega, fun d hd => (by cases hd)⟩ (by have : 1000 < bigN := (by decide); unfold dep; simp; omega)) fun r _ hr => ?_
  rcases hr with ⟨U', new, rfl, hP⟩ | ⟨rfl, hP⟩
  · exact tot_some ⟨rfl, i, by omega, hP, hI⟩
  · refine tot_some fun j hj new => ?_
    by_cases h : j = i
    · subst h; exact hP new
    · exact hI j (by omega) new
theorem nodup_at {d : List Int} (h : d.Nodup) {i j : Nat} {x : Int} (hi : d[i]? = some x) (hj : d[j]? = some x) : i = j := by
  obtain ⟨h1, e1⟩ := List.getElem?_eq_some_iff.1 hi
  obtain ⟨h2, e2⟩ := List.getElem?_eq_some_iff.1 hj
  rcases Nat.lt_trichotomy i j with q | q | q
  · exact absurd (e1.trans e2.symm) (List.pairwise_iff_getElem.1 h i j h1 h2 q)
  · exact q
  · exact absurd (e2.trans e1.symm) (List.pairwise_iff_getElem.1 h j i h2 h1 q)
theorem Judge_ok {d : List Int} (hl : TasksOk l) (hx : LimOk x) (hd : ∀ k ∈ d, 0 ≤ k ∧ k < l.length) (hn : d.length ≤ 1000) (hnd : d.Nodup) (hj : Jd l x d) : fleet_Judge l d x = some (0, 0) := by
  refine tot_eq (?_ : Tot _ (· = ((0 : Int), (0 : Int))))
  have hll := hl.len
  unfold fleet_Judge
  refine tot_bind (checks_tot l x) fun e _ he => ?_
  have he := he.2 ⟨hl, hx⟩
  subst he
  refine tot_ifb (fun q => absurd q (by decide)) fun _ => ?_
  have hlen := List.length_pos_iff.2 hj.ne
  refine tot_ifb (fun q => ?_) fun _ => ?_
  · have q : (d.length : Int) = 0 := by simpa using q
    omega
  refine tot_allX (P := fun _ _ => True) (E := fun _ => False) (fun i k hk => ?_) (fun _ => ?_) (fun y hy => hy.elim)
  · have hkr := hd k (List.mem_of_getElem? hk)
    have hi : i < d.length := (List.getElem?_eq_some_iff.1 hk).1
    unfold fleet_Judge_b1
    rw [w64_id (x := (l.length : Int) - 1) (by omega) (by omega), within_eq]
    simp only [Option.bind_some]
    refine tot_ifb (fun q => ?_) fun _ => ?_
    · simp only [Bool.not_eq_true', decide_eq_false_iff_not] at q
      omega
    refine tot_bind' (gcut_eq (by omega) (by omega) (by omega)) ?_
    rw [contains_ok _ _ (by simp; omega)]
    simp only [Option.bind_some]
    refine tot_ifb (fun q => ?_) fun _ => tot_some trivial
    have q := of_decide_eq_true q
    have q : k ∈ d.take i := by simpa using q
    obtain ⟨j, hj2⟩ := List.getElem?_of_mem q
    obtain ⟨hj3, hj4⟩ := List.getElem?_eq_some_iff.1 hj2
    rw [List.length_take] at hj3
    rw [List.getElem_take] at hj4
    obtain ⟨_, hk4⟩ := List.getElem?_eq_some_iff.1 hk
    have hj5 : d[j]? = some k := by rw [List.getElem?_eq_getElem (by omega), hj4]
    have := nodup_at hnd hj5 hk
    omega
  · refine tot_bind (judge_ok hl hx hj.ne hd hn) fun v _ hv => ?_
    have := hv.2 hj
    subst this
    exact tot_some rfl
theorem awake : fishkeep2_awakeFleet = some true := by kernel_rfl
theorem sets_ : fishkeep2_sets = some true := by kernel_rfl
theorem cnt_le {xs : List (List Int)} {d : List Int} (h : d ∈ xs) (j : Int) : d.count j ≤ xs.flatten.count j := (List.sublist_flatten_of_mem h).count_le j
theorem law : Go.Proofs.Ytmhpeefjjclpfaa.FleetKept.FleetKeptLaw := by
  intro l x ease _ _ he
  refine tot_eq (?_ : Tot _ (· = true))
  unfold fishkeep2_FleetKept
  rw [awake, sets_]
  simp only [Option.bind_some, Bool.not_true, ifb_false]
  refine tot_bind (duties_ok l x) fun r _ hr => ?_
  obtain ⟨r1, r2⟩ := r
  simp only at hr
  refine tot_ifb (fun q => ?_) fun q => ?_
  · have q : r1 ≠ 0 := by simpa using q
    have := hr.1 q
    subst this
    exact tot_some rfl
  have q : r1 = 0 := by simpa using q
  obtain ⟨hl, hx, hl8, k, hk, hT, hmin⟩ := hr.2.1 q
  have hcnt : ∀ j : Int, r2.flatten.count j = if 0 ≤ j ∧ j < l.length then 1 else 0 := fun j => by
    have := hT.count (by simp [none_]) (by omega) (fun d hd => (by cases hd)) j
    rw [this]
    unfold fr none_
    rw [List.length_replicate]
    by_cases h : 0 ≤ j ∧ j < l.length
    · rw [if_pos ⟨h.1, h.2, nth_replicate h.1 h.2⟩, if_pos h]
    · rw [if_neg fun k => h ⟨k.1, k.2.1⟩, if_neg h]
  have hlen : (r2.length : Int) = k := hT.len
  have hdr : ∀ d ∈ r2, ∀ j ∈ d, 0 ≤ j ∧ j < l.length := fun d hd j hj => by
    have h1 := cnt_le hd j
    have h2 := List.count_pos_iff.2 hj
    rw [hcnt] at h1
    by_cases h : 0 ≤ j ∧ j < l.length
    · exact h
    · rw [if_neg h] at h1; omega
  have hdn : ∀ d ∈ r2, d.Nodup := fun d hd => List.nodup_iff_count.2 fun j => by
    have h1 := cnt_le hd j
    rw [hcnt] at h1
    have : (if 0 ≤ j ∧ j < (l.length : Int) then 1 else 0) ≤ 1 := by split <;> omega
    omega
  have hdl : ∀ d ∈ r2, d.length ≤ 1000 := fun d hd => by
    have hmap : (d.map Int.toNat).Nodup := List.pairwise_map.2 ((hdn d hd).imp_of_mem fun ha hb h e => h (by have := (hdr d hd _ ha).1; have := (hdr d hd _ hb).1; omega))
    have := nodup_len (n := l.length) hmap fun i hi => by
      obtain ⟨j, hj, rfl⟩ := List.mem_map.1 hi
      have := hdr d hd j hj; omega
    rw [List.length_map] at this
    omega
  refine tot_bind' (gmake_eq (by omega) (by have : (1000 : Nat) ≤ mkRoom := (by decide); omega) (by have : (1000 : Nat) ≤ maxLen := (by decide); omega)) ?_
  rw [show ((l.length : Int)).toNat = l.length by omega]
  refine tot_loopX (I := fun i s => s.length = l.length ∧ ∀ j : Int, 0 ≤ j → j < l.length → nth 0 s j = ((r2.take i).flatten.count j : Int)) (J := fun s => s.length = l.length ∧ ∀ j : Int, 0 ≤ j → j < l.length → nth 0 s j = 1) (E := fun y => False) ⟨by simp, fun j h0 h1 => by rw [nth_replicate h0 h1]; simp⟩ ?_ ?_ ?_ (fun y hy => hy.elim)
  · rintro i d s hd ⟨hs, hc⟩
    have hdm := List.mem_of_getElem? hd
    obtain ⟨hi, hdi⟩ := List.getElem?_eq_some_iff.1 hd
    unfold fishkeep2_FleetKept_b1
    rw [Judge_ok hl hx (hdr d hdm) (hdl d hdm) (hdn d hdm) (hT.jd d hdm)]
    simp only [Option.bind_some]
    refine tot_bind (P := fun b => b = false) ?_ fun b _ hb => ?_
    · exact tot_some rfl
    subst hb
    simp only [ifb_false]
    refine tot_loopX (I := fun i' s => s.length = l.length ∧ ∀ j : Int, 0 ≤ j → j < l.length → nth 0 s j = ((r2.take i).flatten.count j : Int) + ((d.take i').count j : Int)) (J := fun s => s.length = l.length ∧ ∀ j : Int, 0 ≤ j → j < l.length → nth 0 s j = ((r2.take (i + 1)).flatten.count j : Int)) (E := fun y => False) ⟨hs, fun j h0 h1 => by rw [hc j h0 h1]; simp⟩ ?_ ?_ (fun s hs => tot_some hs) (fun y hy => hy.elim)
    · rintro i' k' s hk' ⟨hs, hc⟩
      have hkr := hdr d hdm k' (List.mem_of_getElem? hk')
      obtain ⟨hi', hki'⟩ := List.getElem?_eq_some_iff.1 hk'
      have hdl := hdl d hdm
      unfold fishkeep2_FleetKept_b2
      refine tot_bind (P := fun b => b = false) ?_ fun b _ hb => ?_
      · refine tot_ifb (fun q => ?_) fun _ => tot_some (decide_eq_false (by omega))
        have := of_decide_eq_true q
        omega
      subst hb
      simp only [ifb_false]
      have h1 := hc k' hkr.1 hkr.2
      have h2 : (r2.take i).flatten.count k' ≤ 1 := by
        have : (r2.take i).flatten.count k' ≤ r2.flatten.count k' := by
          have e : r2.flatten = (r2.take i).flatten ++ (r2.drop i).flatten := by rw [← List.flatten_append, List.take_append_drop]
          rw [e, List.count_append]; omega
        rw [hcnt] at this; split at this <;> omega
      have h3 : (d.take i').count k' ≤ 1000 := by have := List.count_le_length (a := k') (l := d.take i'); rw [List.length_take] at this; omega
      refine tot_bind' (idx_nth 0 hkr.1 (by omega)) ?_
      refine tot_bind' (idx_nth 0 hkr.1 (by omega)) ?_
      rw [w64_id (by omega) (by omega)]
      refine tot_some ⟨by rw [setI_length]; exact hs, fun j h0 h4 => ?_⟩
      rw [nth_setI 0 hkr.1 h0 (by omega), List.take_add_one, hk']
      simp only [Option.toList_some, List.count_append, List.count_singleton, beq_iff_eq]
      by_cases hh : j = k'
      · subst hh; simp; omega
      · rw [if_neg hh, if_neg (fun e => hh e.symm), hc j h0 h4]; omega
    · rintro s ⟨hs, hc⟩
      refine ⟨hs, fun j h0 h1 => ?_⟩
      rw [hc j h0 h1, List.take_length, List.take_add_one, hd]
      simp
  · rintro s ⟨hs, hc⟩
    refine ⟨hs, fun j h0 h1 => ?_⟩
    rw [hc j h0 h1, List.take_length, hcnt, if_pos ⟨h0, h1⟩]; rfl
  rintro s ⟨hs, hc⟩
  have hcf : slices_ContainsFunc_int_int s = some false := by
    refine tot_eq (?_ : Tot _ (· = false))
    unfold slices_ContainsFunc_int_int slices_IndexFunc_int_int
    refine tot_bind (P := fun i => i = -1) ?_ fun i _ hi => ?_
    · refine tot_allX (P := fun _ _ => True) (E := fun _ => False) (fun i v hv => ?_) (fun _ => tot_some rfl) (fun y hy => hy.elim)
      have h1 := nth_nat 0 hv
      have hi := (List.getElem?_eq_some_iff.1 hv).1
      rw [hc i (by omega) (by omega)] at h1
      subst h1
      exact tot_some trivial
    · subst hi; exact tot_some rfl
  refine tot_bind' hcf ?_
  simp only [ifb_false]
  have c0 := hx.c0; have c1 := hx.c1; have l0 := hx.l0; have l1 := hx.l1; have w0 := hx.w0; have w1 := hx.w1; have a0 := hx.a0; have a1 := hx.a1
  rw [w64_id (x := 86400 - x.Long) (by omega) (by omega), w64_id (x := 86400 - x.Work) (by omega) (by omega), w64_id (x := 86400 - x.After) (by omega) (by omega)]
  rw [gmin_eq, gmin_eq, gmin_eq]
  refine tot_bind (P := fun b : Bool => b = true ∨ 0 ≤ ease ∧ ease ≤ x.Change ∧ x.Long + ease ≤ 86400 ∧ x.Work + ease ≤ 86400 ∧ x.After + ease ≤ 86400) ?_ fun b _ hb => ?_
  · refine tot_ifb (fun _ => tot_some (.inl rfl)) fun q => ?_
    have q := of_decide_eq_false q
    refine tot_some ?_
    by_cases h : ease > min (min (min (86400 - x.Long) (86400 - x.Work)) (86400 - x.After)) x.Change
    · exact .inl (decide_eq_true h)
    · exact .inr (by omega)
  refine tot_ifb (fun _ => tot_some rfl) fun q2 => ?_
  rcases hb with hb | ⟨e0, e1, e2, e3, e4⟩
  · rw [hb] at q2; cases q2
  rw [w64_id (x := x.Change - ease) (by omega) (by omega), w64_id (x := x.Long + ease) (by omega) (by omega), w64_id (x := x.Work + ease) (by omega) (by omega), w64_id (x := x.After + ease) (by omega) (by omega)]
  have hlax : Lax x ⟨x.Change - ease, x.Long + ease, x.Work + ease, x.After + ease, x.Break, x.Rest, x.Row⟩ := ⟨by show x.Change - ease ≤ _; omega, by show _ ≤ x.Long + ease; omega, by show _ ≤ x.Work + ease; omega, by show _ ≤ x.After + ease; omega, rfl⟩
  have hy : LimOk ⟨x.Change - ease, x.Long + ease, x.Work + ease, x.After + ease, x.Break, x.Rest, x.Row⟩ := by
    constructor <;> simp only <;> first | omega | exact hx.b0 | exact hx.b1 | exact hx.r0 | exact hx.r1 | exact hx.o0 | exact hx.o1
  refine tot_bind (duties_ok l _) fun r' _ hr' => ?_
  obtain ⟨s1, s2⟩ := r'
  simp only at hr'
  have hT' := hT.lax hlax
  have hs0 : s1 = 0 := by
    by_cases h : s1 = 0
    · exact h
    · exact absurd hT' (hr'.2.2 h hl hy hl8 k hk _)
  obtain ⟨_, _, _, k', hk', hT2, hmin'⟩ := hr'.2.1 hs0
  have hkk : k' ≤ k := by
    by_cases h : k < k'
    · exact absurd hT' (hmin' k h _)
    · omega
  have hlen2 : (s2.length : Int) = k' := hT2.len
  refine tot_bind (P := fun b => b = true) ?_ fun b _ hb => tot_some hb
  refine tot_ifb (fun _ => tot_some (decide_eq_true (by show (s2.length : Int) ≤ r2.length; omega))) fun q3 => ?_
  have q3 : s1 ≠ 0 := by simpa using q3
  exact absurd hs0 q3
end
end Fp
namespace Go.Proofs.Ytmhpeefjjclpfaa
theorem fleetKept_proved : Rows.FleetKeptSaid := FleetKept.close Fp.law
end Go.Proofs.Ytmhpeefjjclpfaa
