/- Tasks: what the checks say; the order of tasks. -/
import Derived.Test.YtmhpeefjjclpfaaZP
import Derived.Test.YtmhpeefjjclpfaaK5
import Derived.Test.YtmhpeefjjclpfaaS1
set_option linter.unusedVariables false
set_option linter.unusedSimpArgs false
set_option maxRecDepth 100000
namespace Fl
open Go Hk Hd Pl Hs

def tz : S_fleet_Task := ⟨0, 0, 0, 0, 0, 0⟩
def tk (l : List S_fleet_Task) (i : Int) : S_fleet_Task := nth tz l i
structure TaskOk (t : S_fleet_Task) : Prop where
  f0 : 0 ≤ t.From
  f1 : t.From ≤ 11
  o0 : 0 ≤ t.To
  o1 : t.To ≤ 11
  d0 : 0 ≤ t.Dep
  da : t.Dep < t.Arr
  a1 : t.Arr ≤ 28800
  k0 : 0 ≤ t.Km
  k1 : t.Km ≤ 10000
  u0 : 1 ≤ t.Units
  u1 : t.Units ≤ 4
structure TasksOk (l : List S_fleet_Task) : Prop where
  len : l.length ≤ 40
  all : ∀ t ∈ l, TaskOk t
structure Ok (l : List S_fleet_Task) (turn : Int) : Prop extends TasksOk l where
  t0 : 0 ≤ turn
  t1 : turn ≤ 28800
theorem TasksOk.at {l : List S_fleet_Task} (h : TasksOk l) {i : Int} (h0 : 0 ≤ i) (h1 : i < l.length) : TaskOk (tk l i) := h.all _ (nth_mem tz h0 h1)
theorem tk_idx {l : List S_fleet_Task} {i : Int} (h0 : 0 ≤ i) (h1 : i < l.length) : idx l i = some (tk l i) := idx_nth tz h0 h1
theorem tk_get {l : List S_fleet_Task} {i : Nat} {x : S_fleet_Task} (h : l[i]? = some x) : tk l (i : Int) = x := nth_nat tz h
theorem within_eq (a b c : Int) : fleet_within a b c = some (decide (b ≤ a ∧ a ≤ c)) := by
  unfold fleet_within
  by_cases h : b ≤ a
  · rw [show decide (a ≥ b) = true from decide_eq_true h, ifb_true]; simp [h]
  · rw [show decide (a ≥ b) = false from decide_eq_false h, ifb_false]; simp [h]
theorem task_b1 (i : Nat) (x : S_fleet_Task) : Tot (fleet_CheckTasks_b1 i x ()) (fun c => match c with | .go _ => TaskOk x | .out (.go _) => False | .out (.out y) => y ≠ 0 ∧ ¬ TaskOk x) := by
  simp only [fleet_CheckTasks_b1, within_eq, Option.bind_some, tot_bind_iff, tot_ifb_iff, tot_some_iff]
  simp only [Bool.not_eq_true', Bool.not_eq_false', decide_eq_true_eq, decide_eq_false_iff_not]
  refine ⟨fun h => ?_, fun h => ?_⟩
  · simp only [true_implies, Bool.true_eq_false, false_implies, and_true]
    exact ⟨by decide, fun k => h ⟨k.f0, k.f1⟩⟩
  refine ⟨fun h2 => ?_, fun h2 => ?_⟩
  · simp only [true_implies, Bool.true_eq_false, false_implies, and_true]
    exact ⟨by decide, fun k => h2 ⟨k.o0, k.o1⟩⟩
  refine ⟨fun h3 => ?_, fun h3 => ?_⟩
  · simp only [true_implies, Bool.true_eq_false, false_implies, and_true]
    exact ⟨by decide, fun k => h3 ⟨k.d0, by have := k.da; have := k.a1; omega⟩⟩
  refine ⟨fun h4 => ⟨by decide, fun k => h4 ⟨by have := k.da; have := k.d0; omega, k.a1⟩⟩, fun h4 => ⟨fun h5 => ⟨by decide, fun k => by have := k.da; omega⟩, fun h5 => ⟨fun h6 => ?_, fun h6 => ?_⟩⟩⟩
  · simp only [true_implies, Bool.true_eq_false, false_implies, and_true]
    exact ⟨by decide, fun k => h6 ⟨k.k0, k.k1⟩⟩
  · exact ⟨fun h7 => ⟨by decide, fun k => h7 ⟨k.u0, k.u1⟩⟩, fun h7 => ⟨h.1, h.2, h2.1, h2.2, h3.1, by omega, h4.2, h6.1, h6.2, h7.1, h7.2⟩⟩
theorem tasks_tot (l : List S_fleet_Task) : Tot (fleet_CheckTasks l) (fun e => e = 0 ↔ TasksOk l) := by
  unfold fleet_CheckTasks
  refine tot_ifb (fun h => ?_) fun h => ?_
  · simp only [decide_eq_true_eq] at h
    exact tot_some ⟨fun h => (by cases h), fun k => (by have := k.len; omega)⟩
  · simp only [decide_eq_false_iff_not] at h
    refine tot_bind (P := fun c => match c with | .go _ => ∀ (i : Nat) x, l[i]? = some x → TaskOk x | .out y => y ≠ 0 ∧ ¬ TasksOk l) ?_ fun c _ hc => ?_
    · rw [forX_eq]
      refine tot_forC (I := fun k _ => ∀ (i : Nat) x, i < k → l[i]? = some x → TaskOk x) (fun i x h => by omega) (fun i x s hx hI => tot_mono (task_b1 i x) fun c hc => ?_) fun s hI i x hx => hI i x (List.getElem?_eq_some_iff.1 hx).1 hx
      rcases c with _ | (_ | y)
      · intro j y hj hy
        by_cases h : j = i
        · subst h; rw [hx] at hy; injection hy with hy; subst hy; exact hc
        · exact hI j y (by omega) hy
      · exact hc.elim
      · exact ⟨hc.1, fun k => hc.2 (k.all x (List.mem_of_getElem? hx))⟩
    · cases c with
      | go _ => exact tot_some ⟨fun _ => ⟨by omega, mem_of_all hc⟩, fun _ => rfl⟩
      | out y => exact tot_some ⟨fun e => absurd e hc.1, fun k => absurd k hc.2⟩
theorem turn_tot (l : List S_fleet_Task) (turn : Int) : Tot (fleet_checkTurn l turn) (fun e => e = 0 ↔ Ok l turn) := by
  unfold fleet_checkTurn
  refine tot_bind (tasks_tot l) fun e _ he => ?_
  refine tot_ifb (fun h => ?_) fun h => ?_
  · have h : e ≠ 0 := by simpa using h
    exact tot_some ⟨fun k => absurd k h, fun k => he.2 k.toTasksOk⟩
  · have h : e = 0 := by simpa using h
    rw [within_eq]
    simp only [Option.bind_some]
    refine tot_ifb (fun h2 => ?_) fun h2 => ?_
    · simp only [Bool.not_eq_true', decide_eq_false_iff_not] at h2
      exact tot_some ⟨fun k => (by cases k), fun k => absurd ⟨k.t0, k.t1⟩ h2⟩
    · simp only [Bool.not_eq_false', decide_eq_true_eq] at h2
      exact tot_some ⟨fun _ => ⟨he.1 h, h2.1, h2.2⟩, fun _ => rfl⟩
theorem turn_ok {l : List S_fleet_Task} {turn : Int} (h : Ok l turn) : fleet_checkTurn l turn = some 0 := by
  obtain ⟨e, h1, h2⟩ := turn_tot l turn
  rw [h1, h2.2 h]
theorem tasks_ok {l : List S_fleet_Task} (h : TasksOk l) : fleet_CheckTasks l = some 0 := by
  obtain ⟨e, h1, h2⟩ := tasks_tot l
  rw [h1, h2.2 h]

/-! ### the order -/
theorem symMn_eq (p : Option (List S_fleet_Task)) : ∀ (n : Nat) (a m b : Int) (l : List Int), slices_symMergeCmpFunc_int_n n a m b l p = symM_n (fun x y => fleet_order_1 x y p) n a m b l
  | 0, _, _, _, _ => rfl
  | n + 1, a, m, b, l => by
    have ih : (fun a m b l => slices_symMergeCmpFunc_int_n n a m b l p) = symM_n (fun x y => fleet_order_1 x y p) n := by funext a m b l; exact symMn_eq p n a m b l
    show slices_symMergeCmpFunc_int_step (slices_symMergeCmpFunc_int_n n) a m b l p = symM_step (fun x y => fleet_order_1 x y p) (symM_n (fun x y => fleet_order_1 x y p) n) a m b l
    rw [← ih]
    rfl
theorem symM_eq (p : Option (List S_fleet_Task)) (a m b : Int) (l : List Int) : slices_symMergeCmpFunc_int a m b l p = symM (fun x y => fleet_order_1 x y p) a m b l := symMn_eq p bigN a m b l
theorem sort_eq (p : Option (List S_fleet_Task)) (l : List Int) : slices_SortStableFunc_int_int l p = sortStable (fun x y => fleet_order_1 x y p) l := by
  have h3 : ∀ n s, slices_stableCmpFunc_int_b3 n p s = stab_b3 (fun x y => fleet_order_1 x y p) n s := fun n s => by
    funext t; unfold slices_stableCmpFunc_int_b3 stab_b3; rw [symM_eq]
  have h2 : ∀ n, slices_stableCmpFunc_int_b2 n p = stab_b2 (fun x y => fleet_order_1 x y p) n := fun n => by
    funext t; unfold slices_stableCmpFunc_int_b2 stab_b2; simp only [h3, symM_eq]
  unfold slices_SortStableFunc_int_int sortStable slices_stableCmpFunc_int stab
  simp only [h2]
  rfl
theorem compare_eq (a b : Int) : cmp_Compare_int a b = some (if a < b then -1 else if a > b then 1 else 0) := by
  unfold cmp_Compare_int cmp_isNaN_int
  simp only [bne_self_eq_false, Option.bind_some, ifb_false, ifb_dec]
  split
  · rfl
  · split <;> rfl
theorem order1_ok (l : List S_fleet_Task) : CmpOk (fun x y => fleet_order_1 x y (some l)) (fun i => 0 ≤ i ∧ i < l.length) (fun x y => (tk l x).Dep ≤ (tk l y).Dep) where
  tot a b := Int.le_total _ _
  tr a b c h1 h2 := Int.le_trans h1 h2
  ok a b ha hb := by
    refine ⟨if (tk l a).Dep < (tk l b).Dep then -1 else if (tk l a).Dep > (tk l b).Dep then 1 else 0, ?_, ?_⟩
    · simp only [fleet_order_1, Option.bind_some, tk_idx ha.1 ha.2, tk_idx hb.1 hb.2, compare_eq]
    · by_cases h : (tk l a).Dep < (tk l b).Dep
      · rw [if_pos h]; omega
      · rw [if_neg h]
        by_cases h2 : (tk l a).Dep > (tk l b).Dep
        · rw [if_pos h2]; omega
        · rw [if_neg h2]; omega
def ints (n : Nat) : List Int := (List.range n).map fun (i : Nat) => (i : Int)
theorem order_ok {l : List S_fleet_Task} (h : l.length ≤ 40) : Tot (fleet_order l) fun d => d.Perm (ints l.length) ∧ d.Pairwise fun x y => (tk l x).Dep ≤ (tk l y).Dep := by
  unfold fleet_order
  rw [gmake_eq (by omega) (by unfold mkRoom; omega) (by unfold maxLen; omega)]
  simp only [Option.bind_some, List.length_replicate, Int.toNat_natCast]
  refine tot_loopN (I := fun k s => s.length = l.length ∧ ∀ i : Nat, i < k → nth 0 s (i : Int) = i) (J := fun s => s = ints l.length) (E := fun _ => False) ⟨by simp, fun i h => by omega⟩ (fun i s hi hI => ?_) (fun s hI => ?_) (fun s hs => ?_) (fun _ h => h.elim)
  · obtain ⟨h1, h2⟩ := hI
    unfold fleet_order_b1
    rw [idx_nth 0 (xs := s) (by omega) (by omega)]
    refine tot_some ⟨by rw [setI_length]; exact h1, fun j hj => ?_⟩
    rw [nth_setI 0 (by omega) (by omega) (by omega)]
    by_cases hij : j = i
    · subst hij; rw [if_pos rfl]
    · rw [if_neg (by omega)]; exact h2 j (by omega)
  · obtain ⟨h1, h2⟩ := hI
    refine List.ext_getElem (by simp [ints, h1]) fun i a b => ?_
    have := h2 i (by omega)
    rw [nth_get 0 a] at this
    simp [ints, this]
  · subst hs
    rw [sort_eq]
    refine tot_bind (sortStable_ok (order1_ok l) (by simp [ints]; omega) fun x hx => ?_) fun d _ hd => tot_some hd
    simp only [ints, List.mem_map, List.mem_range] at hx
    obtain ⟨i, hi, rfl⟩ := hx
    omega
theorem mem_ints {n : Nat} {x : Int} : x ∈ ints n ↔ 0 ≤ x ∧ x < n := by
  simp only [ints, List.mem_map, List.mem_range]
  constructor
  · rintro ⟨i, hi, rfl⟩; omega
  · rintro ⟨h0, h1⟩; exact ⟨x.toNat, by omega, by omega⟩
theorem nodup_ints (n : Nat) : (ints n).Nodup := List.pairwise_map.2 (List.nodup_range.imp fun h e => h (by omega))
theorem follows_eq (a b : S_fleet_Task) {turn : Int} (h0 : 0 ≤ turn) (h1 : turn ≤ 28800) (ha : TaskOk a) : fleet_follows a b turn = some (decide (b.From = a.To ∧ a.Arr + turn ≤ b.Dep)) := by
  unfold fleet_follows
  have := ha.a1; have := ha.d0; have := ha.da
  rw [w64_id (x := a.Arr + turn) (by omega) (by omega)]
  by_cases h : b.From = a.To
  · rw [show (b.From == a.To) = true by simpa using h, ifb_true]; simp [h]
  · rw [show (b.From == a.To) = false by simpa using h, ifb_false]; simp [h]
end Fl

/- FleetAssigned: turns, and that what is found is legal. -/
set_option linter.unusedVariables false
set_option linter.unusedSimpArgs false
set_option maxRecDepth 100000
namespace Fl
open Go Hk Hd Pl Hs

def sL {α : Type} (f : α → Int) : List α → Int
  | [] => 0
  | x :: l => f x + sL f l
theorem sL_app {α : Type} (f : α → Int) : ∀ (l m : List α), sL f (l ++ m) = sL f l + sL f m
  | [], m => by simp [sL]
  | x :: l, m => by simp only [List.cons_append, sL, sL_app f l m]; omega
theorem sL_set {α : Type} (f : α → Int) (v : α) : ∀ (l : List α) (i : Nat) (h : i < l.length), sL f (l.set i v) = sL f l - f l[i] + f v
  | x :: l, 0, h => by simp only [List.set_cons_zero, sL, List.getElem_cons_zero]; omega
  | x :: l, i + 1, h => by
    simp only [List.set_cons_succ, sL, List.getElem_cons_succ]
    rw [sL_set f v l i (by simpa using h)]; omega
theorem sL_setI {α : Type} (z : α) (f : α → Int) (v : α) {l : List α} {i : Int} (h0 : 0 ≤ i) (h1 : i < l.length) : sL f (setI l i v) = sL f l - f (nth z l i) + f v := by
  unfold setI
  rw [sL_set f v l i.toNat (by omega)]
  have : nth z l i = l[i.toNat]'(by omega) := by unfold nth; rw [List.getElem?_eq_getElem (by omega)]; rfl
  rw [this]
theorem sL_cong {α : Type} {f g : α → Int} : ∀ {l : List α}, (∀ x ∈ l, f x = g x) → sL f l = sL g l
  | [], _ => rfl
  | x :: l, h => by simp only [sL]; rw [h x (by simp), sL_cong fun y hy => h y (by simp [hy])]
theorem sL_le {α : Type} {f g : α → Int} : ∀ {l : List α}, (∀ x ∈ l, f x ≤ g x) → sL f l ≤ sL g l
  | [], _ => Int.le_refl _
  | x :: l, h => by
    have h1 := h x (by simp); have h2 := sL_le (l := l) fun y hy => h y (by simp [hy])
    simp only [sL]; omega
theorem sL_zero {α : Type} (l : List α) : sL (fun _ => 0) l = 0 := by
  induction l with
  | nil => rfl
  | cons x l ih => simp [sL, ih]
theorem sL_one {α : Type} (l : List α) : sL (fun _ => 1) l = l.length := by
  induction l with
  | nil => rfl
  | cons x l ih => simp only [sL, ih, List.length_cons]; omega
theorem sL_nn {α : Type} {f : α → Int} {l : List α} (h : ∀ x ∈ l, 0 ≤ f x) : 0 ≤ sL f l := by
  have := sL_le (f := fun _ => 0) h
  rwa [sL_zero] at this
theorem sL_sumN {α : Type} (f : Nat → α → Int) (n : Nat) : ∀ l : List α, sL (fun x => sumN (fun j => f j x) n) l = sumN (fun j => sL (f j) l) n
  | [] => by simp only [sL]; rw [sumN_const]; simp
  | x :: l => by
    simp only [sL, sL_sumN f n l]
    induction n with
    | zero => simp [sumN]
    | succ n ih => simp only [sumN]; omega
theorem nth_snoc {α : Type} (z : α) (t : List α) (k : α) (i : Int) (h0 : 0 ≤ i) : nth z (t ++ [k]) i = if i < t.length then nth z t i else if i = t.length then k else z := by
  unfold nth
  by_cases h : i < t.length
  · rw [if_pos h, List.getElem?_append_left (by omega)]
  · rw [if_neg h]
    by_cases h2 : i = t.length
    · rw [if_pos h2, List.getElem?_append_right (by omega), show i.toNat - t.length = 0 by omega]; rfl
    · rw [if_neg h2, List.getElem?_eq_none (by simp; omega)]; rfl

/-! ### turns -/
def last (t : List Int) : Int := nth 0 t ((t.length : Int) - 1)
def Avail (l : List S_fleet_Task) (turn k : Int) (t : List Int) : Prop := (tk l k).From = (tk l (last t)).To ∧ (tk l (last t)).Arr + turn ≤ (tk l k).Dep
structure Ch (l : List S_fleet_Task) (turn : Int) (t : List Int) : Prop where
  ix : ∀ i : Int, 0 ≤ i → i < t.length → 0 ≤ nth 0 t i ∧ nth 0 t i < l.length
  nx : ∀ i : Int, 0 ≤ i → i + 1 < t.length → (tk l (nth 0 t (i + 1))).From = (tk l (nth 0 t i)).To ∧ (tk l (nth 0 t i)).Arr + turn ≤ (tk l (nth 0 t (i + 1))).Dep
theorem last_snoc (t : List Int) (k : Int) : last (t ++ [k]) = k := by
  unfold last
  rw [nth_snoc 0 t k _ (by simp), if_neg (by simp), if_pos (by simp)]
theorem Ch.snoc {l : List S_fleet_Task} {turn k : Int} {t : List Int} (h : Ch l turn t) (hk : 0 ≤ k ∧ k < l.length) (ha : t ≠ [] → Avail l turn k t) : Ch l turn (t ++ [k]) := by
  refine ⟨fun i h0 h1 => ?_, fun i h0 h1 => ?_⟩
  · rw [nth_snoc 0 t k i h0]
    simp only [List.length_append, List.length_singleton] at h1
    by_cases hi : i < t.length
    · rw [if_pos hi]; exact h.ix i h0 hi
    · rw [if_neg hi, if_pos (by omega)]; exact hk
  · simp only [List.length_append, List.length_singleton] at h1
    have e1 : nth 0 (t ++ [k]) i = nth 0 t i := by rw [nth_snoc 0 t k i h0, if_pos (by omega)]
    rw [e1, nth_snoc 0 t k (i + 1) (by omega)]
    by_cases hi : i + 1 < t.length
    · rw [if_pos hi]; exact h.nx i h0 hi
    · rw [if_neg hi, if_pos (by omega)]
      have : nth 0 t i = Fl.last t := by unfold Fl.last; congr 1; omega
      rw [this]; exact ha (List.length_pos_iff.1 (by omega))
theorem ch_nil {l : List S_fleet_Task} {turn : Int} : Ch l turn [] := ⟨fun i h0 h1 => by simp at h1; omega, fun i h0 h1 => by simp at h1; omega⟩
theorem head_snoc {t : List Int} (h : 1 ≤ t.length) (k : Int) : nth 0 (t ++ [k]) 0 = nth 0 t 0 := by rw [nth_snoc 0 t k 0 (by omega), if_pos (by omega)]
section
variable {l : List S_fleet_Task} {turn : Int}
def units (l : List S_fleet_Task) (j : Nat) : Int := (tk l j).Units
structure TurnsOk (l : List S_fleet_Task) (turn : Int) (T : List (List Int)) : Prop where
  ch : ∀ t ∈ T, Ch l turn t
  lens : ∀ t ∈ T, t.length ≤ 160
  cnt : ∀ j : Nat, j < l.length → sL (fun t => (t.count (j : Int) : Int)) T = units l j
theorem nodup_at {d : List Int} (h : d.Nodup) {i j : Nat} {x : Int} (hi : d[i]? = some x) (hj : d[j]? = some x) : i = j := by
  obtain ⟨h1, e1⟩ := List.getElem?_eq_some_iff.1 hi
  obtain ⟨h2, e2⟩ := List.getElem?_eq_some_iff.1 hj
  rcases Nat.lt_trichotomy i j with q | q | q
  · exact absurd (e1.trans e2.symm) (List.pairwise_iff_getElem.1 h i j h1 h2 q)
  · exact q
  · exact absurd (e2.trans e1.symm) (List.pairwise_iff_getElem.1 h j i h2 h1 q)
theorem units_bd (hok : Ok l turn) {j : Nat} (hj : j < l.length) : 1 ≤ units l j ∧ units l j ≤ 4 := by
  have u := hok.at (i := j) (by omega) (by omega)
  exact ⟨u.u0, u.u1⟩
theorem contains_ok (xs : List Int) (v : Int) (h : xs.length ≤ 1000000) : slices_Contains_int_int xs v = some (decide (v ∈ xs)) := by
  refine tot_eq (?_ : Tot _ (· = decide (v ∈ xs)))
  unfold slices_Contains_int_int slices_Index_int_int
  refine tot_bind (P := fun i => (i = -1 ∧ v ∉ xs) ∨ 0 ≤ i ∧ v ∈ xs) ?_ fun i _ hi => ?_
  · refine tot_allX (P := fun i x => x ≠ v) (E := fun i => 0 ≤ i ∧ v ∈ xs) (fun i x hx => ?_) (fun h => ?_) fun i hi => tot_some (.inr hi)
    · unfold slices_Index_int_int_b1
      refine tot_ifb (fun q => ?_) fun q => ?_
      · have q : v = x := by simpa using q
        exact tot_some ⟨by omega, by rw [q]; exact List.mem_of_getElem? hx⟩
      · have q : v ≠ x := by simpa using q
        exact tot_some fun e => q e.symm
    · refine tot_some (.inl ⟨rfl, fun hm => ?_⟩)
      obtain ⟨i, hi⟩ := List.getElem?_of_mem hm
      exact h i v hi rfl
  · refine tot_some ?_
    rcases hi with ⟨rfl, h⟩ | ⟨h0, h⟩
    · simp [h]
    · simp [h, h0]
theorem chain_dep (hok : Ok l turn) {t : List Int} (h : Ch l turn t) {i : Int} (h0 : 0 ≤ i) : ∀ n : Nat, i + n + 1 < t.length → (tk l (nth 0 t i)).Dep < (tk l (nth 0 t (i + n + 1))).Dep
  | 0, hn => by
    have h1 := h.nx i h0 (by omega)
    have h2 := h.ix i h0 (by omega)
    have := (hok.at h2.1 h2.2).da; have := hok.t0
    rw [show i + ((0 : Nat) : Int) + 1 = i + 1 by omega]; omega
  | n + 1, hn => by
    have ih := chain_dep hok h h0 n (by omega)
    have h1 := h.nx (i + n + 1) (by omega) (by omega)
    have h2 := h.ix (i + n + 1) (by omega) (by omega)
    have := (hok.at h2.1 h2.2).da; have := hok.t0
    rw [show i + ((n + 1 : Nat) : Int) + 1 = i + n + 1 + 1 by omega]; omega
theorem count_take {t : List Int} {i : Nat} {x v : Int} (hx : t[i]? = some x) : ((t.take (i + 1)).count v : Int) = (t.take i).count v + if x = v then 1 else 0 := by
  obtain ⟨hi, rfl⟩ := List.getElem?_eq_some_iff.1 hx
  rw [List.take_succ_eq_append_getElem hi, List.count_append, List.count_singleton]
  by_cases e : t[i] = v
  · rw [if_pos e]; simp [e]
  · rw [if_neg e]; simp [e]
theorem legal_ok (hok : Ok l turn) {T : List (List Int)} (hT : TurnsOk l turn T) : fleet_Legal l turn T = some 0 := by
  have hlen := hok.len
  refine tot_eq (?_ : Tot _ (· = (0 : Int)))
  unfold fleet_Legal
  rw [turn_ok hok]
  simp only [Option.bind_some]
  rw [show ((0 : Int) != 0) = false from rfl, ifb_false, gmake_eq (by omega) (by unfold mkRoom; omega) (by unfold maxLen; omega)]
  simp only [Option.bind_some, Int.toNat_natCast]
  refine tot_loopX (I := fun i s => s.length = l.length ∧ ∀ j : Nat, j < l.length → nth 0 s (j : Int) = sL (fun t => (t.count (j : Int) : Int)) (T.take i)) (J := fun s => s.length = l.length ∧ ∀ j : Nat, j < l.length → nth 0 s (j : Int) = units l j) (E := fun _ => False)
    ⟨by simp, fun j hj => by rw [nth_replicate (by omega) (by omega)]; rfl⟩ (fun i t s ht hI => ?_) (fun s hI => ?_) (fun s hJ => ?_) (fun _ h => h.elim)
  · obtain ⟨a1, a2⟩ := hI
    have hch := hT.ch t (List.mem_of_getElem? ht)
    have hl := hT.lens t (List.mem_of_getElem? ht)
    obtain ⟨hi, hte⟩ := List.getElem?_eq_some_iff.1 ht
    have sb : ∀ j : Nat, j < l.length → ∀ (i' : Nat), 0 ≤ sL (fun t => (t.count (j : Int) : Int)) (T.take i') ∧ sL (fun t => (t.count (j : Int) : Int)) (T.take i') ≤ 4 := fun j hj i' => by
      have h1 := hT.cnt j hj
      have h2 := units_bd hok hj
      have h3 : sL (fun t => (t.count (j : Int) : Int)) T = sL (fun t => (t.count (j : Int) : Int)) (T.take i') + sL (fun t => (t.count (j : Int) : Int)) (T.drop i') := by rw [← sL_app, List.take_append_drop]
      have h4 : 0 ≤ sL (fun t => (t.count (j : Int) : Int)) (T.take i') := sL_nn fun _ _ => by omega
      have h5 : 0 ≤ sL (fun t => (t.count (j : Int) : Int)) (T.drop i') := sL_nn fun _ _ => by omega
      omega
    have et : T.take (i + 1) = T.take i ++ [t] := by rw [List.take_succ_eq_append_getElem hi, hte]
    have e4 : ∀ j : Nat, sL (fun t => (t.count (j : Int) : Int)) (T.take (i + 1)) = sL (fun t => (t.count (j : Int) : Int)) (T.take i) + t.count (j : Int) := fun j => by rw [et, sL_app]; simp only [sL]; omega
    unfold fleet_Legal_b1
    refine tot_loopX (I := fun k s => s.length = l.length ∧ ∀ j : Nat, j < l.length → nth 0 s (j : Int) = sL (fun t => (t.count (j : Int) : Int)) (T.take i) + (t.take k).count (j : Int)) (J := fun s => s.length = l.length ∧ ∀ j : Nat, j < l.length → nth 0 s (j : Int) = sL (fun t => (t.count (j : Int) : Int)) (T.take (i + 1))) (E := fun _ => False)
      ⟨a1, fun j hj => by rw [a2 j hj]; simp⟩ (fun k x s hx hI => ?_) (fun s hI => ⟨hI.1, fun j hj => by rw [hI.2 j hj, e4, List.take_length]⟩) (fun s hs => tot_some hs) (fun _ h => h.elim)
    obtain ⟨b1, b2⟩ := hI
    obtain ⟨hk, hxe⟩ := List.getElem?_eq_some_iff.1 hx
    have enx : nth 0 t (k : Int) = x := nth_nat 0 hx
    have hr := hch.ix k (by omega) (by omega)
    rw [enx] at hr
    unfold fleet_Legal_b2
    rw [w64_id (x := (l.length : Int) - 1) (by omega) (by omega), within_eq, show decide (0 ≤ x ∧ x ≤ (l.length : Int) - 1) = true from decide_eq_true (by omega)]
    simp only [Option.bind_some, Bool.not_true, ifb_false]
    rw [gcut_eq (by omega) (by omega) (by omega)]
    simp only [Option.bind_some, Int.toNat_natCast]
    rw [contains_ok _ _ (by simp; omega)]
    have hnc : x ∉ List.drop (0 : Int).toNat (t.take k) := fun hm => by
      simp only [Int.toNat_zero, List.drop_zero] at hm
      obtain ⟨i', hi', he⟩ := List.mem_iff_getElem.1 hm
      simp only [List.length_take] at hi'
      rw [List.getElem_take] at he
      have h1 := chain_dep hok hch (i := (i' : Int)) (by omega) (k - i' - 1) (by omega)
      rw [show (i' : Int) + ((k - i' - 1 : Nat) : Int) + 1 = k by omega, enx, nth_get 0 (by omega), he] at h1
      omega
    rw [show decide (x ∈ List.drop (0 : Int).toNat (t.take k)) = false from decide_eq_false hnc]
    simp only [Option.bind_some, ifb_false]
    refine tot_bind (P := fun b => b = false) ?_ fun b _ hb => ?_
    · refine tot_ifb (fun q => ?_) fun q => tot_some rfl
      have q := of_decide_eq_true q
      rw [w64_id (x := (k : Int) - 1) (by omega) (by omega), idx_nth 0 (xs := t) (by omega) (by omega)]
      have h1 := hch.nx ((k : Int) - 1) (by omega) (by omega)
      have h2 := hch.ix ((k : Int) - 1) (by omega) (by omega)
      rw [show (k : Int) - 1 + 1 = k by omega, enx] at h1
      simp only [Option.bind_some]
      rw [tk_idx h2.1 h2.2, tk_idx hr.1 hr.2]
      simp only [Option.bind_some]
      rw [follows_eq _ _ hok.t0 hok.t1 (hok.at h2.1 h2.2), decide_eq_true h1]
      exact tot_some rfl
    subst hb
    rw [ifb_false, idx_nth 0 (xs := s) hr.1 (by omega)]
    simp only [Option.bind_some]
    obtain ⟨j0, rfl⟩ : ∃ j0 : Nat, x = j0 := ⟨x.toNat, by omega⟩
    have hj0 : j0 < l.length := by omega
    have c1 := b2 j0 hj0
    have c2 := sb j0 hj0 (i + 1)
    rw [e4] at c2
    have c3 : ((t.take (k + 1)).count (j0 : Int) : Int) ≤ t.count (j0 : Int) := by
      have := (List.take_sublist (k + 1) t).count_le (j0 : Int)
      omega
    have c4 := count_take (v := (j0 : Int)) hx
    rw [if_pos rfl] at c4
    have c5 := (sb j0 hj0 i).1
    rw [w64_id (by omega) (by omega)]
    refine tot_some ⟨by rw [setI_length]; exact b1, fun j hj => ?_⟩
    rw [nth_setI 0 (by omega) (by omega) (by omega), count_take (v := (j : Int)) hx]
    by_cases e : j = j0
    · subst e; rw [if_pos rfl, if_pos rfl]; omega
    · rw [if_neg (by omega), if_neg (by omega), b2 j hj]; omega
  · obtain ⟨a1, a2⟩ := hI
    exact ⟨a1, fun j hj => by rw [a2 j hj, List.take_length]; exact hT.cnt j hj⟩
  · obtain ⟨a1, a2⟩ := hJ
    refine tot_allX (P := fun _ _ => True) (E := fun _ => False) (fun i x hx => ?_) (fun _ => tot_some rfl) (fun _ h => h.elim)
    have hi := (List.getElem?_eq_some_iff.1 hx).1
    have h1 := a2 i hi
    have e := tk_get hx
    unfold fleet_Legal_b3
    rw [idx_nth 0 (xs := s) (by omega) (by omega), h1]
    simp only [Option.bind_some]
    have hu : units l i = x.Units := by unfold units; rw [e]
    rw [hu, show decide (x.Units > x.Units) = false from decide_eq_false (by omega)]
    exact tot_some trivial
end
end Fl

/- FleetAssigned: sets, the positions of a turn, and what Inspect answers. -/
set_option linter.unusedVariables false
set_option linter.unusedSimpArgs false
set_option maxRecDepth 100000
namespace Fl
open Go Hk Hd Pl Hs

structure SetOk (x : S_fleet_Set) (s : S_fleet_Shop) : Prop where
  h0 : 0 ≤ x.Home
  h1 : x.Home ≤ 11
  k0 : 0 ≤ x.Km
  k1 : x.Km ≤ s.Limit
structure ShopOk (s : S_fleet_Shop) : Prop where
  p0 : 0 ≤ s.Place
  p1 : s.Place ≤ 11
  l0 : 0 ≤ s.Long
  l1 : s.Long ≤ 28800
  m0 : 0 ≤ s.Limit
  m1 : s.Limit ≤ 10000
def xz : S_fleet_Set := ⟨0, 0⟩
structure SetsOk (sets : List S_fleet_Set) (s : S_fleet_Shop) (most : Int) : Prop where
  len : (sets.length : Int) ≤ most
  all : ∀ x ∈ sets, SetOk x s
  shop : ShopOk s
theorem sets_tot (sets : List S_fleet_Set) (s : S_fleet_Shop) (m : Int) : Tot (fleet_checkSets sets s m) fun e => e = 0 ↔ SetsOk sets s m := by
  unfold fleet_checkSets
  refine tot_ifb (fun q => ?_) fun q => ?_
  · have q := of_decide_eq_true q
    exact tot_some ⟨fun e => (by cases e), fun h => by have := h.len; omega⟩
  have q := of_decide_eq_false q
  refine tot_allX (P := fun _ x => SetOk x s) (E := fun y => y ≠ 0 ∧ ¬ SetsOk sets s m) (fun i x hx => ?_) (fun hall => ?_) fun y hy => tot_some ⟨fun e => absurd e hy.1, fun h => absurd h hy.2⟩
  · unfold fleet_checkSets_b1
    rw [within_eq, within_eq]
    simp only [Option.bind_some]
    by_cases q1 : 0 ≤ x.Home ∧ x.Home ≤ 11
    · rw [decide_eq_true q1]
      simp only [Bool.not_true, ifb_false, Option.bind_some]
      by_cases q2 : 0 ≤ x.Km ∧ x.Km ≤ s.Limit
      · rw [decide_eq_true q2]; exact tot_some ⟨q1.1, q1.2, q2.1, q2.2⟩
      · rw [decide_eq_false q2]; exact tot_some ⟨by decide, fun h => q2 (by have := h.all x (List.mem_of_getElem? hx); exact ⟨this.k0, this.k1⟩)⟩
    · rw [decide_eq_false q1]; exact tot_some ⟨by decide, fun h => q1 (by have := h.all x (List.mem_of_getElem? hx); exact ⟨this.h0, this.h1⟩)⟩
  · have hall := mem_of_all hall
    rw [within_eq, within_eq, within_eq]
    simp only [Option.bind_some]
    by_cases q1 : 0 ≤ s.Place ∧ s.Place ≤ 11
    · rw [decide_eq_true q1]
      simp only [Bool.not_true, ifb_false, Option.bind_some]
      by_cases q2 : 0 ≤ s.Long ∧ s.Long ≤ 28800
      · rw [decide_eq_true q2]
        simp only [Bool.not_true, ifb_false, Option.bind_some]
        by_cases q3 : 0 ≤ s.Limit ∧ s.Limit ≤ 10000
        · rw [decide_eq_true q3]; exact tot_some ⟨fun _ => ⟨by omega, hall, q1.1, q1.2, q2.1, q2.2, q3.1, q3.2⟩, fun _ => rfl⟩
        · rw [decide_eq_false q3]; exact tot_some ⟨fun e => (by cases e), fun h => absurd ⟨h.shop.m0, h.shop.m1⟩ q3⟩
      · rw [decide_eq_false q2]; exact tot_some ⟨fun e => (by cases e), fun h => absurd ⟨h.shop.l0, h.shop.l1⟩ q2⟩
    · rw [decide_eq_false q1]; exact tot_some ⟨fun e => (by cases e), fun h => absurd ⟨h.shop.p0, h.shop.p1⟩ q1⟩


section
variable {l : List S_fleet_Task} {turn : Int} {t : List Int} {x : S_fleet_Set} {s : S_fleet_Shop}
theorem may_tot (hl : TasksOk l) (h : Ch l turn t) (hs : ShopOk s) (hn : t.length ≤ 160) {k : Nat} (hk : k ≤ t.length) : Tot (fleet_may l t x s (k : Int)) fun _ => True := by
  unfold fleet_may
  refine tot_bind (P := fun r => 0 ≤ r.2 ∧ r.2 ≤ 28800) ?_ fun r _ hr => ?_
  · refine tot_ifb (fun q => ?_) fun q => tot_some ⟨by simp, by simp⟩
    have q := of_decide_eq_true q
    have h1 := h.ix ((k : Int) - 1) (by omega) (by omega)
    have ht := hl.at h1.1 h1.2
    have a1 := ht.d0; have a2 := ht.da; have a3 := ht.a1
    rw [w64_id (x := (k : Int) - 1) (by omega) (by omega), idx_nth 0 (xs := t) (by omega) (by omega)]
    simp only [Option.bind_some]
    rw [tk_idx h1.1 h1.2]
    exact tot_some ⟨by simp; omega, by simp; omega⟩
  · refine tot_bind (P := fun _ => True) ?_ fun b _ _ => tot_some trivial
    refine tot_ifb (fun q => ?_) fun q => tot_some trivial
    refine tot_ifb (fun q2 => tot_some trivial) fun q2 => ?_
    have q2 : (k : Int) ≠ t.length := by simpa using q2
    have h1 := h.ix (k : Int) (by omega) (by omega)
    rw [idx_nth 0 (xs := t) (by omega) (by omega)]
    simp only [Option.bind_some]
    rw [tk_idx h1.1 h1.2]
    exact tot_some trivial
structure PI (t : List Int) (i : Nat) (s : Int × Int × Int × Int × List Int) : Prop where
  k0 : 0 ≤ s.1
  k1 : s.1 ≤ 10000 * (i + 1)
  s0 : 0 ≤ s.2.2.2.1
  s1 : s.2.2.2.1 ≤ 10000 * i
  n : s.2.2.2.2.length ≤ i
  e : t = [] → s.2.2.2.2 = []
theorem pos_tot (hl : TasksOk l) (h : Ch l turn t) (hs : ShopOk s) (hx : SetOk x s) (hn : t.length ≤ 160) : Tot (fleet_positions l t x s) fun r => r.2.length ≤ 200 ∧ (t = [] → r = (true, [])) := by
  have x0 := hx.k0; have x1 := hx.k1; have x2 := hs.m1
  unfold fleet_positions
  have en : w64 ((t.length : Int) + 1) = (t.length : Int) + 1 := w64_id (by omega) (by omega)
  rw [en]
  refine tot_bind' (glim_eq (by omega)) ?_
  rw [show ((t.length : Int) + 1).toNat = t.length + 1 by omega]
  refine tot_loopN (I := PI t) (J := fun s => s.2.2.2.2.length ≤ 200 ∧ (t = [] → s.2.2.2.2 = [])) (E := fun r => r.2.length ≤ 200 ∧ t ≠ []) ⟨x0, by simp only; omega, by simp, by simp, by simp, fun _ => rfl⟩ (fun i st hi hI => ?_) (fun st hI => ⟨by have := hI.n; omega, hI.e⟩) (fun st hJ => tot_some ⟨hJ.1, fun e => by rw [hJ.2 e]⟩) (fun r hr => tot_some ⟨hr.1, fun e => absurd e hr.2⟩)
  obtain ⟨km, la, fr, si, out⟩ := st
  have k0 : 0 ≤ km := hI.k0
  have k1 : km ≤ 10000 * (i + 1) := hI.k1
  have s0 : 0 ≤ si := hI.s0
  have s1 : si ≤ 10000 * i := hI.s1
  have n0 : out.length ≤ i := hI.n
  have e0 : t = [] → out = [] := hI.e
  unfold fleet_positions_b1
  refine tot_bind (P := fun r : Int × Int => 0 ≤ r.2 ∧ r.2 ≤ 10000 * i) ?_ fun r _ hr => ?_
  · refine tot_bind (may_tot hl h hs hn (by omega)) fun b _ _ => ?_
    exact tot_ifb (fun _ => tot_some ⟨by simp, by simp only; omega⟩) fun _ => tot_some ⟨s0, s1⟩
  · obtain ⟨la', si'⟩ := r
    simp only at hr
    refine tot_ifb (fun q => ?_) fun q => ?_
    · exact tot_some ⟨by simp only; omega, e0⟩
    have q : (i : Int) ≠ t.length := by simpa using q
    have hne : t ≠ [] := List.length_pos_iff.1 (by omega)
    have h1 := h.ix (i : Int) (by omega) (by omega)
    have ht := hl.at h1.1 h1.2
    have a1 := ht.k0; have a2 := ht.k1
    rw [idx_nth 0 (xs := t) (by omega) (by omega)]
    simp only [Option.bind_some]
    rw [tk_idx h1.1 h1.2]
    simp only [Option.bind_some]
    rw [w64_id (x := km + (tk l (nth 0 t (i : Int))).Km) (by omega) (by omega), w64_id (x := si' + (tk l (nth 0 t (i : Int))).Km) (by omega) (by omega)]
    refine tot_ifb (fun q2 => ?_) fun q2 => ?_
    · exact tot_some ⟨by simp only; omega, by simp only; omega, by simp only; omega, by simp only; omega, by simp only; omega, e0⟩
    refine tot_bind (P := fun _ => True) ?_ fun b _ _ => ?_
    · exact tot_ifb (fun _ => tot_some trivial) fun _ => tot_some trivial
    refine tot_ifb (fun _ => tot_some ⟨by simp, hne⟩) fun _ => ?_
    refine tot_bind' (gapp_eq (by simp; have : (5000 : Nat) ≤ apRoom := (by decide); omega) (by simp; have : (1000 : Nat) ≤ maxLen := (by decide); omega)) ?_
    exact tot_some ⟨by simp only; omega, by simp only; omega, by simp only; omega, by simp only; omega, by simp; omega, fun e => absurd e hne⟩
/-- the positions of a turn -/
def pOf (l : List S_fleet_Task) (s : S_fleet_Shop) (x : S_fleet_Set) (t : List Int) : Bool × List Int := (fleet_positions l t x s).getD (false, [])
theorem pos_eq (hl : TasksOk l) (h : Ch l turn t) (hs : ShopOk s) (hx : SetOk x s) (hn : t.length ≤ 160) : fleet_positions l t x s = some (pOf l s x t) ∧ (pOf l s x t).2.length ≤ 200 ∧ (t = [] → pOf l s x t = (true, [])) := by
  obtain ⟨r, h1, h2⟩ := pos_tot hl h hs hx hn
  unfold pOf
  rw [h1]
  exact ⟨rfl, h2⟩
/-- turns of sets -/
structure Tn (l : List S_fleet_Task) (turn : Int) (sets : List S_fleet_Set) (T : List (List Int)) : Prop where
  len : T.length = sets.length
  ch : ∀ i : Nat, i < T.length → Ch l turn (nth [] T (i : Int))
  hm : ∀ i : Nat, i < T.length → nth [] T (i : Int) ≠ [] → (tk l (nth 0 (nth [] T (i : Int)) 0)).From = (nth xz sets (i : Int)).Home
theorem ch_nodup (hok : Ok l turn) (h : Ch l turn t) : t.Nodup := by
  refine List.pairwise_iff_getElem.2 fun i j hi hj hij e => ?_
  have := chain_dep hok h (i := (i : Int)) (by omega) (j - i - 1) (by omega)
  rw [show (i : Int) + ((j - i - 1 : Nat) : Int) + 1 = j by omega, nth_get 0 hi, nth_get 0 hj, e] at this
  omega
theorem ch_mem (h : Ch l turn t) {k : Int} (hk : k ∈ t) : 0 ≤ k ∧ k < l.length := by
  obtain ⟨i, hi, rfl⟩ := List.mem_iff_getElem.1 hk
  have := h.ix (i : Int) (by omega) (by omega)
  rwa [nth_get 0 hi] at this
theorem ch_len (hok : Ok l turn) (h : Ch l turn t) : t.length ≤ 40 := by
  have hmap : (t.map Int.toNat).Nodup := List.pairwise_map.2 ((ch_nodup hok h).imp_of_mem fun ha hb h2 e => h2 (by have := (ch_mem h ha).1; have := (ch_mem h hb).1; omega))
  have := nodup_len (n := l.length) hmap fun i hi => by
    obtain ⟨j, hj, rfl⟩ := List.mem_map.1 hi
    have := ch_mem h hj; omega
  rw [List.length_map] at this
  have := hok.len
  omega
/-- the positions of all turns -/
def outs (l : List S_fleet_Task) (sets : List S_fleet_Set) (s : S_fleet_Shop) (T : List (List Int)) (n : Nat) : List (List Int) := (List.range n).map fun (i : Nat) => (pOf l s (nth xz sets (i : Int)) (nth [] T (i : Int))).2
theorem outs_succ (sets : List S_fleet_Set) (T : List (List Int)) (n : Nat) : outs l sets s T (n + 1) = outs l sets s T n ++ [(pOf l s (nth xz sets (n : Int)) (nth [] T (n : Int))).2] := by
  unfold outs; rw [List.range_succ, List.map_append]; rfl
theorem outs_len (sets : List S_fleet_Set) (T : List (List Int)) (n : Nat) : (outs l sets s T n).length = n := by unfold outs; simp
def Good (l : List S_fleet_Task) (sets : List S_fleet_Set) (s : S_fleet_Shop) (T : List (List Int)) : Prop := ∀ i : Nat, i < T.length → (pOf l s (nth xz sets (i : Int)) (nth [] T (i : Int))).1 = true
def cost (l : List S_fleet_Task) (sets : List S_fleet_Set) (s : S_fleet_Shop) (T : List (List Int)) : Int := sumN (fun i => ((pOf l s (nth xz sets (i : Int)) (nth [] T (i : Int))).2.length : Int)) T.length
theorem inspect_ok {sets : List S_fleet_Set} {T : List (List Int)} (hok : Ok l turn) (hsets : SetsOk sets s 6) (h : Tn l turn sets T) (hg : Good l sets s T) : fleet_Inspect l T sets s = some (0, outs l sets s T T.length) := by
  have hll := hok.len
  have hsl := hsets.len
  have hTl := h.len
  refine tot_eq (?_ : Tot _ (· = ((0 : Int), outs l sets s T T.length)))
  unfold fleet_Inspect
  refine tot_bind' (tasks_ok hok.toTasksOk) ?_
  refine tot_ifb (fun q => absurd q (by decide)) fun _ => ?_
  refine tot_bind (sets_tot sets s 40) fun e _ he => ?_
  have he := he.2 ⟨by omega, hsets.all, hsets.shop⟩
  subst he
  refine tot_ifb (fun q => absurd q (by decide)) fun _ => ?_
  refine tot_ifb (fun q => ?_) fun _ => ?_
  · have q : (T.length : Int) ≠ sets.length := by simpa using q
    omega
  refine tot_allX (P := fun _ _ => True) (E := fun _ => False) (fun i t ht => ?_) (fun _ => ?_) (fun y hy => hy.elim)
  · have hi := (List.getElem?_eq_some_iff.1 ht).1
    have et : nth [] T (i : Int) = t := nth_nat [] ht
    have hch := h.ch i hi
    have hhm := h.hm i hi
    rw [et] at hch hhm
    have htl := ch_len hok hch
    unfold fleet_Inspect_b1
    refine tot_allX (P := fun _ _ => True) (E := fun _ => False) (fun k y hy => ?_) (fun _ => tot_some trivial) (fun y hy => hy.elim)
    have hk := (List.getElem?_eq_some_iff.1 hy).1
    have ey : nth 0 t (k : Int) = y := nth_nat 0 hy
    have iy := hch.ix (k : Int) (by omega) (by omega)
    rw [ey] at iy
    unfold fleet_Inspect_b2
    rw [w64_id (x := (l.length : Int) - 1) (by omega) (by omega), within_eq, decide_eq_true (by omega : 0 ≤ y ∧ y ≤ (l.length : Int) - 1)]
    simp only [Option.bind_some, Bool.not_true, ifb_false]
    refine tot_bind (P := fun b => b = false) ?_ fun b _ hb => ?_
    · cases k with
      | zero =>
        rw [show ((((0 : Nat) : Int)) == 0) = true from rfl, ifb_true, tk_idx iy.1 iy.2]
        simp only [Option.bind_some]
        rw [idx_nth xz (xs := sets) (i := (i : Int)) (by omega) (by omega)]
        simp only [Option.bind_some]
        rw [show decide (((0 : Nat) : Int) > 0) = false from rfl, ifb_false]
        have hne : t ≠ [] := List.length_pos_iff.1 (by omega)
        have := hhm hne
        rw [show nth 0 t 0 = y from ey] at this
        rw [show ((tk l y).From != (nth xz sets (i : Int)).Home) = false by simpa using this]
        exact tot_some rfl
      | succ k =>
        have hp := hch.ix (k : Int) (by omega) (by omega)
        have hnx := hch.nx (k : Int) (by omega) (by omega)
        rw [show (k : Int) + 1 = ((k + 1 : Nat) : Int) by omega, ey] at hnx
        rw [show ((((k + 1 : Nat) : Int)) == 0) = false by simp; omega, ifb_false, show decide (((k + 1 : Nat) : Int) > 0) = true from decide_eq_true (by omega), ifb_true, w64_id (by omega) (by omega), show ((k + 1 : Nat) : Int) - 1 = (k : Int) by omega, idx_nth 0 (xs := t) (i := (k : Int)) (by omega) (by omega)]
        simp only [Option.bind_some]
        rw [tk_idx hp.1 hp.2, tk_idx iy.1 iy.2]
        simp only [Option.bind_some]
        rw [follows_eq _ _ (by omega) (by omega) (hok.at hp.1 hp.2)]
        simp only [Option.bind_some]
        have t0 := hok.t0
        rw [decide_eq_true (⟨hnx.1, by have := hnx.2; omega⟩ : (tk l y).From = (tk l (nth 0 t (k : Int))).To ∧ (tk l (nth 0 t (k : Int))).Arr + 0 ≤ (tk l y).Dep)]
        exact tot_some rfl
    · subst hb
      exact tot_some trivial
  · refine tot_loopX (I := fun i o => o = outs l sets s T i) (J := fun o => o = outs l sets s T T.length) (E := fun _ => False) rfl (fun i t o ht hI => ?_) (fun o h => h) (fun o h => tot_some (by rw [h])) (fun y hy => hy.elim)
    subst hI
    have hi := (List.getElem?_eq_some_iff.1 ht).1
    have et : nth [] T (i : Int) = t := nth_nat [] ht
    have hch := h.ch i hi
    rw [et] at hch
    have hxo : SetOk (nth xz sets (i : Int)) s := hsets.all _ (nth_mem xz (by omega) (by omega))
    have hp := pos_eq hok.toTasksOk hch hsets.shop hxo (by have := ch_len hok hch; omega)
    have hgi := hg i hi
    rw [et] at hgi
    unfold fleet_Inspect_b3
    refine tot_bind' (idx_nth xz (by omega) (by omega)) ?_
    refine tot_bind' hp.1 ?_
    rw [hgi]
    simp only [Bool.not_true, ifb_false]
    refine tot_bind' (gapp_eq (by rw [outs_len]; simp; have : (5000 : Nat) ≤ apRoom := (by decide); omega) (by rw [outs_len]; simp; have : (1000 : Nat) ≤ maxLen := (by decide); omega)) ?_
    exact tot_some (by rw [outs_succ, et])
end
end Fl
