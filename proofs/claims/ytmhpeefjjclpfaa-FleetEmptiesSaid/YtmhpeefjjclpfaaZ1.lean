/- Tasks: what the checks say; the order of tasks. -/
import Derived.Test.YtmhpeefjjclpfaaZP
import Derived.Test.YtmhpeefjjclpfaaS1
set_option linter.unusedVariables false
set_option linter.unusedSimpArgs false
set_option maxRecDepth 100000
namespace Fl
open Go Hk Hd Pl Hs

def tz : S_fleet_Task := ⟨0, 0, 0, 0, 0, 0⟩
def tk (l : List S_fleet_Task) (i : Int) : S_fleet_Task := nth tz l i
structure TaskOk (t : S_fleet_Task) : Prop where
  f0 : 0 ≤ t.From
  f1 : t.From ≤ 11
  o0 : 0 ≤ t.To
  o1 : t.To ≤ 11
  d0 : 0 ≤ t.Dep
  da : t.Dep < t.Arr
  a1 : t.Arr ≤ 28800
  k0 : 0 ≤ t.Km
  k1 : t.Km ≤ 10000
  u0 : 1 ≤ t.Units
  u1 : t.Units ≤ 4
structure TasksOk (l : List S_fleet_Task) : Prop where
  len : l.length ≤ 40
  all : ∀ t ∈ l, TaskOk t
structure Ok (l : List S_fleet_Task) (turn : Int) : Prop extends TasksOk l where
  t0 : 0 ≤ turn
  t1 : turn ≤ 28800
theorem TasksOk.at {l : List S_fleet_Task} (h : TasksOk l) {i : Int} (h0 : 0 ≤ i) (h1 : i < l.length) : TaskOk (tk l i) := h.all _ (nth_mem tz h0 h1)
theorem tk_idx {l : List S_fleet_Task} {i : Int} (h0 : 0 ≤ i) (h1 : i < l.length) : idx l i = some (tk l i) := idx_nth tz h0 h1
theorem tk_get {l : List S_fleet_Task} {i : Nat} {x : S_fleet_Task} (h : l[i]? = some x) : tk l (i : Int) = x := nth_nat tz h
theorem within_eq (a b c : Int) : fleet_within a b c = some (decide (b ≤ a ∧ a ≤ c)) := by
  unfold fleet_within
  by_cases h : b ≤ a
  · rw [show decide (a ≥ b) = true from decide_eq_true h, ifb_true]; simp [h]
  · rw [show decide (a ≥ b) = false from decide_eq_false h, ifb_false]; simp [h]
theorem within_eq' (a b c : Int) : fishref2_within a b c = some (decide (b ≤ a ∧ a ≤ c)) := within_eq a b c
theorem fault_eq (l : List S_fleet_Task) : fishref2_TasksFault l = fleet_CheckTasks l := rfl
theorem tfault_eq (l : List S_fleet_Task) (turn : Int) : fishref2_TurnFault l turn = fleet_checkTurn l turn := rfl
theorem task_b1 (i : Nat) (x : S_fleet_Task) : Tot (fleet_CheckTasks_b1 i x ()) (fun c => match c with | .go _ => TaskOk x | .out (.go _) => False | .out (.out y) => y ≠ 0 ∧ ¬ TaskOk x) := by
  simp only [fleet_CheckTasks_b1, within_eq, Option.bind_some, tot_bind_iff, tot_ifb_iff, tot_some_iff]
  simp only [Bool.not_eq_true', Bool.not_eq_false', decide_eq_true_eq, decide_eq_false_iff_not]
  refine ⟨fun h => ?_, fun h => ?_⟩
  · simp only [true_implies, Bool.true_eq_false, false_implies, and_true]
    exact ⟨by decide, fun k => h ⟨k.f0, k.f1⟩⟩
  refine ⟨fun h2 => ?_, fun h2 => ?_⟩
  · simp only [true_implies, Bool.true_eq_false, false_implies, and_true]
    exact ⟨by decide, fun k => h2 ⟨k.o0, k.o1⟩⟩
  refine ⟨fun h3 => ?_, fun h3 => ?_⟩
  · simp only [true_implies, Bool.true_eq_false, false_implies, and_true]
    exact ⟨by decide, fun k => h3 ⟨k.d0, by have := k.da; have := k.a1; omega⟩⟩
  refine ⟨fun h4 => ⟨by decide, fun k => h4 ⟨by have := k.da; have := k.d0; omega, k.a1⟩⟩, fun h4 => ⟨fun h5 => ⟨by decide, fun k => by have := k.da; omega⟩, fun h5 => ⟨fun h6 => ?_, fun h6 => ?_⟩⟩⟩
  · simp only [true_implies, Bool.true_eq_false, false_implies, and_true]
    exact ⟨by decide, fun k => h6 ⟨k.k0, k.k1⟩⟩
  · exact ⟨fun h7 => ⟨by decide, fun k => h7 ⟨k.u0, k.u1⟩⟩, fun h7 => ⟨h.1, h.2, h2.1, h2.2, h3.1, by omega, h4.2, h6.1, h6.2, h7.1, h7.2⟩⟩
theorem tasks_tot (l : List S_fleet_Task) : Tot (fleet_CheckTasks l) (fun e => e = 0 ↔ TasksOk l) := by
  unfold fleet_CheckTasks
  refine tot_ifb (fun h => ?_) fun h => ?_
  · simp only [decide_eq_true_eq] at h
    exact tot_some ⟨fun h => (by cases h), fun k => (by have := k.len; omega)⟩
  · simp only [decide_eq_false_iff_not] at h
    refine tot_bind (P := fun c => match c with | .go _ => ∀ (i : Nat) x, l[i]? = some x → TaskOk x | .out y => y ≠ 0 ∧ ¬ TasksOk l) ?_ fun c _ hc => ?_
    · rw [forX_eq]
      refine tot_forC (I := fun k _ => ∀ (i : Nat) x, i < k → l[i]? = some x → TaskOk x) (fun i x h => by omega) (fun i x s hx hI => tot_mono (task_b1 i x) fun c hc => ?_) fun s hI i x hx => hI i x (List.getElem?_eq_some_iff.1 hx).1 hx
      rcases c with _ | (_ | y)
      · intro j y hj hy
        by_cases h : j = i
        · subst h; rw [hx] at hy; injection hy with hy; subst hy; exact hc
        · exact hI j y (by omega) hy
      · exact hc.elim
      · exact ⟨hc.1, fun k => hc.2 (k.all x (List.mem_of_getElem? hx))⟩
    · cases c with
      | go _ => exact tot_some ⟨fun _ => ⟨by omega, mem_of_all hc⟩, fun _ => rfl⟩
      | out y => exact tot_some ⟨fun e => absurd e hc.1, fun k => absurd k hc.2⟩
theorem turn_tot (l : List S_fleet_Task) (turn : Int) : Tot (fleet_checkTurn l turn) (fun e => e = 0 ↔ Ok l turn) := by
  unfold fleet_checkTurn
  refine tot_bind (tasks_tot l) fun e _ he => ?_
  refine tot_ifb (fun h => ?_) fun h => ?_
  · have h : e ≠ 0 := by simpa using h
    exact tot_some ⟨fun k => absurd k h, fun k => he.2 k.toTasksOk⟩
  · have h : e = 0 := by simpa using h
    rw [within_eq]
    simp only [Option.bind_some]
    refine tot_ifb (fun h2 => ?_) fun h2 => ?_
    · simp only [Bool.not_eq_true', decide_eq_false_iff_not] at h2
      exact tot_some ⟨fun k => (by cases k), fun k => absurd ⟨k.t0, k.t1⟩ h2⟩
    · simp only [Bool.not_eq_false', decide_eq_true_eq] at h2
      exact tot_some ⟨fun _ => ⟨he.1 h, h2.1, h2.2⟩, fun _ => rfl⟩
theorem turn_ok {l : List S_fleet_Task} {turn : Int} (h : Ok l turn) : fleet_checkTurn l turn = some 0 := by
  obtain ⟨e, h1, h2⟩ := turn_tot l turn
  rw [h1, h2.2 h]
theorem tasks_ok {l : List S_fleet_Task} (h : TasksOk l) : fleet_CheckTasks l = some 0 := by
  obtain ⟨e, h1, h2⟩ := tasks_tot l
  rw [h1, h2.2 h]

/-! ### the order -/
theorem symMn_eq (p : Option (List S_fleet_Task)) : ∀ (n : Nat) (a m b : Int) (l : List Int), slices_symMergeCmpFunc_int_n n a m b l p = symM_n (fun x y => fleet_order_1 x y p) n a m b l
  | 0, _, _, _, _ => rfl
  | n + 1, a, m, b, l => by
    have ih : (fun a m b l => slices_symMergeCmpFunc_int_n n a m b l p) = symM_n (fun x y => fleet_order_1 x y p) n := by funext a m b l; exact symMn_eq p n a m b l
    show slices_symMergeCmpFunc_int_step (slices_symMergeCmpFunc_int_n n) a m b l p = symM_step (fun x y => fleet_order_1 x y p) (symM_n (fun x y => fleet_order_1 x y p) n) a m b l
    rw [← ih]
    rfl
theorem symM_eq (p : Option (List S_fleet_Task)) (a m b : Int) (l : List Int) : slices_symMergeCmpFunc_int a m b l p = symM (fun x y => fleet_order_1 x y p) a m b l := symMn_eq p bigN a m b l
theorem sort_eq (p : Option (List S_fleet_Task)) (l : List Int) : slices_SortStableFunc_int_int l p = sortStable (fun x y => fleet_order_1 x y p) l := by
  have h3 : ∀ n s, slices_stableCmpFunc_int_b3 n p s = stab_b3 (fun x y => fleet_order_1 x y p) n s := fun n s => by
    funext t; unfold slices_stableCmpFunc_int_b3 stab_b3; rw [symM_eq]
  have h2 : ∀ n, slices_stableCmpFunc_int_b2 n p = stab_b2 (fun x y => fleet_order_1 x y p) n := fun n => by
    funext t; unfold slices_stableCmpFunc_int_b2 stab_b2; simp only [h3, symM_eq]
  unfold slices_SortStableFunc_int_int sortStable slices_stableCmpFunc_int stab
  simp only [h2]
  rfl
theorem compare_eq (a b : Int) : cmp_Compare_int a b = some (if a < b then -1 else if a > b then 1 else 0) := by
  unfold cmp_Compare_int cmp_isNaN_int
  simp only [bne_self_eq_false, Option.bind_some, ifb_false, ifb_dec]
  split
  · rfl
  · split <;> rfl
theorem order1_ok (l : List S_fleet_Task) : CmpOk (fun x y => fleet_order_1 x y (some l)) (fun i => 0 ≤ i ∧ i < l.length) (fun x y => (tk l x).Dep ≤ (tk l y).Dep) where
  tot a b := Int.le_total _ _
  tr a b c h1 h2 := Int.le_trans h1 h2
  ok a b ha hb := by
    refine ⟨if (tk l a).Dep < (tk l b).Dep then -1 else if (tk l a).Dep > (tk l b).Dep then 1 else 0, ?_, ?_⟩
    · simp only [fleet_order_1, Option.bind_some, tk_idx ha.1 ha.2, tk_idx hb.1 hb.2, compare_eq]
    · by_cases h : (tk l a).Dep < (tk l b).Dep
      · rw [if_pos h]; omega
      · rw [if_neg h]
        by_cases h2 : (tk l a).Dep > (tk l b).Dep
        · rw [if_pos h2]; omega
        · rw [if_neg h2]; omega
def ints (n : Nat) : List Int := (List.range n).map fun (i : Nat) => (i : Int)
theorem order_ok {l : List S_fleet_Task} (h : l.length ≤ 40) : Tot (fleet_order l) fun d => d.Perm (ints l.length) ∧ d.Pairwise fun x y => (tk l x).Dep ≤ (tk l y).Dep := by
  unfold fleet_order
  rw [gmake_eq (by omega) (by unfold mkRoom; omega) (by unfold maxLen; omega)]
  simp only [Option.bind_some, List.length_replicate, Int.toNat_natCast]
  refine tot_loopN (I := fun k s => s.length = l.length ∧ ∀ i : Nat, i < k → nth 0 s (i : Int) = i) (J := fun s => s = ints l.length) (E := fun _ => False) ⟨by simp, fun i h => by omega⟩ (fun i s hi hI => ?_) (fun s hI => ?_) (fun s hs => ?_) (fun _ h => h.elim)
  · obtain ⟨h1, h2⟩ := hI
    unfold fleet_order_b1
    rw [idx_nth 0 (xs := s) (by omega) (by omega)]
    refine tot_some ⟨by rw [setI_length]; exact h1, fun j hj => ?_⟩
    rw [nth_setI 0 (by omega) (by omega) (by omega)]
    by_cases hij : j = i
    · subst hij; rw [if_pos rfl]
    · rw [if_neg (by omega)]; exact h2 j (by omega)
  · obtain ⟨h1, h2⟩ := hI
    refine List.ext_getElem (by simp [ints, h1]) fun i a b => ?_
    have := h2 i (by omega)
    rw [nth_get 0 a] at this
    simp [ints, this]
  · subst hs
    rw [sort_eq]
    refine tot_bind (sortStable_ok (order1_ok l) (by simp [ints]; omega) fun x hx => ?_) fun d _ hd => tot_some hd
    simp only [ints, List.mem_map, List.mem_range] at hx
    obtain ⟨i, hi, rfl⟩ := hx
    omega
theorem mem_ints {n : Nat} {x : Int} : x ∈ ints n ↔ 0 ≤ x ∧ x < n := by
  simp only [ints, List.mem_map, List.mem_range]
  constructor
  · rintro ⟨i, hi, rfl⟩; omega
  · rintro ⟨h0, h1⟩; exact ⟨x.toNat, by omega, by omega⟩
theorem nodup_ints (n : Nat) : (ints n).Nodup := List.pairwise_map.2 (List.nodup_range.imp fun h e => h (by omega))
theorem follows_eq (a b : S_fleet_Task) {turn : Int} (h0 : 0 ≤ turn) (h1 : turn ≤ 28800) (ha : TaskOk a) : fleet_follows a b turn = some (decide (b.From = a.To ∧ a.Arr + turn ≤ b.Dep)) := by
  unfold fleet_follows
  have := ha.a1; have := ha.d0; have := ha.da
  rw [w64_id (x := a.Arr + turn) (by omega) (by omega)]
  by_cases h : b.From = a.To
  · rw [show (b.From == a.To) = true by simpa using h, ifb_true]; simp [h]
  · rw [show (b.From == a.To) = false by simpa using h, ifb_false]; simp [h]
end Fl

/- Turns: what the greedy turns are, and how many. -/
set_option linter.unusedVariables false
set_option linter.unusedSimpArgs false
set_option maxRecDepth 100000
namespace Fl
open Go Hk Hd Pl Hs

/-! ### sums over lists -/
def sL {α : Type} (f : α → Int) : List α → Int
  | [] => 0
  | x :: l => f x + sL f l
theorem sL_app {α : Type} (f : α → Int) : ∀ (l m : List α), sL f (l ++ m) = sL f l + sL f m
  | [], m => by simp [sL]
  | x :: l, m => by simp only [List.cons_append, sL, sL_app f l m]; omega
theorem sL_set {α : Type} (f : α → Int) (v : α) : ∀ (l : List α) (i : Nat) (h : i < l.length), sL f (l.set i v) = sL f l - f l[i] + f v
  | x :: l, 0, h => by simp only [List.set_cons_zero, sL, List.getElem_cons_zero]; omega
  | x :: l, i + 1, h => by
    simp only [List.set_cons_succ, sL, List.getElem_cons_succ]
    rw [sL_set f v l i (by simpa using h)]; omega
theorem sL_setI {α : Type} (z : α) (f : α → Int) (v : α) {l : List α} {i : Int} (h0 : 0 ≤ i) (h1 : i < l.length) : sL f (setI l i v) = sL f l - f (nth z l i) + f v := by
  unfold setI
  rw [sL_set f v l i.toNat (by omega)]
  have : nth z l i = l[i.toNat]'(by omega) := by unfold nth; rw [List.getElem?_eq_getElem (by omega)]; rfl
  rw [this]
theorem sL_cong {α : Type} {f g : α → Int} : ∀ {l : List α}, (∀ x ∈ l, f x = g x) → sL f l = sL g l
  | [], _ => rfl
  | x :: l, h => by simp only [sL]; rw [h x (by simp), sL_cong fun y hy => h y (by simp [hy])]
theorem sL_le {α : Type} {f g : α → Int} : ∀ {l : List α}, (∀ x ∈ l, f x ≤ g x) → sL f l ≤ sL g l
  | [], _ => Int.le_refl _
  | x :: l, h => by
    have h1 := h x (by simp); have h2 := sL_le (l := l) fun y hy => h y (by simp [hy])
    simp only [sL]; omega
theorem sL_zero {α : Type} (l : List α) : sL (fun _ => 0) l = 0 := by
  induction l with
  | nil => rfl
  | cons x l ih => simp [sL, ih]
theorem sL_one {α : Type} (l : List α) : sL (fun _ => 1) l = l.length := by
  induction l with
  | nil => rfl
  | cons x l ih => simp only [sL, ih, List.length_cons]; omega
theorem sL_nn {α : Type} {f : α → Int} {l : List α} (h : ∀ x ∈ l, 0 ≤ f x) : 0 ≤ sL f l := by
  have := sL_le (f := fun _ => 0) h
  rwa [sL_zero] at this
theorem sL_sumN {α : Type} (f : Nat → α → Int) (n : Nat) : ∀ l : List α, sL (fun x => sumN (fun j => f j x) n) l = sumN (fun j => sL (f j) l) n
  | [] => by simp only [sL]; rw [sumN_const]; simp
  | x :: l => by
    simp only [sL, sL_sumN f n l]
    induction n with
    | zero => simp [sumN]
    | succ n ih => simp only [sumN]; omega
theorem nth_snoc {α : Type} (z : α) (t : List α) (k : α) (i : Int) (h0 : 0 ≤ i) : nth z (t ++ [k]) i = if i < t.length then nth z t i else if i = t.length then k else z := by
  unfold nth
  by_cases h : i < t.length
  · rw [if_pos h, List.getElem?_append_left (by omega)]
  · rw [if_neg h]
    by_cases h2 : i = t.length
    · rw [if_pos h2, List.getElem?_append_right (by omega), show i.toNat - t.length = 0 by omega]; rfl
    · rw [if_neg h2, List.getElem?_eq_none (by simp; omega)]; rfl

/-! ### turns -/
def last (t : List Int) : Int := nth 0 t ((t.length : Int) - 1)
def Avail (l : List S_fleet_Task) (turn k : Int) (t : List Int) : Prop := (tk l k).From = (tk l (last t)).To ∧ (tk l (last t)).Arr + turn ≤ (tk l k).Dep
instance (l : List S_fleet_Task) (turn k : Int) (t : List Int) : Decidable (Avail l turn k t) := by unfold Avail; exact inferInstance
structure Chain (l : List S_fleet_Task) (turn : Int) (t : List Int) : Prop where
  ne : 1 ≤ t.length
  ix : ∀ i : Int, 0 ≤ i → i < t.length → 0 ≤ nth 0 t i ∧ nth 0 t i < l.length
  nx : ∀ i : Int, 0 ≤ i → i + 1 < t.length → (tk l (nth 0 t (i + 1))).From = (tk l (nth 0 t i)).To ∧ (tk l (nth 0 t i)).Arr + turn ≤ (tk l (nth 0 t (i + 1))).Dep
theorem Chain.last {l : List S_fleet_Task} {turn : Int} {t : List Int} (h : Chain l turn t) : 0 ≤ Fl.last t ∧ Fl.last t < l.length := by
  have := h.ne
  exact h.ix _ (by omega) (by omega)
theorem last_snoc (t : List Int) (k : Int) : last (t ++ [k]) = k := by
  unfold last
  rw [nth_snoc 0 t k _ (by simp), if_neg (by simp), if_pos (by simp)]
theorem Chain.snoc {l : List S_fleet_Task} {turn k : Int} {t : List Int} (h : Chain l turn t) (hk : 0 ≤ k ∧ k < l.length) (ha : Avail l turn k t) : Chain l turn (t ++ [k]) := by
  have hne := h.ne
  refine ⟨by simp, fun i h0 h1 => ?_, fun i h0 h1 => ?_⟩
  · rw [nth_snoc 0 t k i h0]
    simp only [List.length_append, List.length_singleton] at h1
    by_cases hi : i < t.length
    · rw [if_pos hi]; exact h.ix i h0 hi
    · rw [if_neg hi, if_pos (by omega)]; exact hk
  · simp only [List.length_append, List.length_singleton] at h1
    have e1 : nth 0 (t ++ [k]) i = nth 0 t i := by rw [nth_snoc 0 t k i h0, if_pos (by omega)]
    rw [e1, nth_snoc 0 t k (i + 1) (by omega)]
    by_cases hi : i + 1 < t.length
    · rw [if_pos hi]; exact h.nx i h0 hi
    · rw [if_neg hi, if_pos (by omega)]
      have : nth 0 t i = Fl.last t := by unfold Fl.last; congr 1; omega
      rw [this]; exact ha
theorem chain_one {l : List S_fleet_Task} {turn k : Int} (hk : 0 ≤ k ∧ k < l.length) : Chain l turn [k] :=
  ⟨by simp, fun i h0 h1 => by simp at h1; rw [show i = 0 by omega]; exact hk, fun i h0 h1 => by simp at h1; omega⟩
theorem head_snoc {t : List Int} (h : 1 ≤ t.length) (k : Int) : nth 0 (t ++ [k]) 0 = nth 0 t 0 := by rw [nth_snoc 0 t k 0 (by omega), if_pos (by omega)]

/-! ### what is counted -/
section
variable (l : List S_fleet_Task) (turn : Int)
def units (j : Nat) : Int := (tk l j).Units
def depS (p t : Int) (D : Nat → Int) : Int := sumN (fun j => if (tk l j).From = p ∧ (tk l j).Dep ≤ t then D j else 0) l.length
def arrS (p t : Int) (D : Nat → Int) : Int := sumN (fun j => if (tk l j).To = p ∧ (tk l j).Arr + turn ≤ t then D j else 0) l.length
def short (p t : Int) : Int := depS l p t (units l) - arrS l turn p t (units l)
def news (p : Int) (T : List (List Int)) : Int := sL (fun t => if (tk l (nth 0 t 0)).From = p then 1 else 0) T
def idle (p t : Int) (T : List (List Int)) : Int := sL (fun x => if (tk l (last x)).To = p ∧ (tk l (last x)).Arr + turn ≤ t then 1 else 0) T
/-- M is the greatest number of units that the place lacks -/
structure IsMax (p M : Int) : Prop where
  ub : ∀ t, short l turn p t ≤ M
  nn : 0 ≤ M
  att : M = 0 ∨ ∃ t, M ≤ short l turn p t
variable {l turn}
theorem IsMax.uniq {p M M' : Int} (h : IsMax l turn p M) (h' : IsMax l turn p M') : M = M' := by
  have key : ∀ {M M' : Int}, IsMax l turn p M → IsMax l turn p M' → M ≤ M' := fun h h' => by
    rcases h.att with e | ⟨t, ht⟩
    · rw [e]; exact h'.nn
    · exact Int.le_trans ht (h'.ub t)
  exact Int.le_antisymm (key h h') (key h' h)
def bump (D : Nat → Int) (k : Nat) : Nat → Int := fun j => if j = k then D j + 1 else D j
theorem depS_bump {p t : Int} {D : Nat → Int} {k : Nat} (hk : k < l.length) : depS l p t (bump D k) = depS l p t D + if (tk l k).From = p ∧ (tk l k).Dep ≤ t then 1 else 0 := by
  unfold depS
  rw [sumN_upd (f := fun j => if (tk l j).From = p ∧ (tk l j).Dep ≤ t then D j else 0) (g := fun j => if (tk l j).From = p ∧ (tk l j).Dep ≤ t then bump D k j else 0) hk fun i _ hi => by simp [bump, hi]]
  simp only [bump, if_true]
  split <;> omega
theorem arrS_bump {p t : Int} {D : Nat → Int} {k : Nat} (hk : k < l.length) : arrS l turn p t (bump D k) = arrS l turn p t D + if (tk l k).To = p ∧ (tk l k).Arr + turn ≤ t then 1 else 0 := by
  unfold arrS
  rw [sumN_upd (f := fun j => if (tk l j).To = p ∧ (tk l j).Arr + turn ≤ t then D j else 0) (g := fun j => if (tk l j).To = p ∧ (tk l j).Arr + turn ≤ t then bump D k j else 0) hk fun i _ hi => by simp [bump, hi]]
  simp only [bump, if_true]
  split <;> omega
variable (l turn)
/-- of the units D have turns, the latest of them at c -/
structure Inv (D : Nat → Int) (c : Int) (T : List (List Int)) : Prop where
  ch : ∀ t ∈ T, Chain l turn t
  cnt : ∀ j : Nat, j < l.length → sL (fun t => (t.count (j : Int) : Int)) T = D j
  bal : ∀ p t, c ≤ t → news l p T + arrS l turn p t D = depS l p t D + idle l turn p t T
  ub : ∀ p t, depS l p t D ≤ news l p T + arrS l turn p t D
  lb : ∀ p, news l p T = 0 ∨ ∃ t, news l p T ≤ short l turn p t
  le : ∀ j : Nat, j < l.length → D j ≤ units l j
variable {l turn}
theorem idle_nn (p t : Int) (T : List (List Int)) : 0 ≤ idle l turn p t T := sL_nn fun x _ => by split <;> omega
theorem news_nn (p : Int) (T : List (List Int)) : 0 ≤ news l p T := sL_nn fun x _ => by split <;> omega
theorem Inv.later {D : Nat → Int} {c c' : Int} {T : List (List Int)} (h : Inv l turn D c T) (hc : c ≤ c') : Inv l turn D c' T := { h with bal := fun p t ht => h.bal p t (by omega) }
theorem Inv.ubOf {D : Nat → Int} {k : Nat} {T T' : List (List Int)} (hok : Ok l turn) (hk : k < l.length) (h : ∀ p t, depS l p t D ≤ news l p T + arrS l turn p t D) (hn : ∀ p, news l p T ≤ news l p T')
    (hb : ∀ p t, (tk l k).Dep ≤ t → news l p T' + arrS l turn p t (bump D k) = depS l p t (bump D k) + idle l turn p t T') (p t : Int) : depS l p t (bump D k) ≤ news l p T' + arrS l turn p t (bump D k) := by
  by_cases ht : (tk l k).Dep ≤ t
  · have := hb p t ht; have := idle_nn (l := l) (turn := turn) p t T'; omega
  · have kk := hok.at (i := k) (by omega) (by omega)
    have := kk.da; have := hok.t0
    have h1 := h p t; have h2 := hn p
    rw [depS_bump hk, arrS_bump hk, if_neg (by omega), if_neg (by omega)]
    omega
/-- a unit of k in a turn that is there -/
theorem Inv.reuse {D : Nat → Int} {c : Int} {T : List (List Int)} {k : Nat} {b : Int} (h : Inv l turn D c T) (hok : Ok l turn) (hk : k < l.length) (hc : c ≤ (tk l k).Dep) (hD : D k < units l k) (hb0 : 0 ≤ b) (hb1 : b < T.length)
    (ha : Avail l turn k (nth [] T b)) : Inv l turn (bump D k) (tk l k).Dep (setI T b (nth [] T b ++ [(k : Int)])) := by
  have hch := h.ch _ (nth_mem [] hb0 hb1)
  have hne := hch.ne
  have nw : ∀ p, news l p (setI T b (nth [] T b ++ [(k : Int)])) = news l p T := fun p => by
    unfold news
    rw [sL_setI [] _ _ hb0 hb1, head_snoc hne]; omega
  have bl : ∀ p t, (tk l k).Dep ≤ t → news l p (setI T b (nth [] T b ++ [(k : Int)])) + arrS l turn p t (bump D k) = depS l p t (bump D k) + idle l turn p t (setI T b (nth [] T b ++ [(k : Int)])) := fun p t ht => by
    have h1 := h.bal p t (by omega)
    obtain ⟨a1, a2⟩ := ha
    rw [nw, arrS_bump hk, depS_bump hk]
    unfold idle
    rw [sL_setI [] _ _ hb0 hb1, last_snoc]
    unfold idle at h1
    by_cases hp : (tk l k).From = p
    · rw [if_pos (show (tk l k).From = p ∧ (tk l k).Dep ≤ t from ⟨hp, ht⟩), if_pos (show (tk l (Fl.last (nth [] T b))).To = p ∧ (tk l (Fl.last (nth [] T b))).Arr + turn ≤ t from ⟨by omega, by omega⟩)]
      omega
    · rw [if_neg (show ¬ ((tk l k).From = p ∧ (tk l k).Dep ≤ t) from fun q => hp q.1), if_neg (show ¬ ((tk l (Fl.last (nth [] T b))).To = p ∧ (tk l (Fl.last (nth [] T b))).Arr + turn ≤ t) from fun q => hp (by omega))]
      omega
  refine ⟨fun t ht => ?_, fun j hj => ?_, bl, fun p t => Inv.ubOf hok hk h.ub (fun p => by rw [nw]; exact Int.le_refl _) bl p t, fun p => by rw [nw]; exact h.lb p, fun j hj => ?_⟩
  · rcases mem_setI ht with rfl | ht
    · exact hch.snoc (by omega) ha
    · exact h.ch t ht
  · rw [sL_setI [] _ _ hb0 hb1, h.cnt j hj, List.count_append]
    simp only [bump, List.count_singleton, beq_iff_eq]
    by_cases e : j = k
    · subst e; simp; omega
    · rw [if_neg e, if_neg (by omega)]; simp
  · have := h.le j hj
    unfold bump
    split
    · rename_i e; subst e; omega
    · exact this
/-- a unit of k in a turn of its own -/
theorem Inv.fresh {D : Nat → Int} {c : Int} {T : List (List Int)} {k : Nat} (h : Inv l turn D c T) (hok : Ok l turn) (hk : k < l.length) (hc : c ≤ (tk l k).Dep) (hD : D k < units l k) (hf : ∀ j : Nat, j < l.length → (tk l j).Dep < (tk l k).Dep → D j = units l j)
    (ha : ∀ t ∈ T, ¬ Avail l turn k t) : Inv l turn (bump D k) (tk l k).Dep (T ++ [[(k : Int)]]) := by
  have nw : ∀ p, news l p (T ++ [[(k : Int)]]) = news l p T + if (tk l k).From = p then 1 else 0 := fun p => by
    unfold news
    rw [sL_app]; simp only [sL]
    rw [show nth 0 [(k : Int)] 0 = k from rfl]; omega
  have bl : ∀ p t, (tk l k).Dep ≤ t → news l p (T ++ [[(k : Int)]]) + arrS l turn p t (bump D k) = depS l p t (bump D k) + idle l turn p t (T ++ [[(k : Int)]]) := fun p t ht => by
    have h1 := h.bal p t (by omega)
    rw [nw, arrS_bump hk, depS_bump hk]
    unfold idle
    rw [sL_app]; simp only [sL]
    rw [show Fl.last [(k : Int)] = k from rfl]
    unfold idle at h1
    by_cases hp : (tk l k).From = p
    · rw [if_pos hp, if_pos (show (tk l k).From = p ∧ (tk l k).Dep ≤ t from ⟨hp, ht⟩)]; omega
    · rw [if_neg hp, if_neg (show ¬ ((tk l k).From = p ∧ (tk l k).Dep ≤ t) from fun q => hp q.1)]; omega
  have le' : ∀ j : Nat, j < l.length → bump D k j ≤ units l j := fun j hj => by
    have := h.le j hj
    unfold bump
    split
    · rename_i e; subst e; omega
    · exact this
  refine ⟨fun t ht => ?_, fun j hj => ?_, bl, fun p t => Inv.ubOf hok hk h.ub (fun p => by rw [nw]; split <;> omega) bl p t, fun p => ?_, le'⟩
  · rcases List.mem_append.1 ht with ht | ht
    · exact h.ch t ht
    · simp only [List.mem_singleton] at ht; subst ht; exact chain_one (by omega)
  · rw [sL_app, h.cnt j hj]
    simp only [sL, bump, List.count_singleton, beq_iff_eq]
    by_cases e : j = k
    · subst e; simp
    · rw [if_neg e, if_neg (by omega)]; simp
  · rw [nw]
    by_cases hp : (tk l k).From = p
    · rw [if_pos hp]
      refine .inr ⟨(tk l k).Dep, ?_⟩
      have h1 := h.bal p (tk l k).Dep hc
      have hi : idle l turn p (tk l k).Dep T = 0 := by
        unfold idle
        refine (sL_cong fun x hx => ?_).trans (sL_zero T)
        by_cases q : (tk l (Fl.last x)).To = p ∧ (tk l (Fl.last x)).Arr + turn ≤ (tk l k).Dep
        · exact absurd ⟨by omega, q.2⟩ (ha x hx)
        · rw [if_neg q]
      have ea : arrS l turn p (tk l k).Dep D = arrS l turn p (tk l k).Dep (units l) := sumN_eq fun j hj => by
        by_cases q : (tk l j).To = p ∧ (tk l j).Arr + turn ≤ (tk l k).Dep
        · rw [if_pos q, if_pos q]
          have := (hok.at (i := j) (by omega) (by omega)).da; have := hok.t0
          exact hf j hj (by omega)
        · rw [if_neg q, if_neg q]
      have ed : depS l p (tk l k).Dep (bump D k) ≤ depS l p (tk l k).Dep (units l) := sumN_le fun j hj => by
        split
        · exact le' j hj
        · omega
      rw [depS_bump hk, if_pos ⟨hp, Int.le_refl _⟩] at ed
      unfold short
      omega
    · rw [if_neg hp, Int.add_zero]; exact h.lb p

/-! ### the walk -/
theorem b3_eq {T : List (List Int)} {k : Nat} {s : Int} {i : Nat} {x : List Int} (hok : Ok l turn) (hk : k < l.length) (hT : ∀ t ∈ T, Chain l turn t) (hx : T[i]? = some x) (hs : s = -1 ∨ 0 ≤ s ∧ s < T.length) (hl : ∀ t ∈ T, t.length ≤ 160) :
    Tot (fleet_Turns_b3 l turn k T i x s) fun c => c = .go (i : Int) ∧ Avail l turn k x ∨ c = .go s ∧ (0 ≤ s ∨ ¬ Avail l turn k x) := by
  obtain ⟨hi, hxe⟩ := List.getElem?_eq_some_iff.1 hx
  have hch := hT x (List.mem_of_getElem? hx)
  have hne := hch.ne
  have hlx := hl x (List.mem_of_getElem? hx)
  have hla := hch.last
  unfold fleet_Turns_b3
  rw [idx_get hi, hxe]
  simp only [Option.bind_some]
  rw [w64_id (by omega) (by omega), idx_nth 0 (xs := x) (by omega) (by omega)]
  simp only [Option.bind_some]
  rw [show nth 0 x ((x.length : Int) - 1) = last x from rfl, tk_idx hla.1 hla.2, tk_idx (l := l) (i := (k : Int)) (by omega) (by omega)]
  have hkk := hok.at (i := k) (by omega) (by omega)
  have hlk := hok.at hla.1 hla.2
  simp only [Option.bind_some, follows_eq _ _ hok.t0 hok.t1 hlk]
  have hself : last x = k → ¬ Avail l turn k x := fun e a => by
    have := a.2; rw [e] at this; have := hkk.da; have := hok.t0; omega
  refine tot_bind (P := fun b => (b = true → Avail l turn k x) ∧ (b = false → 0 ≤ s ∨ ¬ Avail l turn k x)) ?_ fun b _ hb => ?_
  · refine tot_ifb (fun hne => ?_) fun he => ?_
    · have hne : last x ≠ k := by simpa using hne
      refine tot_ifb (fun hf => ?_) fun hf => ?_
      · have hf := of_decide_eq_true hf
        refine tot_ifb (fun hs0 => tot_some ⟨fun _ => hf, fun h => (by cases h)⟩) fun hs0 => ?_
        have hs0 := of_decide_eq_false hs0
        have hs1 : 0 ≤ s ∧ s < T.length := by omega
        have hc2 := hT _ (nth_mem [] hs1.1 hs1.2)
        have hn2 := hc2.ne
        have hl2 := hl _ (nth_mem [] hs1.1 hs1.2)
        have ha2 := hc2.last
        rw [idx_nth [] hs1.1 hs1.2]
        simp only [Option.bind_some]
        rw [w64_id (by omega) (by omega), idx_nth 0 (xs := nth [] T s) (by omega) (by omega)]
        simp only [Option.bind_some]
        rw [show nth 0 (nth [] T s) (((nth [] T s).length : Int) - 1) = last (nth [] T s) from rfl, tk_idx ha2.1 ha2.2]
        simp only [Option.bind_some]
        exact tot_some ⟨fun _ => hf, fun _ => .inl hs1.1⟩
      · have hf := of_decide_eq_false hf
        exact tot_some ⟨fun h => (by cases h), fun _ => .inr hf⟩
    · have he : last x = k := by simpa using he
      exact tot_some ⟨fun h => (by cases h), fun _ => .inr (hself he)⟩
  · refine tot_ifb (fun h => tot_some (.inl ⟨rfl, hb.1 h⟩)) fun h => tot_some (.inr ⟨rfl, hb.2 h⟩)
theorem b2_ok {T : List (List Int)} {k : Nat} {D : Nat → Int} {c : Int} {i : Nat} (hok : Ok l turn) (hk : k < l.length) (h : Inv l turn D c T) (hc : c ≤ (tk l k).Dep) (hD : D k < units l k) (hf : ∀ j : Nat, j < l.length → (tk l j).Dep < (tk l k).Dep → D j = units l j)
    {m : Nat} (hm : m < 160) (hl : T.length ≤ m ∧ ∀ t ∈ T, t.length ≤ m) :
    Tot (fleet_Turns_b2 l turn k i T) fun c => ∃ T', c = .go T' ∧ Inv l turn (bump D k) (tk l k).Dep T' ∧ T'.length ≤ m + 1 ∧ ∀ t ∈ T', t.length ≤ m + 1 := by
  unfold fleet_Turns_b2
  refine tot_loopX (I := fun i s => s = -1 ∧ (∀ j : Nat, j < i → ∀ x, T[j]? = some x → ¬ Avail l turn k x) ∨ 0 ≤ s ∧ s < T.length ∧ Avail l turn k (nth [] T s)) (J := fun s => s = -1 ∧ (∀ x ∈ T, ¬ Avail l turn k x) ∨ 0 ≤ s ∧ s < T.length ∧ Avail l turn k (nth [] T s)) (E := fun _ => False)
    (.inl ⟨rfl, fun j hj => by omega⟩) (fun i x s hx hI => ?_) (fun s hI => ?_) (fun s hJ => ?_) (fun _ h => h.elim)
  · have hi := (List.getElem?_eq_some_iff.1 hx).1
    refine tot_mono (b3_eq hok hk h.ch hx (hI.imp (·.1) fun q => ⟨q.1, q.2.1⟩) fun t ht => by have := hl.2 t ht; omega) fun c hc => ?_
    rcases hc with ⟨rfl, ha⟩ | ⟨rfl, ha⟩
    · exact .inr ⟨by omega, by omega, by rw [nth_nat [] hx]; exact ha⟩
    · rcases hI with ⟨e, hI⟩ | hI
      · refine .inl ⟨e, fun j hj y hy => ?_⟩
        by_cases q : j = i
        · subst q; rw [hx] at hy; injection hy with hy; subst hy
          rcases ha with ha | ha
          · omega
          · exact ha
        · exact hI j (by omega) y hy
      · exact .inr hI
  · rcases hI with ⟨e, hI⟩ | hI
    · refine .inl ⟨e, fun x hx => ?_⟩
      obtain ⟨j, hj⟩ := List.getElem?_of_mem hx
      exact hI j (List.getElem?_eq_some_iff.1 hj).1 x hj
    · exact .inr hI
  · rcases hJ with ⟨rfl, hJ⟩ | ⟨h0, h1, ha⟩
    · rw [show decide ((-1 : Int) < 0) = true from rfl, ifb_true, gapp_eq (by simp only [apRoom, List.length_singleton]; omega) (by simp only [maxLen, List.length_singleton]; omega)]
      simp only [Option.bind_some]
      have el : (((T ++ [([] : List Int)]).length : Nat) : Int) = T.length + 1 := by simp
      rw [el, w64_id (by omega) (by omega), show (T.length : Int) + 1 - 1 = T.length by omega]
      have e1 : idx (T ++ [([] : List Int)]) (T.length : Int) = some [] := by rw [idx_nth [] (by omega) (by rw [el]; omega), nth_snoc [] T [] _ (by omega), if_neg (by omega), if_pos rfl]
      rw [e1]
      simp only [Option.bind_some]
      rw [gapp_eq (by simp [apRoom]) (by simp [maxLen])]
      simp only [Option.bind_some, holeOk, if_true]
      have e2 : setI (T ++ [([] : List Int)]) (T.length : Int) ([] ++ [(k : Int)]) = T ++ [[(k : Int)]] := by simp [setI]
      rw [e2]
      refine tot_some ⟨_, rfl, h.fresh hok hk hc hD hf hJ, by simp; omega, fun t ht => ?_⟩
      rcases List.mem_append.1 ht with ht | ht
      · have := hl.2 t ht; omega
      · simp only [List.mem_singleton] at ht; subst ht; simp
    · have hlt := hl.2 _ (nth_mem [] h0 h1)
      rw [show decide (s < 0) = false from decide_eq_false (by omega), ifb_false]
      simp only [Option.bind_some]
      rw [idx_nth [] h0 h1]
      simp only [Option.bind_some]
      rw [gapp_eq (by simp only [apRoom, List.length_singleton]; omega) (by simp only [maxLen, List.length_singleton]; omega)]
      simp only [Option.bind_some, holeOk, if_true]
      refine tot_some ⟨_, rfl, h.reuse hok hk hc hD h0 h1 ha, by rw [setI_length]; omega, fun t ht => ?_⟩
      rcases mem_setI ht with rfl | ht
      · simp; omega
      · have := hl.2 t ht; omega
variable (l turn)
/-- what Turns gives -/
structure TurnsOk (T : List (List Int)) : Prop where
  ch : ∀ t ∈ T, Chain l turn t
  cnt : ∀ j : Nat, j < l.length → sL (fun t => (t.count (j : Int) : Int)) T = units l j
  mx : ∀ p, IsMax l turn p (news l p T)
  len : T.length ≤ 160
  lens : ∀ t ∈ T, t.length ≤ 160
variable {l turn}
theorem b1_ok {T : List (List Int)} {k : Nat} {D : Nat → Int} {c : Int} {i : Nat} (hok : Ok l turn) (hk : k < l.length) (h : Inv l turn D c T) (hc : c ≤ (tk l k).Dep) (hD : D k = 0) (hf : ∀ j : Nat, j < l.length → (tk l j).Dep < (tk l k).Dep → D j = units l j)
    {m : Nat} (hm : m + 4 ≤ 160) (hl : T.length ≤ m ∧ ∀ t ∈ T, t.length ≤ m) :
    Tot (fleet_Turns_b1 l turn i k T) fun c => ∃ T', c = .go T' ∧ Inv l turn (fun j => if j = k then units l k else D j) (tk l k).Dep T' ∧ T'.length ≤ m + 4 ∧ ∀ t ∈ T', t.length ≤ m + 4 := by
  have kk := hok.at (i := k) (by omega) (by omega)
  have u0 := kk.u0; have u1 := kk.u1
  unfold fleet_Turns_b1
  rw [tk_idx (l := l) (i := (k : Int)) (by omega) (by omega)]
  simp only [Option.bind_some]
  rw [glim_eq (by omega)]
  simp only [Option.bind_some]
  have hu : units l k = (tk l k).Units := rfl
  refine tot_loopN (I := fun u s => ∃ c', c' ≤ (tk l k).Dep ∧ Inv l turn (fun j => if j = k then (u : Int) else D j) c' s ∧ s.length ≤ m + u ∧ ∀ t ∈ s, t.length ≤ m + u)
    (J := fun s => ∃ c', c' ≤ (tk l k).Dep ∧ Inv l turn (fun j => if j = k then units l k else D j) c' s ∧ s.length ≤ m + 4 ∧ ∀ t ∈ s, t.length ≤ m + 4) (E := fun _ => False)
    ⟨c, hc, by
      have : (fun j => if j = k then ((0 : Nat) : Int) else D j) = D := by
        funext j
        by_cases e : j = k
        · subst e; rw [if_pos rfl, hD]; rfl
        · rw [if_neg e]
      rw [this]; exact h, hl⟩ (fun u s hu' hI => ?_) (fun s hI => ?_) (fun s hJ => ?_) (fun _ h => h.elim)
  · obtain ⟨c', h1, h2, h3⟩ := hI
    refine tot_mono (b2_ok hok hk h2 h1 (by rw [if_pos rfl]; omega) (fun j hj hd => ?_) (m := m + u) (by omega) h3) fun c hc => ?_
    · have e : j ≠ k := fun e => by subst e; omega
      rw [if_neg e]; exact hf j hj hd
    · obtain ⟨T', rfl, g1, g2, g3⟩ := hc
      refine ⟨_, Int.le_refl _, ?_, by omega, fun t ht => by have := g3 t ht; omega⟩
      have : bump (fun j => if j = k then (u : Int) else D j) k = fun j => if j = k then ((u + 1 : Nat) : Int) else D j := by
        funext j
        unfold bump
        by_cases e : j = k
        · subst e; simp
        · simp only [if_neg e]
      rw [this] at g1; exact g1
  · obtain ⟨c', h1, h2, h3, h4⟩ := hI
    refine ⟨c', h1, ?_, by omega, fun t ht => by have := h4 t ht; omega⟩
    rwa [show (((tk l k).Units.toNat : Nat) : Int) = units l k by omega] at h2
  · obtain ⟨c', h1, h2, h3, h4⟩ := hJ
    exact tot_some ⟨_, rfl, h2.later h1, h3, h4⟩
theorem inv0 (hok : Ok l turn) : Inv l turn (fun _ => 0) (-1) [] := by
  have d0 : ∀ p t, depS l p t (fun _ => 0) = 0 := fun p t => by
    unfold depS
    rw [sumN_eq (g := fun _ => 0) fun i _ => by split <;> rfl, sumN_const]; simp
  have a0 : ∀ p t, arrS l turn p t (fun _ => 0) = 0 := fun p t => by
    unfold arrS
    rw [sumN_eq (g := fun _ => 0) fun i _ => by split <;> rfl, sumN_const]; simp
  exact ⟨fun t ht => by simp at ht, fun j _ => rfl, fun p t _ => by rw [d0, a0]; rfl, fun p t => by rw [d0, a0]; exact Int.le_refl _, fun p => .inl rfl, fun j hj => by
    have := (hok.at (i := j) (by omega) (by omega)).u0
    unfold units; omega⟩
end
theorem nodup_at {d : List Int} (h : d.Nodup) {i j : Nat} {x : Int} (hi : d[i]? = some x) (hj : d[j]? = some x) : i = j := by
  obtain ⟨h1, e1⟩ := List.getElem?_eq_some_iff.1 hi
  obtain ⟨h2, e2⟩ := List.getElem?_eq_some_iff.1 hj
  rcases Nat.lt_trichotomy i j with q | q | q
  · exact absurd (e1.trans e2.symm) (List.pairwise_iff_getElem.1 h i j h1 h2 q)
  · exact q
  · exact absurd (e2.trans e1.symm) (List.pairwise_iff_getElem.1 h j i h2 h1 q)
theorem turns_ok {l : List S_fleet_Task} {turn : Int} (hok : Ok l turn) : Tot (fleet_Turns l turn) fun r => r.2 = 0 ∧ TurnsOk l turn r.1 := by
  have hlen := hok.len
  unfold fleet_Turns
  rw [turn_ok hok]
  simp only [Option.bind_some]
  rw [show ((0 : Int) != 0) = false from rfl, ifb_false]
  refine tot_bind (order_ok hlen) fun d _ hd => ?_
  obtain ⟨hp, hs⟩ := hd
  have hdl : d.length = l.length := by rw [hp.length_eq]; simp [ints]
  have hnd : d.Nodup := hp.nodup_iff.2 (nodup_ints _)
  have hmem : ∀ x, x ∈ d ↔ 0 ≤ x ∧ x < l.length := fun x => by rw [hp.mem_iff, mem_ints]
  -- done: those ahead of a place in the order
  have hat : ∀ (i : Nat) (x : Int), d[i]? = some x → ∃ k : Nat, x = k ∧ k < l.length := fun i x hx => by
    have := (hmem x).1 (List.mem_of_getElem? hx)
    exact ⟨x.toNat, by omega, by omega⟩
  refine tot_loopX (I := fun i s => ∃ c, Inv l turn (fun j => if (∃ i', i' < i ∧ d[i']? = some (j : Int)) then units l j else 0) c s ∧ (∀ (i' : Nat) (x : Int), i ≤ i' → d[i']? = some x → c ≤ (tk l x).Dep) ∧ s.length ≤ 4 * i ∧ ∀ t ∈ s, t.length ≤ 4 * i)
    (J := fun s => TurnsOk l turn s) (E := fun _ => False) ⟨-1, ?_, fun i' x _ hx => ?_, by simp, fun t ht => by simp at ht⟩ (fun i x s hx hI => ?_) (fun s hI => ?_) (fun s hs => tot_some ⟨rfl, hs⟩) (fun _ h => h.elim)
  · have : (fun j : Nat => if (∃ i', i' < 0 ∧ d[i']? = some (j : Int)) then units l j else 0) = fun _ => 0 := by
      funext j; rw [if_neg]; rintro ⟨i', h, _⟩; omega
    rw [this]; exact inv0 hok
  · obtain ⟨k, rfl, hk⟩ := hat i' x hx
    have := (hok.at (i := (k : Int)) (by omega) (by omega)).d0
    omega
  · obtain ⟨k, rfl, hk⟩ := hat i x hx
    obtain ⟨c, h1, h2, h3, h4⟩ := hI
    have hi := (List.getElem?_eq_some_iff.1 hx).1
    refine tot_mono (b1_ok (i := i) hok hk h1 (h2 i _ (Nat.le_refl _) hx) (if_neg ?_) (fun j hj hd' => ?_) (m := 4 * i) (by omega) ⟨h3, h4⟩) fun c' hc' => ?_
    · rintro ⟨i', a, b⟩
      have := nodup_at hnd b hx
      omega
    · refine if_pos ?_
      obtain ⟨i', hi'⟩ := List.getElem?_of_mem ((hmem (j : Int)).2 (by omega))
      refine ⟨i', ?_, hi'⟩
      rcases Nat.lt_trichotomy i' i with h | h | h
      · exact h
      · subst h; rw [hx] at hi'; injection hi' with hi'; rw [hi'] at hd'; omega
      · obtain ⟨a1, e1⟩ := List.getElem?_eq_some_iff.1 hi'
        obtain ⟨a2, e2⟩ := List.getElem?_eq_some_iff.1 hx
        have := List.pairwise_iff_getElem.1 hs i i' a2 a1 h
        rw [e1, e2] at this; omega
    · obtain ⟨T', rfl, g1, g2, g3⟩ := hc'
      refine ⟨(tk l k).Dep, ?_, fun i' x' hi' hx' => ?_, by omega, fun t ht => by have := g3 t ht; omega⟩
      · have : (fun j : Nat => if j = k then units l k else if (∃ i', i' < i ∧ d[i']? = some (j : Int)) then units l j else 0) = fun j : Nat => if (∃ i', i' < i + 1 ∧ d[i']? = some (j : Int)) then units l j else 0 := by
          funext j
          by_cases e : j = k
          · subst e; rw [if_pos rfl, if_pos ⟨i, by omega, hx⟩]
          · rw [if_neg e]
            by_cases q : ∃ i', i' < i ∧ d[i']? = some (j : Int)
            · obtain ⟨i', a, b⟩ := q
              rw [if_pos ⟨i', a, b⟩, if_pos ⟨i', by omega, b⟩]
            · rw [if_neg q, if_neg]
              rintro ⟨i', a, b⟩
              by_cases e2 : i' = i
              · subst e2; rw [hx] at b; injection b with b; omega
              · exact q ⟨i', by omega, b⟩
        rw [this] at g1; exact g1
      · obtain ⟨a1, e1⟩ := List.getElem?_eq_some_iff.1 hx'
        obtain ⟨a2, e2⟩ := List.getElem?_eq_some_iff.1 hx
        have := List.pairwise_iff_getElem.1 hs i i' a2 a1 (by omega)
        rwa [e1, e2] at this
  · obtain ⟨c, h1, _, h3, h4⟩ := hI
    have all : ∀ j : Nat, j < l.length → (if (∃ i', i' < d.length ∧ d[i']? = some (j : Int)) then units l j else 0) = units l j := fun j hj => by
      obtain ⟨i', hi'⟩ := List.getElem?_of_mem ((hmem (j : Int)).2 (by omega))
      exact if_pos ⟨i', (List.getElem?_eq_some_iff.1 hi').1, hi'⟩
    have ea : ∀ p t, arrS l turn p t (fun j => if (∃ i', i' < d.length ∧ d[i']? = some (j : Int)) then units l j else 0) = arrS l turn p t (units l) := fun p t => sumN_eq fun j hj => by simp only [all j hj]
    have ed : ∀ p t, depS l p t (fun j => if (∃ i', i' < d.length ∧ d[i']? = some (j : Int)) then units l j else 0) = depS l p t (units l) := fun p t => sumN_eq fun j hj => by simp only [all j hj]
    refine ⟨h1.ch, fun j hj => by rw [h1.cnt j hj, all j hj], fun p => ⟨fun t => ?_, news_nn p s, h1.lb p⟩, by omega, fun t ht => by have := h4 t ht; omega⟩
    have := h1.ub p t
    rw [ea, ed] at this
    unfold short; omega
end Fl

/- The moments; what is legal; tasks turned about. -/
set_option linter.unusedVariables false
set_option linter.unusedSimpArgs false
set_option maxRecDepth 100000
namespace Fl
open Go Hk Hd Pl Hs

section
variable {l : List S_fleet_Task} {turn : Int}
def partS (l : List S_fleet_Task) (turn p t : Int) (i : Nat) : Int :=
  sumN (fun j => (if (tk l j).From = p ∧ (tk l j).Dep ≤ t then units l j else 0) - if (tk l j).To = p ∧ (tk l j).Arr + turn ≤ t then units l j else 0) i
theorem sumN_sub (f g : Nat → Int) (n : Nat) : sumN (fun j => f j - g j) n = sumN f n - sumN g n := by
  induction n with
  | zero => rfl
  | succ n ih => simp only [sumN, ih]; omega
theorem partS_all (p t : Int) : partS l turn p t l.length = short l turn p t := sumN_sub _ _ _
theorem partS_bd (hok : Ok l turn) (p t : Int) : ∀ i : Nat, i ≤ l.length → -(4 * i) ≤ partS l turn p t i ∧ partS l turn p t i ≤ 4 * i
  | 0, _ => by simp [partS, sumN]
  | i + 1, hi => by
    have := partS_bd hok p t i (by omega)
    have u := hok.at (i := i) (by omega) (by omega)
    have u0 := u.u0; have u1 := u.u1
    unfold partS at this ⊢
    simp only [sumN, units]
    simp only [units] at this
    split <;> split <;> omega
theorem units_bd (hok : Ok l turn) {j : Nat} (hj : j < l.length) : 1 ≤ units l j ∧ units l j ≤ 4 := by
  have u := hok.at (i := j) (by omega) (by omega)
  exact ⟨u.u0, u.u1⟩
theorem mo3_ok (hok : Ok l turn) {s9 : Int × List S_fleet_Moment} {x : S_fleet_Task} {F : Int → Option (Ctl (Int × Int) (Ctl (Int × Int) Empty))} {H : Empty → Option (Ctl (Int × Int) (Ctl (Int × Int) Empty))} {Q : Ctl (Int × Int) (Ctl (Int × Int) Empty) → Prop}
    (hF : Tot (F (short l turn s9.1 x.Dep)) Q) : Tot ((forX (fleet_Moments_b3 turn s9 x) l 0).bind fun c => Ctl.on c F H) Q := by
  have hlen := hok.len
  refine tot_loopX (I := fun i s => s = partS l turn s9.1 x.Dep i) (J := fun s => s = short l turn s9.1 x.Dep) (E := fun _ => False) rfl (fun i y s hy hI => ?_) (fun s hI => by rw [hI]; exact partS_all _ _) (fun s hs => by rw [hs]; exact hF) (fun _ h => h.elim)
  subst hI
  obtain ⟨hi, _⟩ := List.getElem?_eq_some_iff.1 hy
  have e := tk_get hy
  have kk := hok.at (i := i) (by omega) (by omega)
  have b1 := partS_bd hok s9.1 x.Dep i (by omega)
  have u := units_bd hok hi
  have d0 := kk.d0; have da := kk.da; have a1 := kk.a1; have t0 := hok.t0; have t1 := hok.t1
  unfold fleet_Moments_b3
  rw [← e, w64_id (x := (tk l i).Arr + turn) (by omega) (by omega)]
  have hu : (tk l i).Units = units l i := rfl
  rw [hu]
  have e1 : (ifb ((tk l i).From == s9.1) (some (decide ((tk l i).Dep ≤ x.Dep))) (some false)) = some (decide ((tk l i).From = s9.1 ∧ (tk l i).Dep ≤ x.Dep)) := by
    by_cases q : (tk l i).From = s9.1
    · rw [show ((tk l i).From == s9.1) = true by simpa using q, ifb_true]; simp [q]
    · rw [show ((tk l i).From == s9.1) = false by simpa using q, ifb_false]; simp [q]
  have e2 : (ifb ((tk l i).To == s9.1) (some (decide ((tk l i).Arr + turn ≤ x.Dep))) (some false)) = some (decide ((tk l i).To = s9.1 ∧ (tk l i).Arr + turn ≤ x.Dep)) := by
    by_cases q : (tk l i).To = s9.1
    · rw [show ((tk l i).To == s9.1) = true by simpa using q, ifb_true]; simp [q]
    · rw [show ((tk l i).To == s9.1) = false by simpa using q, ifb_false]; simp [q]
  rw [e1, e2]
  simp only [Option.bind_some, ifb_dec]
  have e3 : partS l turn s9.1 x.Dep (i + 1) = partS l turn s9.1 x.Dep i + ((if (tk l i).From = s9.1 ∧ (tk l i).Dep ≤ x.Dep then units l i else 0) - if (tk l i).To = s9.1 ∧ (tk l i).Arr + turn ≤ x.Dep then units l i else 0) := rfl
  have v1 := w64_id (x := partS l turn s9.1 x.Dep i + units l i) (by omega) (by omega)
  have v2 := w64_id (x := partS l turn s9.1 x.Dep i - units l i) (by omega) (by omega)
  have v3 := w64_id (x := partS l turn s9.1 x.Dep i + units l i - units l i) (by omega) (by omega)
  by_cases q1 : (tk l i).From = s9.1 ∧ (tk l i).Dep ≤ x.Dep <;> by_cases q2 : (tk l i).To = s9.1 ∧ (tk l i).Arr + turn ≤ x.Dep
  · simp only [if_pos q1, if_pos q2, Option.bind_some, v1, v3]; exact tot_some (by show _ = partS l turn s9.1 x.Dep (i + 1); rw [e3, if_pos q1, if_pos q2]; omega)
  · simp only [if_pos q1, if_neg q2, Option.bind_some, v1]; exact tot_some (by show _ = partS l turn s9.1 x.Dep (i + 1); rw [e3, if_pos q1, if_neg q2]; omega)
  · simp only [if_neg q1, if_pos q2, Option.bind_some, v2]; exact tot_some (by show _ = partS l turn s9.1 x.Dep (i + 1); rw [e3, if_neg q1, if_pos q2]; omega)
  · simp only [if_neg q1, if_neg q2, Option.bind_some]; exact tot_some (by show _ = partS l turn s9.1 x.Dep (i + 1); rw [e3, if_neg q1, if_neg q2]; omega)
/-- what a place lacks by a second is at most what it lacks at a departure -/
theorem short_le (hok : Ok l turn) {p M : Int} (h0 : 0 ≤ M) (hM : ∀ k : Nat, k < l.length → short l turn p (tk l k).Dep ≤ M) (t : Int) : short l turn p t ≤ M := by
  -- the last departure up to t
  have key : ∀ n : Nat, n ≤ l.length → (∀ j : Nat, j < n → ¬ ((tk l j).From = p ∧ (tk l j).Dep ≤ t)) ∨ ∃ k : Nat, k < n ∧ (tk l k).From = p ∧ (tk l k).Dep ≤ t ∧ ∀ j : Nat, j < n → (tk l j).From = p → (tk l j).Dep ≤ t → (tk l j).Dep ≤ (tk l k).Dep := by
    intro n
    induction n with
    | zero => intro _; exact .inl fun j hj => by omega
    | succ n ih =>
      intro hn
      by_cases q : (tk l n).From = p ∧ (tk l n).Dep ≤ t
      · rcases ih (by omega) with h | ⟨k, h1, h2, h3, h4⟩
        · exact .inr ⟨n, by omega, q.1, q.2, fun j hj a b => by
            by_cases e : j = n
            · subst e; omega
            · exact absurd ⟨a, b⟩ (h j (by omega))⟩
        · by_cases c : (tk l k).Dep ≤ (tk l n).Dep
          · exact .inr ⟨n, by omega, q.1, q.2, fun j hj a b => by
              by_cases e : j = n
              · subst e; omega
              · have := h4 j (by omega) a b; omega⟩
          · exact .inr ⟨k, by omega, h2, h3, fun j hj a b => by
              by_cases e : j = n
              · subst e; omega
              · exact h4 j (by omega) a b⟩
      · rcases ih (by omega) with h | ⟨k, h1, h2, h3, h4⟩
        · exact .inl fun j hj => by
            by_cases e : j = n
            · subst e; exact q
            · exact h j (by omega)
        · exact .inr ⟨k, by omega, h2, h3, fun j hj a b => by
            by_cases e : j = n
            · subst e; exact absurd ⟨a, b⟩ q
            · exact h4 j (by omega) a b⟩
  have an : ∀ t, 0 ≤ arrS l turn p t (units l) := fun t => sumN_pos fun j hj => by
    have := units_bd hok hj
    split <;> omega
  rcases key l.length (Nat.le_refl _) with h | ⟨k, h1, h2, h3, h4⟩
  · have : depS l p t (units l) = 0 := by
      unfold depS
      rw [sumN_eq (g := fun _ => 0) fun j hj => if_neg (h j hj), sumN_const]; simp
    have := an t
    unfold short; omega
  · have e1 : depS l p t (units l) = depS l p (tk l k).Dep (units l) := sumN_eq fun j hj => by
      by_cases q : (tk l j).From = p ∧ (tk l j).Dep ≤ t
      · rw [if_pos q, if_pos ⟨q.1, h4 j hj q.1 q.2⟩]
      · rw [if_neg q, if_neg fun c => q ⟨c.1, by omega⟩]
    have e2 : arrS l turn p (tk l k).Dep (units l) ≤ arrS l turn p t (units l) := sumN_le fun j hj => by
      have := units_bd hok hj
      by_cases q : (tk l j).To = p ∧ (tk l j).Arr + turn ≤ (tk l k).Dep
      · rw [if_pos q, if_pos ⟨q.1, by omega⟩]; exact Int.le_refl _
      · rw [if_neg q]; split <;> omega
    have := hM k h1
    unfold short at this ⊢; omega
theorem short_bd (hok : Ok l turn) (p t : Int) : short l turn p t ≤ 160 := by
  have := partS_bd hok p t l.length (Nat.le_refl _)
  rw [partS_all] at this
  have := hok.len
  omega
def sumS (ms : List S_fleet_Moment) : Int := sL (fun m => m.Short) ms
theorem moments_ok (hok : Ok l turn) : Tot (fleet_Moments l turn) fun r => r.1 = 0 ∧ r.2.length ≤ 12 ∧ (∀ m ∈ r.2, 0 ≤ m.Short ∧ m.Short ≤ 160) ∧ ∃ M : Nat → Int, (∀ p : Nat, p < 12 → IsMax l turn p (M p)) ∧ sumS r.2 = sumN M 12 := by
  have hlen := hok.len
  unfold fleet_Moments
  rw [turn_ok hok]
  simp only [Option.bind_some]
  rw [show ((0 : Int) != 0) = false from rfl, ifb_false]
  refine tot_wh (I := fun s => ∃ (n : Nat) (M : Nat → Int), s.1 = n ∧ n ≤ 12 ∧ s.2.length ≤ n ∧ (∀ m ∈ s.2, 0 ≤ m.Short ∧ m.Short ≤ 160) ∧ (∀ p : Nat, p < n → IsMax l turn p (M p)) ∧ sumS s.2 = sumN M n) (μ := fun s => (12 - s.1).toNat)
    (J := fun s => s.length ≤ 12 ∧ (∀ m ∈ s, 0 ≤ m.Short ∧ m.Short ≤ 160) ∧ ∃ M : Nat → Int, (∀ p : Nat, p < 12 → IsMax l turn p (M p)) ∧ sumS s = sumN M 12) (E := fun _ => False)
    ⟨0, fun _ => 0, rfl, by omega, by simp, fun m hm => by simp at hm, fun p hp => by omega, rfl⟩ (Nat.lt_of_le_of_lt (by simp only; omega) big) ?_ (fun s hs => tot_some ⟨rfl, hs⟩) (fun _ h => h.elim)
  rintro ⟨p, ms⟩ ⟨n, M, e, h1, h2, h3, h4, h5⟩
  simp only at e h2 h3 h5
  subst e
  unfold fleet_Moments_b1
  simp only
  refine tot_ifb (fun hlt => ?_) fun hge => ?_
  · have hlt := of_decide_eq_true hlt
    rw [w64_id (x := (n : Int) + 1) (by omega) (by omega)]
    refine tot_bind (P := fun ms' => ∃ m : Int, IsMax l turn n m ∧ ms'.length ≤ n + 1 ∧ (∀ m ∈ ms', 0 ≤ m.Short ∧ m.Short ≤ 160) ∧ sumS ms' = sumS ms + m) ?_ fun ms' _ h => ?_
    · refine tot_bind (order_ok hlen) fun d _ hd => ?_
      obtain ⟨hp, hs⟩ := hd
      have hmem : ∀ x, x ∈ d ↔ 0 ≤ x ∧ x < l.length := fun x => by rw [hp.mem_iff, mem_ints]
      refine tot_loopX (I := fun i s => 0 ≤ s.2 ∧ (∀ (i' : Nat) x, i' < i → d[i']? = some x → short l turn n (tk l x).Dep ≤ s.2) ∧ (s.2 = 0 ∨ ∃ t, s.2 = short l turn n t))
        (J := fun s => IsMax l turn n s.2 ∧ s.2 ≤ 160) (E := fun _ => False) ⟨by simp, fun i' x h => by omega, .inl rfl⟩ (fun i x s hx hI => ?_) (fun s hI => ?_) (fun s hs => ?_) (fun _ h => h.elim)
      · obtain ⟨a1, a2, a3⟩ := hI
        have hxm := (hmem x).1 (List.mem_of_getElem? hx)
        unfold fleet_Moments_b2
        rw [tk_idx hxm.1 hxm.2]
        simp only [Option.bind_some]
        refine mo3_ok hok ?_
        simp only
        refine tot_ifb (fun q => ?_) fun q => ?_
        · have q := of_decide_eq_true q
          refine tot_some ⟨by show 0 ≤ short l turn n (tk l x).Dep; omega, fun i' y hi' hy => ?_, .inr ⟨_, rfl⟩⟩
          by_cases e : i' = i
          · subst e; rw [hx] at hy; injection hy with hy; subst hy; exact Int.le_refl _
          · have := a2 i' y (by omega) hy; simp only; omega
        · have q := of_decide_eq_false q
          refine tot_some ⟨a1, fun i' y hi' hy => ?_, a3⟩
          by_cases e : i' = i
          · subst e; rw [hx] at hy; injection hy with hy; subst hy; simp only; omega
          · exact a2 i' y (by omega) hy
      · obtain ⟨a1, a2, a3⟩ := hI
        refine ⟨⟨fun t => short_le hok a1 (fun k hk => ?_) t, a1, a3.imp id fun ⟨t, h⟩ => ⟨t, by omega⟩⟩, ?_⟩
        · obtain ⟨i', hi'⟩ := List.getElem?_of_mem ((hmem (k : Int)).2 (by omega))
          exact a2 i' _ (List.getElem?_eq_some_iff.1 hi').1 hi'
        · rcases a3 with h | ⟨t, h⟩
          · omega
          · rw [h]; exact short_bd hok _ _
      · obtain ⟨b1, b2⟩ := hs
        refine tot_ifb (fun q => ?_) fun q => ?_
        · rw [gapp_eq (by simp only [apRoom, List.length_singleton]; omega) (by simp only [maxLen, List.length_singleton]; omega)]
          refine tot_some ⟨s.2, b1, by simp; omega, fun m hm => ?_, by unfold sumS; rw [sL_app]; simp only [sL]; omega⟩
          rcases List.mem_append.1 hm with hm | hm
          · exact h3 m hm
          · simp only [List.mem_singleton] at hm; subst hm; exact ⟨b1.nn, b2⟩
        · have q := of_decide_eq_false q
          have := b1.nn
          exact tot_some ⟨s.2, b1, by omega, h3, by omega⟩
    · obtain ⟨m, g1, g2, g3, g4⟩ := h
      refine tot_some ⟨⟨n + 1, fun p => if p = n then m else M p, by simp, by omega, g2, g3, fun p hp => ?_, ?_⟩, by simp only; omega⟩
      · simp only
        by_cases e : p = n
        · subst e; rw [if_pos rfl]; exact g1
        · rw [if_neg e]; exact h4 p (by omega)
      · simp only [sumN, if_true]
        rw [g4, h5, sumN_eq (g := fun p => if p = n then m else M p) fun i hi => by rw [if_neg (by omega)]]
  · have hge := of_decide_eq_false hge
    have : n = 12 := by omega
    subst this
    exact tot_some ⟨h2, h3, M, h4, h5⟩

/-! ### legal -/
theorem contains_ok (xs : List Int) (v : Int) (h : xs.length ≤ 1000000) : slices_Contains_int_int xs v = some (decide (v ∈ xs)) := by
  refine tot_eq (?_ : Tot _ (· = decide (v ∈ xs)))
  unfold slices_Contains_int_int slices_Index_int_int
  refine tot_bind (P := fun i => (i = -1 ∧ v ∉ xs) ∨ 0 ≤ i ∧ v ∈ xs) ?_ fun i _ hi => ?_
  · refine tot_allX (P := fun i x => x ≠ v) (E := fun i => 0 ≤ i ∧ v ∈ xs) (fun i x hx => ?_) (fun h => ?_) fun i hi => tot_some (.inr hi)
    · unfold slices_Index_int_int_b1
      refine tot_ifb (fun q => ?_) fun q => ?_
      · have q : v = x := by simpa using q
        exact tot_some ⟨by omega, by rw [q]; exact List.mem_of_getElem? hx⟩
      · have q : v ≠ x := by simpa using q
        exact tot_some fun e => q e.symm
    · refine tot_some (.inl ⟨rfl, fun hm => ?_⟩)
      obtain ⟨i, hi⟩ := List.getElem?_of_mem hm
      exact h i v hi rfl
  · refine tot_some ?_
    rcases hi with ⟨rfl, h⟩ | ⟨h0, h⟩
    · simp [h]
    · simp [h, h0]
theorem chain_dep (hok : Ok l turn) {t : List Int} (h : Chain l turn t) {i : Int} (h0 : 0 ≤ i) : ∀ n : Nat, i + n + 1 < t.length → (tk l (nth 0 t i)).Dep < (tk l (nth 0 t (i + n + 1))).Dep
  | 0, hn => by
    have h1 := h.nx i h0 (by omega)
    have h2 := h.ix i h0 (by omega)
    have := (hok.at h2.1 h2.2).da; have := hok.t0
    rw [show i + ((0 : Nat) : Int) + 1 = i + 1 by omega]; omega
  | n + 1, hn => by
    have ih := chain_dep hok h h0 n (by omega)
    have h1 := h.nx (i + n + 1) (by omega) (by omega)
    have h2 := h.ix (i + n + 1) (by omega) (by omega)
    have := (hok.at h2.1 h2.2).da; have := hok.t0
    rw [show i + ((n + 1 : Nat) : Int) + 1 = i + n + 1 + 1 by omega]; omega
theorem count_take {t : List Int} {i : Nat} {x v : Int} (hx : t[i]? = some x) : ((t.take (i + 1)).count v : Int) = (t.take i).count v + if x = v then 1 else 0 := by
  obtain ⟨hi, rfl⟩ := List.getElem?_eq_some_iff.1 hx
  rw [List.take_succ_eq_append_getElem hi, List.count_append, List.count_singleton]
  by_cases e : t[i] = v
  · rw [if_pos e]; simp [e]
  · rw [if_neg e]; simp [e]
theorem legal_ok (hok : Ok l turn) {T : List (List Int)} (hT : TurnsOk l turn T) : fleet_Legal l turn T = some 0 := by
  have hlen := hok.len
  refine tot_eq (?_ : Tot _ (· = (0 : Int)))
  unfold fleet_Legal
  rw [turn_ok hok]
  simp only [Option.bind_some]
  rw [show ((0 : Int) != 0) = false from rfl, ifb_false, gmake_eq (by omega) (by unfold mkRoom; omega) (by unfold maxLen; omega)]
  simp only [Option.bind_some, Int.toNat_natCast]
  refine tot_loopX (I := fun i s => s.length = l.length ∧ ∀ j : Nat, j < l.length → nth 0 s (j : Int) = sL (fun t => (t.count (j : Int) : Int)) (T.take i)) (J := fun s => s.length = l.length ∧ ∀ j : Nat, j < l.length → nth 0 s (j : Int) = units l j) (E := fun _ => False)
    ⟨by simp, fun j hj => by rw [nth_replicate (by omega) (by omega)]; rfl⟩ (fun i t s ht hI => ?_) (fun s hI => ?_) (fun s hJ => ?_) (fun _ h => h.elim)
  · obtain ⟨a1, a2⟩ := hI
    have hch := hT.ch t (List.mem_of_getElem? ht)
    have hl := hT.lens t (List.mem_of_getElem? ht)
    obtain ⟨hi, hte⟩ := List.getElem?_eq_some_iff.1 ht
    have sb : ∀ j : Nat, j < l.length → ∀ (i' : Nat), 0 ≤ sL (fun t => (t.count (j : Int) : Int)) (T.take i') ∧ sL (fun t => (t.count (j : Int) : Int)) (T.take i') ≤ 4 := fun j hj i' => by
      have h1 := hT.cnt j hj
      have h2 := units_bd hok hj
      have h3 : sL (fun t => (t.count (j : Int) : Int)) T = sL (fun t => (t.count (j : Int) : Int)) (T.take i') + sL (fun t => (t.count (j : Int) : Int)) (T.drop i') := by rw [← sL_app, List.take_append_drop]
      have h4 : 0 ≤ sL (fun t => (t.count (j : Int) : Int)) (T.take i') := sL_nn fun _ _ => by omega
      have h5 : 0 ≤ sL (fun t => (t.count (j : Int) : Int)) (T.drop i') := sL_nn fun _ _ => by omega
      omega
    have et : T.take (i + 1) = T.take i ++ [t] := by rw [List.take_succ_eq_append_getElem hi, hte]
    have e4 : ∀ j : Nat, sL (fun t => (t.count (j : Int) : Int)) (T.take (i + 1)) = sL (fun t => (t.count (j : Int) : Int)) (T.take i) + t.count (j : Int) := fun j => by rw [et, sL_app]; simp only [sL]; omega
    unfold fleet_Legal_b1
    refine tot_loopX (I := fun k s => s.length = l.length ∧ ∀ j : Nat, j < l.length → nth 0 s (j : Int) = sL (fun t => (t.count (j : Int) : Int)) (T.take i) + (t.take k).count (j : Int)) (J := fun s => s.length = l.length ∧ ∀ j : Nat, j < l.length → nth 0 s (j : Int) = sL (fun t => (t.count (j : Int) : Int)) (T.take (i + 1))) (E := fun _ => False)
      ⟨a1, fun j hj => by rw [a2 j hj]; simp⟩ (fun k x s hx hI => ?_) (fun s hI => ⟨hI.1, fun j hj => by rw [hI.2 j hj, e4, List.take_length]⟩) (fun s hs => tot_some hs) (fun _ h => h.elim)
    obtain ⟨b1, b2⟩ := hI
    obtain ⟨hk, hxe⟩ := List.getElem?_eq_some_iff.1 hx
    have enx : nth 0 t (k : Int) = x := nth_nat 0 hx
    have hr := hch.ix k (by omega) (by omega)
    rw [enx] at hr
    unfold fleet_Legal_b2
    rw [w64_id (x := (l.length : Int) - 1) (by omega) (by omega), within_eq, show decide (0 ≤ x ∧ x ≤ (l.length : Int) - 1) = true from decide_eq_true (by omega)]
    simp only [Option.bind_some, Bool.not_true, ifb_false]
    rw [gcut_eq (by omega) (by omega) (by omega)]
    simp only [Option.bind_some, Int.toNat_natCast]
    rw [contains_ok _ _ (by simp; omega)]
    have hnc : x ∉ List.drop (0 : Int).toNat (t.take k) := fun hm => by
      simp only [Int.toNat_zero, List.drop_zero] at hm
      obtain ⟨i', hi', he⟩ := List.mem_iff_getElem.1 hm
      simp only [List.length_take] at hi'
      rw [List.getElem_take] at he
      have h1 := chain_dep hok hch (i := (i' : Int)) (by omega) (k - i' - 1) (by omega)
      rw [show (i' : Int) + ((k - i' - 1 : Nat) : Int) + 1 = k by omega, enx, nth_get 0 (by omega), he] at h1
      omega
    rw [show decide (x ∈ List.drop (0 : Int).toNat (t.take k)) = false from decide_eq_false hnc]
    simp only [Option.bind_some, ifb_false]
    refine tot_bind (P := fun b => b = false) ?_ fun b _ hb => ?_
    · refine tot_ifb (fun q => ?_) fun q => tot_some rfl
      have q := of_decide_eq_true q
      rw [w64_id (x := (k : Int) - 1) (by omega) (by omega), idx_nth 0 (xs := t) (by omega) (by omega)]
      have h1 := hch.nx ((k : Int) - 1) (by omega) (by omega)
      have h2 := hch.ix ((k : Int) - 1) (by omega) (by omega)
      rw [show (k : Int) - 1 + 1 = k by omega, enx] at h1
      simp only [Option.bind_some]
      rw [tk_idx h2.1 h2.2, tk_idx hr.1 hr.2]
      simp only [Option.bind_some]
      rw [follows_eq _ _ hok.t0 hok.t1 (hok.at h2.1 h2.2), decide_eq_true h1]
      exact tot_some rfl
    subst hb
    rw [ifb_false, idx_nth 0 (xs := s) hr.1 (by omega)]
    simp only [Option.bind_some]
    obtain ⟨j0, rfl⟩ : ∃ j0 : Nat, x = j0 := ⟨x.toNat, by omega⟩
    have hj0 : j0 < l.length := by omega
    have c1 := b2 j0 hj0
    have c2 := sb j0 hj0 (i + 1)
    rw [e4] at c2
    have c3 : ((t.take (k + 1)).count (j0 : Int) : Int) ≤ t.count (j0 : Int) := by
      have := (List.take_sublist (k + 1) t).count_le (j0 : Int)
      omega
    have c4 := count_take (v := (j0 : Int)) hx
    rw [if_pos rfl] at c4
    have c5 := (sb j0 hj0 i).1
    rw [w64_id (by omega) (by omega)]
    refine tot_some ⟨by rw [setI_length]; exact b1, fun j hj => ?_⟩
    rw [nth_setI 0 (by omega) (by omega) (by omega), count_take (v := (j : Int)) hx]
    by_cases e : j = j0
    · subst e; rw [if_pos rfl, if_pos rfl]; omega
    · rw [if_neg (by omega), if_neg (by omega), b2 j hj]; omega
  · obtain ⟨a1, a2⟩ := hI
    exact ⟨a1, fun j hj => by rw [a2 j hj, List.take_length]; exact hT.cnt j hj⟩
  · obtain ⟨a1, a2⟩ := hJ
    refine tot_allX (P := fun _ _ => True) (E := fun _ => False) (fun i x hx => ?_) (fun _ => tot_some rfl) (fun _ h => h.elim)
    have hi := (List.getElem?_eq_some_iff.1 hx).1
    have h1 := a2 i hi
    have e := tk_get hx
    unfold fleet_Legal_b3
    rw [idx_nth 0 (xs := s) (by omega) (by omega), h1]
    simp only [Option.bind_some]
    have hu : units l i = x.Units := by unfold units; rw [e]
    rw [hu, show decide (x.Units > x.Units) = false from decide_eq_false (by omega)]
    exact tot_some trivial
end
end Fl
