/- FareWhole: the sort, the sums, the shares. -/
import Derived.Test.YtodbddhmfecbbaaGreatDoorZP
import Derived.Test.YtodbddhmfecbbaaGreatDoorK5
set_option linter.unusedVariables false
set_option linter.unusedSimpArgs false
set_option maxRecDepth 100000
namespace Wp
open Go Hk Hd Pl Hs

theorem awake : fishkeep2_awakeFare = some true := rfl
theorem fares : fishkeep2_fares = some true := by kernel_rfl
theorem fwithin_eq (a b c : Int) : fare_within a b c = some (decide (b ≤ a ∧ a ≤ c)) := by
  unfold fare_within
  by_cases h1 : a ≥ b <;> by_cases h2 : a ≤ c <;> simp [ifb, h1, h2]
theorem rwithin_eq (a b c : Int) : fishref2_within a b c = some (decide (b ≤ a ∧ a ≤ c)) := by
  unfold fishref2_within
  by_cases h1 : a ≥ b <;> by_cases h2 : a ≤ c <;> simp [ifb, h1, h2]
theorem gapp_ok {α : Type} {b : Nat} {xs ys : List α} (h : (xs.length + ys.length) * b ≤ 1000000) (h2 : xs.length + ys.length ≤ 1000000) : gapp b xs ys = some (xs ++ ys) := by
  unfold gapp
  rw [if_pos ⟨Nat.le_trans h (by unfold apRoom; omega), Nat.le_trans h2 (by unfold maxLen; omega)⟩]

/-! ### sums -/
theorem sum_take {l : List Int} {i : Nat} {x : Int} (h : l[i]? = some x) : (l.take (i + 1)).sum = (l.take i).sum + x := by
  rw [List.take_add_one, h]
  simp
theorem sum_setI : ∀ {l : List Int} {i : Nat}, i < l.length → (setI l (i : Int) (nth 0 l (i : Int) + 1)).sum = l.sum + 1
  | a :: l, 0, _ => by simp [setI, nth]; omega
  | a :: l, i + 1, h => by
    have := sum_setI (l := l) (i := i) (by simpa using h)
    simp only [setI, nth, Int.toNat_natCast, List.set_cons_succ, List.sum_cons, List.getElem?_cons_succ] at this ⊢
    omega
theorem perm_sum {l m : List Int} (h : l.Perm m) : l.sum = m.sum := by
  induction h with
  | nil => rfl
  | cons x _ ih => simp [ih]
  | swap x y l => simp; omega
  | trans _ _ h1 h2 => exact h1.trans h2
theorem sum_le {b : Int} : ∀ {l : List Int}, (∀ x ∈ l, x ≤ b) → l.sum ≤ l.length * b
  | [], _ => by simp
  | a :: l, h => by
    have h1 := h a (by simp)
    have h2 := sum_le (l := l) (b := b) fun x hx => h x (by simp [hx])
    simp only [List.sum_cons, List.length_cons]
    have : ((l.length + 1 : Nat) : Int) * b = l.length * b + b := by rw [Int.natCast_add, Int.add_mul]; simp
    omega
theorem sum_nonneg : ∀ {l : List Int}, (∀ x ∈ l, 0 ≤ x) → 0 ≤ l.sum
  | [], _ => by simp
  | a :: l, h => by
    have h1 := h a (by simp)
    have h2 := sum_nonneg (l := l) fun x hx => h x (by simp [hx])
    simp only [List.sum_cons]
    omega
theorem mem_le_sum : ∀ {l : List Int}, (∀ x ∈ l, 0 ≤ x) → ∀ x ∈ l, x ≤ l.sum
  | [], _, x, hx => by cases hx
  | a :: l, h, x, hx => by
    have h1 := h a (by simp)
    have h2 := sum_nonneg (l := l) fun x hx => h x (by simp [hx])
    simp only [List.sum_cons]
    rcases List.mem_cons.1 hx with rfl | hx
    · omega
    · have := mem_le_sum (l := l) (fun x hx => h x (by simp [hx])) x hx
      omega
theorem div_sum {p s : Int} : ∀ l : List Int, s * (l.map fun x => p * x / s).sum + (l.map fun x => p * x % s).sum = p * l.sum
  | [] => by simp
  | a :: l => by
    have h1 := div_sum (p := p) (s := s) l
    have h2 := Int.mul_ediv_add_emod (p * a) s
    simp only [List.map_cons, List.sum_cons, Int.mul_add]
    omega

/-! ### the sort -/
section sort
variable (p : Option Int) (q : Option (List Int)) (r : Option Int)
theorem symMn_eq : ∀ (n : Nat) (a m b : Int) (l : List Int), slices_symMergeCmpFunc_int_n n a m b l p q r = symM_n (fun x y => fare_Shares_1 x y p q r) n a m b l
  | 0, _, _, _, _ => rfl
  | n + 1, a, m, b, l => by
    have ih : (fun a m b l => slices_symMergeCmpFunc_int_n n a m b l p q r) = symM_n (fun x y => fare_Shares_1 x y p q r) n := by funext a m b l; exact symMn_eq n a m b l
    show slices_symMergeCmpFunc_int_step (slices_symMergeCmpFunc_int_n n) a m b l p q r = symM_step (fun x y => fare_Shares_1 x y p q r) (symM_n (fun x y => fare_Shares_1 x y p q r) n) a m b l
    rw [← ih]
    rfl
theorem symM_eq (a m b : Int) (l : List Int) : slices_symMergeCmpFunc_int a m b l p q r = symM (fun x y => fare_Shares_1 x y p q r) a m b l := symMn_eq p q r bigN a m b l
theorem sort_eq (l : List Int) : slices_SortStableFunc_int_int l p q r = sortStable (fun x y => fare_Shares_1 x y p q r) l := by
  have h3 : ∀ n s, slices_stableCmpFunc_int_b3 n p q r s = stab_b3 (fun x y => fare_Shares_1 x y p q r) n s := fun n s => by
    funext t; unfold slices_stableCmpFunc_int_b3 stab_b3; rw [symM_eq]
  have h2 : ∀ n, slices_stableCmpFunc_int_b2 n p q r = stab_b2 (fun x y => fare_Shares_1 x y p q r) n := fun n => by
    funext t; unfold slices_stableCmpFunc_int_b2 stab_b2; simp only [h3, symM_eq]
  unfold slices_SortStableFunc_int_int sortStable slices_stableCmpFunc_int stab
  simp only [h2]
  rfl
end sort
theorem compare_eq (a b : Int) : cmp_Compare_int a b = some (if a < b then -1 else if a > b then 1 else 0) := by
  unfold cmp_Compare_int cmp_isNaN_int
  simp only [bne_self_eq_false, Option.bind_some, ifb_false, ifb_dec]
  split
  · rfl
  · split <;> rfl
/-- the parts of a price -/
structure Parts (p : Int) (l : List Int) : Prop where
  price : 0 ≤ p ∧ p ≤ 100000
  len : 1 ≤ l.length ∧ l.length ≤ 6
  each : ∀ x ∈ l, 0 ≤ x ∧ x ≤ 10000
  sum : 0 < l.sum
theorem Parts.big {p : Int} {l : List Int} (h : Parts p l) : l.sum ≤ 60000 := by
  have := sum_le (l := l) (b := 10000) fun x hx => (h.each x hx).2
  have := h.len
  omega
theorem Parts.nth {p : Int} {l : List Int} (h : Parts p l) {i : Int} (h0 : 0 ≤ i) (h1 : i < l.length) : 0 ≤ nth 0 l i ∧ nth 0 l i ≤ 10000 ∧ nth 0 l i ≤ l.sum := by
  have hm := nth_mem 0 h0 h1
  exact ⟨(h.each _ hm).1, (h.each _ hm).2, mem_le_sum (fun x hx => (h.each x hx).1) _ hm⟩
/-- what is left of a part -/
def rm (p : Int) (l : List Int) (i : Int) : Int := p * nth 0 l i % l.sum
theorem mul_small {a b : Int} (h0 : 0 ≤ a) (h1 : a ≤ 100000) (h2 : 0 ≤ b) (h3 : b ≤ 100000) : 0 ≤ a * b ∧ a * b ≤ 10000000000 := by
  have := Int.mul_nonneg h0 h2
  have : a * b ≤ 100000 * 100000 := Int.mul_le_mul h1 h3 h2 (by omega)
  omega
theorem rem_eq {p : Int} {l : List Int} (h : Parts p l) {i : Int} (h0 : 0 ≤ i) (h1 : i < l.length) : ((idx l i).bind fun x => (gremK (w64 (p * x)) l.sum)) = some (rm p l i) := by
  obtain ⟨a, b, c⟩ := h.nth h0 h1
  have hm := mul_small h.price.1 h.price.2 a (by omega)
  rw [idx_nth 0 h0 h1, Option.bind_some, w64_id (by omega) (by omega)]
  unfold gremK rm
  have := h.sum
  rw [if_neg (by omega), Int.tmod_eq_emod_of_nonneg hm.1]
theorem cmp_ok {p : Int} {l : List Int} (h : Parts p l) : CmpOk (fun x y => fare_Shares_1 x y (some p) (some l) (some l.sum)) (fun i => 0 ≤ i ∧ i < l.length) (fun x y => rm p l y ≤ rm p l x) where
  tot a b := Int.le_total _ _
  tr a b c h1 h2 := Int.le_trans h2 h1
  ok a b ha hb := by
    refine ⟨if rm p l b < rm p l a then -1 else if rm p l b > rm p l a then 1 else 0, ?_, ?_⟩
    · have h1 := rem_eq h ha.1 ha.2
      have h2 := rem_eq h hb.1 hb.2
      rw [idx_nth 0 ha.1 ha.2, Option.bind_some] at h1
      rw [idx_nth 0 hb.1 hb.2, Option.bind_some] at h2
      unfold fare_Shares_1
      simp only [Option.bind_some, idx_nth 0 ha.1 ha.2, idx_nth 0 hb.1 hb.2, h1, h2, compare_eq]
    · by_cases h : rm p l b < rm p l a
      · rw [if_pos h]; omega
      · rw [if_neg h]
        by_cases h2 : rm p l b > rm p l a
        · rw [if_pos h2]; omega
        · rw [if_neg h2]; omega
def ints (n : Nat) : List Int := (List.range n).map fun (i : Nat) => (i : Int)
theorem ints_len (n : Nat) : (ints n).length = n := by simp [ints]
theorem ints_mem {n : Nat} {x : Int} : x ∈ ints n ↔ 0 ≤ x ∧ x < n := by
  simp only [ints, List.mem_map, List.mem_range]
  constructor
  · rintro ⟨i, h, rfl⟩; omega
  · intro h; exact ⟨x.toNat, by omega, by omega⟩
theorem ints_nodup (n : Nat) : (ints n).Nodup := by
  unfold ints
  exact List.Pairwise.map _ (fun a b h e => h (by omega)) List.nodup_range
theorem ints_map (l : List Int) (f : Int → Int) : (ints l.length).map (fun i => f (nth 0 l i)) = l.map f := by
  refine List.ext_getElem (by simp [ints]) fun i a b => ?_
  simp only [List.length_map] at b
  simp [ints, nth_get 0 b]
end Wp

/- FareWhole: the law. -/
set_option linter.unusedVariables false
set_option linter.unusedSimpArgs false
set_option maxRecDepth 100000
namespace Wp
open Go Hk Hd Pl Hs

def qt (p : Int) (l : List Int) (i : Int) : Int := p * nth 0 l i / l.sum
/-- shares -/
structure Good (p : Int) (l out : List Int) : Prop where
  len : out.length = l.length
  sum : out.sum = p
  each : ∀ k : Nat, k < l.length → nth 0 out (k : Int) = qt p l k ∨ nth 0 out (k : Int) = qt p l k + 1 ∧ 0 < rm p l k
theorem qt_nn {p : Int} {l : List Int} (h : Parts p l) {i : Int} (h0 : 0 ≤ i) (h1 : i < l.length) : 0 ≤ qt p l i := by
  obtain ⟨a, b, c⟩ := h.nth h0 h1
  exact Int.ediv_nonneg (mul_small h.price.1 h.price.2 a (by omega)).1 (by have := h.sum; omega)
theorem rm_b {p : Int} {l : List Int} (h : Parts p l) (i : Int) : 0 ≤ rm p l i ∧ rm p l i < l.sum := by
  have := h.sum
  exact ⟨Int.emod_nonneg _ (by omega), Int.emod_lt_of_pos _ this⟩
theorem qr {p : Int} {l : List Int} (i : Int) : l.sum * qt p l i + rm p l i = p * nth 0 l i := Int.mul_ediv_add_emod _ _
theorem left_eq {p : Int} {l : List Int} (h : Parts p l) : l.sum * (p - (l.map fun x => p * x / l.sum).sum) = (l.map fun x => p * x % l.sum).sum := by
  have := div_sum (p := p) (s := l.sum) l
  rw [Int.mul_sub, Int.mul_comm l.sum p]
  omega
theorem left_b {p : Int} {l : List Int} (h : Parts p l) {n : Int} (hn : n = p - (l.map fun x => p * x / l.sum).sum) : 0 ≤ n ∧ n < l.length := by
  have e := left_eq h
  rw [← hn] at e
  have hs := h.sum
  have h1 : 0 ≤ (l.map fun x => p * x % l.sum).sum := sum_nonneg fun x hx => by
    obtain ⟨y, _, rfl⟩ := List.mem_map.1 hx
    exact Int.emod_nonneg _ (by omega)
  have h2 : (l.map fun x => p * x % l.sum).sum ≤ l.length * (l.sum - 1) := by
    have := sum_le (l := l.map fun x => p * x % l.sum) (b := l.sum - 1) fun x hx => by
      obtain ⟨y, _, rfl⟩ := List.mem_map.1 hx
      have := Int.emod_lt_of_pos (p * y) hs
      omega
    simpa using this
  have hl := h.len
  refine ⟨?_, ?_⟩
  · by_cases hc : 0 ≤ n
    · exact hc
    · have := Int.mul_neg_of_pos_of_neg hs (show n < 0 by omega)
      omega
  · by_cases hc : n < l.length
    · exact hc
    · have h3 : l.sum * l.length ≤ l.sum * n := Int.mul_le_mul_of_nonneg_left (by omega) (by omega)
      rw [Int.mul_sub, Int.mul_one, Int.mul_comm] at h2
      omega
/-- those that come first have something left -/
theorem first_rm {p : Int} {l d : List Int} (h : Parts p l) {n : Int} (hn : n = p - (l.map fun x => p * x / l.sum).sum) (hp : d.Perm (ints l.length)) (hs : d.Pairwise fun x y => rm p l y ≤ rm p l x) {i : Nat} {x : Int} (hx : d[i]? = some x) (hi : (i : Int) < n) :
    0 < rm p l x := by
  by_cases hc : 0 < rm p l x
  · exact hc
  exfalso
  have hx0 : rm p l x = 0 := by have := (rm_b h x).1; omega
  have e := left_eq h
  rw [← hn] at e
  have hsum := h.sum
  have e2 : (d.map (rm p l)).sum = (l.map fun x => p * x % l.sum).sum := by
    rw [perm_sum (hp.map (rm p l))]
    show ((ints l.length).map fun i => p * nth 0 l i % l.sum).sum = _
    rw [ints_map l (fun y => p * y % l.sum)]
  have hilt := (List.getElem?_eq_some_iff.1 hx).1
  have hxe := (List.getElem?_eq_some_iff.1 hx).2
  have e3 : (d.map (rm p l)).sum = ((d.take i).map (rm p l)).sum + ((d.drop i).map (rm p l)).sum := by
    rw [← List.sum_append, ← List.map_append, List.take_append_drop]
  have h1 : ((d.drop i).map (rm p l)).sum ≤ 0 := by
    have := sum_le (l := (d.drop i).map (rm p l)) (b := 0) fun y hy => by
      obtain ⟨z, hz, rfl⟩ := List.mem_map.1 hy
      obtain ⟨j, hj⟩ := List.getElem?_of_mem hz
      rw [List.getElem?_drop] at hj
      obtain ⟨hj1, hj2⟩ := List.getElem?_eq_some_iff.1 hj
      by_cases hj0 : j = 0
      · subst hj0
        rw [← hj2]
        simp only [Nat.add_zero, hxe]
        omega
      · have := List.pairwise_iff_getElem.1 hs i (i + j) hilt hj1 (by omega)
        rw [hxe, hj2] at this
        omega
    omega
  have h2 : ((d.take i).map (rm p l)).sum ≤ i * (l.sum - 1) := by
    have := sum_le (l := (d.take i).map (rm p l)) (b := l.sum - 1) fun y hy => by
      obtain ⟨z, _, rfl⟩ := List.mem_map.1 hy
      have := (rm_b h z).2
      omega
    rw [List.length_map, List.length_take, Nat.min_eq_left (by omega)] at this
    exact this
  have h3 : l.sum * (i + 1) ≤ l.sum * n := Int.mul_le_mul_of_nonneg_left (by omega) (by omega)
  rw [Int.mul_sub, Int.mul_one] at h2
  rw [Int.mul_add, Int.mul_one, Int.mul_comm] at h3
  omega
theorem shares_ok {p : Int} {l : List Int} (h : Parts p l) : Tot (fare_Shares p l) fun r => r.1 = 0 ∧ Good p l r.2 := by
  have hl := h.len
  unfold fare_Shares
  rw [fwithin_eq, Option.bind_some, decide_eq_true h.price]
  refine tot_ifb (fun hc => by cases hc) fun _ => ?_
  rw [fwithin_eq, Option.bind_some, decide_eq_true (show (1 : Int) ≤ (l.length : Int) ∧ (l.length : Int) ≤ 6 by omega)]
  refine tot_ifb (fun hc => by cases hc) fun _ => ?_
  have hbig := h.big
  refine tot_loopX (I := fun i s => s = (l.take i).sum) (J := fun s => s = l.sum) (E := fun _ => False) rfl ?_ ?_ ?_ (fun _ h => h.elim)
  · intro i x s hx hs
    subst hs
    have hm := List.mem_of_getElem? hx
    have hb := h.each x hm
    unfold fare_Shares_b1
    rw [fwithin_eq, Option.bind_some, decide_eq_true hb]
    refine tot_ifb (fun hc => by cases hc) fun _ => tot_some ?_
    have hi := (List.getElem?_eq_some_iff.1 hx).1
    have h1 := sum_le (l := l.take i) (b := 10000) fun x hx => (h.each x (List.mem_of_mem_take hx)).2
    have h2 := sum_nonneg (l := l.take i) fun x hx => (h.each x (List.mem_of_mem_take hx)).1
    rw [List.length_take, Nat.min_eq_left (by omega)] at h1
    rw [sum_take hx]
    exact w64_id (by omega) (by omega)
  · intro s hs; rw [hs, List.take_length]
  rintro s rfl
  have hsum := h.sum
  refine tot_ifb (fun hc => by have := beq_iff_eq.1 hc; omega) fun _ => ?_
  have nthx : ∀ {i : Nat} {x : Int}, l[i]? = some x → x = nth 0 l (i : Int) := fun {i x} hx => by
    unfold nth; rw [Int.toNat_natCast, hx]; rfl
  refine tot_loopX (I := fun i s => s.1 = p - ((l.take i).map fun x => p * x / l.sum).sum ∧ s.2.1 = (l.take i).map (fun x => p * x / l.sum) ∧ s.2.2 = ints i)
    (J := fun s => s.1 = p - (l.map fun x => p * x / l.sum).sum ∧ s.2.1 = l.map (fun x => p * x / l.sum) ∧ s.2.2 = ints l.length) (E := fun _ => False) ⟨by simp, rfl, rfl⟩ ?_ ?_ ?_ (fun _ h => h.elim)
  · rintro i x ⟨a, b, c⟩ hx ⟨h1, h2, h3⟩
    dsimp only at h1 h2 h3
    subst h1 h2 h3
    have hi := (List.getElem?_eq_some_iff.1 hx).1
    have hm := List.mem_of_getElem? hx
    have hb := h.each x hm
    have ms := mul_small h.price.1 h.price.2 hb.1 (by omega)
    have hle := mem_le_sum (fun x hx => (h.each x hx).1) x hm
    have q0 : 0 ≤ p * x / l.sum := Int.ediv_nonneg ms.1 (by omega)
    have qle : ∀ y ∈ l, 0 ≤ p * y / l.sum ∧ p * y / l.sum ≤ 100000 := fun y hy => by
      have hb := h.each y hy
      have ms := mul_small h.price.1 h.price.2 hb.1 (by omega)
      have hle := mem_le_sum (fun x hx => (h.each x hx).1) y hy
      refine ⟨Int.ediv_nonneg ms.1 (by omega), ?_⟩
      have h1 : p * y ≤ p * l.sum := Int.mul_le_mul_of_nonneg_left hle h.price.1
      have h2 := Int.ediv_le_ediv hsum h1
      rw [Int.mul_ediv_cancel _ (by omega)] at h2
      have := h.price.2
      omega
    unfold fare_Shares_b2
    have hlen : ((l.take i).map fun x => p * x / l.sum).length = i := by rw [List.length_map, List.length_take, Nat.min_eq_left (by omega)]
    have hq : gquoK .i64 (w64 (p * x)) l.sum = some (p * x / l.sum) := by
      unfold gquoK
      rw [if_neg (by omega), w64_id (by omega) (by omega), Int.tdiv_eq_ediv_of_nonneg ms.1]
      have := qle x hm
      exact congrArg some (w64_id (by omega) (by omega))
    rw [hq, Option.bind_some]
    dsimp only
    rw [gapp_ok (by rw [hlen]; simp; omega) (by rw [hlen]; simp; omega), Option.bind_some]
    have hix : idx (((l.take i).map fun x => p * x / l.sum) ++ [p * x / l.sum]) (i : Int) = some (p * x / l.sum) := by
      unfold idx
      rw [if_pos (by omega), Int.toNat_natCast, List.getElem?_append_right (by omega), hlen, Nat.sub_self]
      rfl
    rw [hix, Option.bind_some, gapp_ok (by rw [ints_len]; simp; omega) (by rw [ints_len]; simp; omega), Option.bind_some]
    refine tot_some ?_
    have hs1 := sum_nonneg (l := (l.take i).map fun x => p * x / l.sum) fun y hy => by
      obtain ⟨z, hz, rfl⟩ := List.mem_map.1 hy; exact (qle z (List.mem_of_mem_take hz)).1
    have hs2 := sum_le (l := (l.take i).map fun x => p * x / l.sum) (b := 100000) fun y hy => by
      obtain ⟨z, hz, rfl⟩ := List.mem_map.1 hy; exact (qle z (List.mem_of_mem_take hz)).2
    rw [hlen] at hs2
    have hp := h.price
    have hqx := qle x hm
    refine ⟨?_, ?_, ?_⟩
    · dsimp only
      rw [w64_id (by omega) (by omega), List.take_add_one, hx]
      simp
      omega
    · dsimp only
      rw [List.take_add_one, hx]
      simp
    · dsimp only
      unfold ints
      rw [List.range_succ]
      simp
  · rintro s ⟨h1, h2, h3⟩
    rw [List.take_length] at h1 h2
    exact ⟨h1, h2, h3⟩
  rintro ⟨n, out, ord⟩ ⟨h1, h2, h3⟩
  dsimp only at h1 h2 h3
  subst h2 h3
  have hn := left_b h h1
  dsimp only
  rw [sort_eq]
  have hso := sortStable_ok (cmp_ok h) (l := ints l.length) (by rw [ints_len]; omega) (fun x hx => ints_mem.1 hx)
  refine tot_bind hso fun d _ ⟨hd1, hd2⟩ => ?_
  have hdl : d.length = l.length := by rw [hd1.length_eq, ints_len]
  have hcut : gcut d 0 n = some (d.take n.toNat) := by
    unfold gcut
    rw [if_pos (by omega)]
    simp
  rw [hcut, Option.bind_some]
  have hdn : d.Nodup := hd1.nodup_iff.2 (ints_nodup _)
  have hml : (l.map fun x => p * x / l.sum).length = l.length := by simp
  refine tot_loopX (I := fun i s => s.length = l.length ∧ s.sum = (l.map fun x => p * x / l.sum).sum + i ∧ ∀ k : Nat, k < l.length → (nth 0 s (k : Int) = qt p l k ∧ (k : Int) ∉ d.take i) ∨ (nth 0 s (k : Int) = qt p l k + 1 ∧ (k : Int) ∈ d.take i ∧ 0 < rm p l k))
    (J := fun s => Good p l s) (E := fun _ => False) ⟨hml, by simp, fun k hk => .inl ⟨?_, by simp⟩⟩ ?_ ?_ ?_ (fun _ h => h.elim)
  · unfold qt
    rw [nth_get 0 (by simpa using hk), nth_get 0 hk]
    simp
  · rintro i x s hx ⟨g1, g2, g3⟩
    have hi := (List.getElem?_eq_some_iff.1 hx).1
    rw [List.length_take] at hi
    have hdx : d[i]? = some x := by
      rw [List.getElem?_take] at hx
      split at hx
      · exact hx
      · cases hx
    have hxm : x ∈ ints l.length := hd1.mem_iff.1 (List.mem_of_getElem? hdx)
    obtain ⟨x0, x1⟩ := ints_mem.1 hxm
    obtain ⟨k, rfl⟩ := Int.eq_ofNat_of_zero_le x0
    have hr := first_rm h h1 hd1 hd2 hdx (by omega)
    have hk : k < l.length := by omega
    have hnot : (k : Int) ∉ d.take i := fun hm => by
      obtain ⟨j, hj⟩ := List.getElem?_of_mem hm
      rw [List.getElem?_take] at hj
      split at hj
      · rename_i hji
        obtain ⟨a1, a2⟩ := List.getElem?_eq_some_iff.1 hj
        obtain ⟨b1, b2⟩ := List.getElem?_eq_some_iff.1 hdx
        have := List.pairwise_iff_getElem.1 hdn j i a1 b1 hji
        exact this (a2.trans b2.symm)
      · cases hj
    unfold fare_Shares_b3
    rw [idx_nth 0 x0 (by omega), Option.bind_some, Option.bind_some]
    refine tot_some ?_
    have hv : nth 0 s (k : Int) ≤ 100001 ∧ 0 ≤ nth 0 s (k : Int) := by
      have hb := h.nth x0 (by omega)
      have ms := mul_small h.price.1 h.price.2 hb.1 (by omega)
      have q0 := qt_nn h x0 (by omega)
      have hq : qt p l k ≤ 100000 := by
        unfold qt
        have h1 : p * nth 0 l (k : Int) ≤ p * l.sum := Int.mul_le_mul_of_nonneg_left hb.2.2 h.price.1
        have h2 := Int.ediv_le_ediv hsum h1
        rw [Int.mul_ediv_cancel _ (by omega)] at h2
        have := h.price.2
        omega
      rcases g3 k hk with ⟨g, _⟩ | ⟨g, _⟩ <;> omega
    rw [w64_id (by omega) (by omega)]
    refine ⟨by rw [setI_length]; exact g1, ?_, fun j hj => ?_⟩
    · rw [sum_setI (by omega), g2]; omega
    · rw [nth_setI 0 x0 (by omega) (by omega)]
      by_cases hjk : j = k
      · subst hjk
        rw [if_pos rfl]
        rcases g3 j hj with ⟨g, _⟩ | ⟨g, _⟩
        · exact .inr ⟨by rw [g], by rw [List.take_add_one, hdx]; simp, hr⟩
        · rename_i hc
          exact absurd hc.1 hnot
      · rw [if_neg (by omega)]
        rcases g3 j hj with ⟨g, g'⟩ | g
        · refine .inl ⟨g, fun hm => ?_⟩
          rw [List.take_add_one, hdx] at hm
          rcases List.mem_append.1 hm with hm | hm
          · exact g' hm
          · simp at hm; omega
        · exact .inr ⟨g.1, by rw [List.take_add_one]; exact List.mem_append_left _ g.2.1, g.2.2⟩
  · rintro s ⟨g1, g2, g3⟩
    refine ⟨g1, ?_, fun k hk => (g3 k hk).imp (·.1) fun g => ⟨g.1, g.2.2⟩⟩
    rw [g2, List.length_take, Nat.min_eq_left (by omega)]
    omega
  · intro s hs
    exact tot_some ⟨rfl, hs⟩
theorem law (p : Int) (l : List Int) : fishkeep2_FareWhole p l = some true := by
  refine tot_eq ?_
  unfold fishkeep2_FareWhole
  rw [awake, Option.bind_some, fares, Option.bind_some]
  refine tot_ifb (fun hc => by cases hc) fun _ => tot_ifb (fun hc => by cases hc) fun _ => ?_
  refine tot_bind (P := fun e => e = 0 → Parts p l) ?_ fun e _ he => ?_
  · unfold fishref2_SharesFault
    rw [rwithin_eq, Option.bind_some]
    refine tot_ifb (fun _ => tot_some fun h => by omega) fun h1 => ?_
    simp only [Bool.not_eq_false', decide_eq_true_eq] at h1
    rw [rwithin_eq, Option.bind_some]
    refine tot_ifb (fun _ => tot_some fun h => by omega) fun h2 => ?_
    simp only [Bool.not_eq_false', decide_eq_true_eq] at h2
    refine tot_loopX (I := fun i s => s = (l.take i).sum ∧ ∀ x ∈ l.take i, 0 ≤ x ∧ x ≤ 10000) (J := fun s => s = l.sum ∧ ∀ x ∈ l, 0 ≤ x ∧ x ≤ 10000) (E := fun e => e ≠ 0) ⟨rfl, by simp⟩ ?_ ?_ ?_ (fun e he => tot_some fun h => absurd h he)
    · rintro i x s hx ⟨rfl, hI⟩
      unfold fishref2_SharesFault_b1
      rw [rwithin_eq, Option.bind_some]
      refine tot_ifb (fun _ => tot_some (by show (2 : Int) ≠ 0; decide)) fun h3 => tot_some ?_
      simp only [Bool.not_eq_false', decide_eq_true_eq] at h3
      have hi := (List.getElem?_eq_some_iff.1 hx).1
      have k1 := sum_le (l := l.take i) (b := 10000) fun x hx => (hI x hx).2
      have k2 := sum_nonneg (l := l.take i) fun x hx => (hI x hx).1
      rw [List.length_take, Nat.min_eq_left (by omega)] at k1
      refine ⟨by rw [sum_take hx]; exact w64_id (by omega) (by omega), fun y hy => ?_⟩
      rw [List.take_add_one, hx] at hy
      rcases List.mem_append.1 hy with hy | hy
      · exact hI y hy
      · simp at hy; subst hy; exact h3
    · rintro s ⟨h, hI⟩
      rw [List.take_length] at h hI
      exact ⟨h, hI⟩
    · rintro s ⟨rfl, hI⟩
      refine tot_ifb (fun _ => tot_some fun h => by omega) fun h3 => tot_some fun _ => ⟨h1, by omega, hI, ?_⟩
      have k2 := sum_nonneg (l := l) fun x hx => (hI x hx).1
      have : l.sum ≠ 0 := fun e => by rw [e] at h3; cases h3
      omega
  refine tot_ifb (fun _ => tot_some rfl) fun h0 => ?_
  have h := he (by simpa using h0)
  have hbig := h.big
  have hsum := h.sum
  have hl := h.len
  refine tot_bind (shares_ok h) fun r _ hr => ?_
  obtain ⟨e, out⟩ := r
  obtain ⟨e0, hg⟩ := hr
  dsimp only at e0 hg
  subst e0
  refine tot_bind (P := fun s => s = false) ?_ fun s _ hs => ?_
  · refine tot_ifb (fun hc => absurd hc (by simp)) fun _ => tot_some ?_
    simp [hg.len]
  subst hs
  refine tot_ifb (fun hc => by cases hc) fun _ => ?_
  refine tot_loopX (I := fun i s => s = (l.take i).sum) (J := fun s => s = l.sum) (E := fun _ => False) rfl ?_ ?_ ?_ (fun _ h => h.elim)
  · intro i x s hx hs
    subst hs
    unfold fishkeep2_FareWhole_b1
    refine tot_some ?_
    have hi := (List.getElem?_eq_some_iff.1 hx).1
    have hb := h.each x (List.mem_of_getElem? hx)
    have h1 := sum_le (l := l.take i) (b := 10000) fun x hx => (h.each x (List.mem_of_mem_take hx)).2
    have h2 := sum_nonneg (l := l.take i) fun x hx => (h.each x (List.mem_of_mem_take hx)).1
    rw [List.length_take, Nat.min_eq_left (by omega)] at h1
    rw [sum_take hx]
    exact w64_id (by omega) (by omega)
  · intro s hs; rw [hs, List.take_length]
  rintro s rfl
  have facts : ∀ {i : Nat} {x : Int}, out[i]? = some x → i < l.length ∧ 0 ≤ x ∧ x ≤ p ∧ x * l.sum - p * nth 0 l (i : Int) < l.sum ∧ p * nth 0 l (i : Int) - x * l.sum < l.sum := fun {i x} hx => by
    have hi := (List.getElem?_eq_some_iff.1 hx).1
    rw [hg.len] at hi
    have hxe : x = nth 0 out (i : Int) := by unfold nth; rw [Int.toNat_natCast, hx]; rfl
    have hb := h.nth (i := (i : Int)) (by omega) (by omega)
    have q0 := qt_nn h (i := (i : Int)) (by omega) (by omega)
    have qe := qr (p := p) (l := l) (i : Int)
    have rb := rm_b h (i : Int)
    have hle : p * nth 0 l (i : Int) ≤ p * l.sum := Int.mul_le_mul_of_nonneg_left hb.2.2 h.price.1
    rw [Int.mul_comm] at qe
    have qp : qt p l i ≤ p := by
      by_cases hc : qt p l i ≤ p
      · exact hc
      · have := Int.mul_le_mul_of_nonneg_right (show p + 1 ≤ qt p l i by omega) (show 0 ≤ l.sum by omega)
        rw [Int.add_mul] at this
        omega
    refine ⟨hi, ?_⟩
    rcases hg.each i hi with g | ⟨g, gr⟩
    · rw [hxe, g]
      refine ⟨q0, qp, by omega, by omega⟩
    · have qp1 : qt p l i + 1 ≤ p := by
        by_cases hc : qt p l i + 1 ≤ p
        · exact hc
        · have : qt p l i = p := by omega
          rw [this] at qe
          omega
      have e1 : (qt p l i + 1) * l.sum = qt p l i * l.sum + l.sum := by rw [Int.add_mul, Int.one_mul]
      rw [hxe, g, e1]
      refine ⟨by omega, qp1, by omega, by omega⟩
  refine tot_loopX (I := fun i s => s = (out.take i).sum) (J := fun s => s = p) (E := fun _ => False) rfl ?_ ?_ ?_ (fun _ h => h.elim)
  · intro i x s hx hs
    subst hs
    obtain ⟨hi, f1, f2, f3, f4⟩ := facts hx
    have hgl := hg.len
    have hb := h.nth (i := (i : Int)) (by omega) (by omega)
    have hp := h.price
    have ms := mul_small hp.1 hp.2 hb.1 (by omega)
    have ms2 := mul_small f1 (by omega) (show 0 ≤ l.sum by omega) (by omega)
    unfold fishkeep2_FareWhole_b2
    rw [decide_eq_false (by omega : ¬ x < 0), ifb_false, decide_eq_false (by omega : ¬ x > p), ifb_false, idx_nth 0 (by omega) (by omega), Option.bind_some, Option.bind_some,
      w64_id (x := x * l.sum) (by omega) (by omega), w64_id (x := p * nth 0 l (i : Int)) (by omega) (by omega), w64_id (x := x * l.sum - p * nth 0 l (i : Int)) (by omega) (by omega),
      w64_id (x := p * nth 0 l (i : Int) - x * l.sum) (by omega) (by omega), decide_eq_false (by omega : ¬ x * l.sum - p * nth 0 l (i : Int) ≥ l.sum), ifb_false, decide_eq_false (by omega : ¬ p * nth 0 l (i : Int) - x * l.sum ≥ l.sum), Option.bind_some]
    refine tot_ifb (fun hc => by cases hc) fun _ => tot_some ?_
    have out_b : ∀ y ∈ out, 0 ≤ y ∧ y ≤ 100000 := fun y hy => by
      obtain ⟨j, hj⟩ := List.getElem?_of_mem hy
      obtain ⟨_, a, b, _⟩ := facts hj
      exact ⟨a, by omega⟩
    have hio := (List.getElem?_eq_some_iff.1 hx).1
    have h1 := sum_le (l := out.take i) (b := 100000) fun x hx => (out_b x (List.mem_of_mem_take hx)).2
    have h2 := sum_nonneg (l := out.take i) fun x hx => (out_b x (List.mem_of_mem_take hx)).1
    rw [List.length_take, Nat.min_eq_left (by omega)] at h1
    rw [sum_take hx]
    exact w64_id (by omega) (by omega)
  · intro s hs; rw [hs, List.take_length]; exact hg.sum
  · rintro s rfl
    exact tot_some (by simp)
end Wp
