/- Inspections: the greedy positions are right, and fewest. -/
import Derived.Test.YtmhpeefjjclpfaaZ1
set_option linter.unusedVariables false
set_option linter.unusedSimpArgs false
set_option maxRecDepth 100000
namespace Fi
open Go Hk Hd Pl Hs Fl

section
variable (km : Nat → Int) (K0 lim : Int)
/-- kilometres up to a position -/
def P (k : Nat) : Int := sumN km k
/-- kilometres since the last inspection: as a position is reached, and behind it -/
def u (S : List Int) : Nat → Int
  | 0 => K0
  | k + 1 => (if (k : Int) ∈ S then 0 else u S k) + km k
def v (S : List Int) (k : Nat) : Int := if (k : Int) ∈ S then 0 else u km K0 S k
def Kept (S : List Int) (n : Nat) : Prop := ∀ k, k < n → v km K0 S k + km k ≤ lim
variable {km K0 lim}
theorem u_succ (S : List Int) (k : Nat) : u km K0 S (k + 1) = v km K0 S k + km k := rfl
theorem P_succ (k : Nat) : P km (k + 1) = P km k + km k := rfl
theorem P_mono (hk : ∀ k, 0 ≤ km k) : ∀ {a b : Nat}, a ≤ b → P km a ≤ P km b := by
  intro a b h
  induction b with
  | zero => have : a = 0 := by omega
            subst this; exact Int.le_refl _
  | succ b ih =>
    by_cases e : a = b + 1
    · subst e; exact Int.le_refl _
    · have := ih (by omega); have := hk b; rw [P_succ]; omega
/-- none at all up to here -/
theorem u_none {S : List Int} : ∀ {k : Nat}, (∀ j : Nat, j < k → (j : Int) ∉ S) → u km K0 S k = K0 + P km k
  | 0, _ => by simp [u, P, sumN]
  | k + 1, h => by
    rw [u_succ, v, if_neg (h k (by omega)), u_none fun j hj => h j (by omega), P_succ]; omega
/-- the last one at s -/
theorem u_last {S : List Int} {s : Nat} (hs : (s : Int) ∈ S) : ∀ {k : Nat}, s < k → (∀ j : Nat, s < j → j < k → (j : Int) ∉ S) → u km K0 S k = P km k - P km s
  | 0, h, _ => by omega
  | k + 1, h, hn => by
    rw [u_succ, v, P_succ]
    by_cases e : s = k
    · subst e; rw [if_pos hs]; omega
    · rw [if_neg (hn k (by omega) (by omega)), u_last hs (by omega) fun j h1 h2 => hn j h1 (by omega)]; omega
theorem v_none {S : List Int} {k : Nat} (h : ∀ j : Nat, j ≤ k → (j : Int) ∉ S) : v km K0 S k = K0 + P km k := by
  rw [v, if_neg (h k (Nat.le_refl _)), u_none fun j hj => h j (by omega)]
theorem v_last {S : List Int} {s k : Nat} (hs : (s : Int) ∈ S) (hk : s ≤ k) (hn : ∀ j : Nat, s < j → j ≤ k → (j : Int) ∉ S) : v km K0 S k = P km k - P km s := by
  unfold v
  by_cases e : s = k
  · subst e; rw [if_pos hs]; omega
  · rw [if_neg (hn k (by omega) (Nat.le_refl _)), u_last hs (by omega) fun j h1 h2 => hn j h1 (by omega)]
theorem u_same {S S' : List Int} : ∀ {k : Nat}, (∀ j : Nat, j < k → ((j : Int) ∈ S ↔ (j : Int) ∈ S')) → u km K0 S k = u km K0 S' k
  | 0, _ => rfl
  | k + 1, h => by
    rw [u_succ, u_succ, v, v, u_same fun j hj => h j (by omega)]
    by_cases e : (k : Int) ∈ S
    · rw [if_pos e, if_pos ((h k (by omega)).1 e)]
    · rw [if_neg e, if_neg fun h' => e ((h k (by omega)).2 h')]
theorem v_same {S S' : List Int} {k : Nat} (h : ∀ j : Nat, j ≤ k → ((j : Int) ∈ S ↔ (j : Int) ∈ S')) : v km K0 S k = v km K0 S' k := by
  unfold v
  rw [u_same fun j hj => h j (by omega)]
  by_cases e : (k : Int) ∈ S
  · rw [if_pos e, if_pos ((h k (Nat.le_refl _)).1 e)]
  · rw [if_neg e, if_neg fun h' => e ((h k (Nat.le_refl _)).2 h')]
/-- the last of S up to k, if there is one -/
theorem last_or (S : List Int) : ∀ k : Nat, (∀ j : Nat, j ≤ k → (j : Int) ∉ S) ∨ ∃ s : Nat, s ≤ k ∧ (s : Int) ∈ S ∧ ∀ j : Nat, s < j → j ≤ k → (j : Int) ∉ S
  | 0 => by
    by_cases h : ((0 : Nat) : Int) ∈ S
    · exact .inr ⟨0, Nat.le_refl _, h, fun j h1 h2 => by omega⟩
    · exact .inl fun j hj => by rw [show j = 0 by omega]; exact h
  | k + 1 => by
    by_cases h : ((k + 1 : Nat) : Int) ∈ S
    · exact .inr ⟨k + 1, Nat.le_refl _, h, fun j h1 h2 => by omega⟩
    · rcases last_or S k with h' | ⟨s, h1, h2, h3⟩
      · exact .inl fun j hj => by
          by_cases e : j = k + 1
          · subst e; exact h
          · exact h' j (by omega)
      · exact .inr ⟨s, by omega, h2, fun j a b => by
          by_cases e : j = k + 1
          · subst e; exact h
          · exact h3 j a (by omega)⟩
theorem v_le (hk : ∀ k, 0 ≤ km k) (h0 : 0 ≤ K0) {S : List Int} (k : Nat) : v km K0 S k ≤ K0 + P km k := by
  rcases last_or S k with h | ⟨s, h1, h2, h3⟩
  · rw [v_none h]; exact Int.le_refl _
  · rw [v_last h2 h1 h3]
    have := P_mono hk (show 0 ≤ s by omega)
    have : P km 0 = 0 := rfl
    omega
/-- a list that keeps the limit has an inspection behind 'from' where the one that was last made there does not suffice -/
theorem needs (hk : ∀ k, 0 ≤ km k) (h0 : 0 ≤ K0) {S out : List Int} {f : Int} {k n : Nat} (hS : Kept km K0 lim S n) (hkn : k < n) (hf : f = -1 ∧ out = [] ∨ 0 ≤ f ∧ f ≤ k ∧ f ∈ out ∧ ∀ p ∈ out, p ≤ f) (hv : v km K0 out k + km k > lim) :
    ∃ s : Nat, f < s ∧ s ≤ k ∧ (s : Int) ∈ S ∧ P km (k + 1) - P km s ≤ lim := by
  have hs := hS k hkn
  rcases last_or S k with h | ⟨s, h1, h2, h3⟩
  · have := v_le (S := out) hk h0 k
    rw [v_none h] at hs; omega
  · rw [v_last h2 h1 h3] at hs
    refine ⟨s, ?_, h1, h2, by rw [P_succ]; omega⟩
    rcases hf with ⟨e, eo⟩ | ⟨f0, f1, f2, f3⟩
    · omega
    · rcases Int.lt_or_le f s with q | q
      · exact q
      · obtain ⟨fn, rfl⟩ : ∃ fn : Nat, f = fn := ⟨f.toNat, by omega⟩
        rw [v_last f2 (by omega) fun j a b hm => by have := f3 _ hm; omega] at hv
        have := P_mono hk (show s ≤ fn by omega)
        omega
def cntLe (S : List Int) (x : Int) : Nat := (S.filter fun s => decide (s ≤ x)).length
theorem cntLe_le (S : List Int) (x : Int) : cntLe S x ≤ S.length := List.length_filter_le _ _
theorem cntLe_lt {x y s : Int} : ∀ {S : List Int}, x < s → s ≤ y → s ∈ S → x ≤ y → cntLe S x + 1 ≤ cntLe S y
  | [], _, _, h, _ => by simp at h
  | a :: S, h1, h2, h, hxy => by
    have mono : ∀ S : List Int, cntLe S x ≤ cntLe S y := fun S => by
      induction S with
      | nil => exact Nat.le_refl _
      | cons b S ih =>
        unfold cntLe at ih ⊢
        simp only [List.filter_cons]
        by_cases c1 : b ≤ x
        · rw [if_pos (by simpa using c1), if_pos (by simp; omega)]; simp only [List.length_cons]; omega
        · rw [if_neg (by simpa using c1)]; split <;> (try simp only [List.length_cons]) <;> omega
    rcases List.mem_cons.1 h with e | h
    · subst e
      have := mono S
      unfold cntLe at this ⊢
      simp only [List.filter_cons]
      rw [if_neg (by simp; omega), if_pos (by simpa using h2)]
      simp only [List.length_cons]; omega
    · have ih := cntLe_lt h1 h2 h hxy
      unfold cntLe at ih ⊢
      simp only [List.filter_cons]
      by_cases c1 : a ≤ x
      · rw [if_pos (by simpa using c1), if_pos (by simp; omega)]; simp only [List.length_cons]; omega
      · rw [if_neg (by simpa using c1)]; split <;> (try simp only [List.length_cons]) <;> omega
/-- what may be -/
def Fits (may : Nat → Bool) (n : Nat) (S : List Int) : Prop := ∀ s ∈ S, ∃ k : Nat, s = k ∧ k ≤ n ∧ may k = true
/-- the greedy walk: kilometres, the last position that may be, the last inspection, the kilometres since that position, the inspections -/
structure G (km : Nat → Int) (K0 lim : Int) (may : Nat → Bool) (n k : Nat) (s : Int × Int × Int × Int × List Int) : Prop where
  kmE : s.1 = u km K0 s.2.2.2.2 k
  kept : Kept km K0 lim s.2.2.2.2 k
  out : ∀ p ∈ s.2.2.2.2, ∃ j : Nat, p = j ∧ j < k ∧ may j = true
  from_ : s.2.2.1 = -1 ∧ s.2.2.2.2 = [] ∨ s.2.2.1 ∈ s.2.2.2.2 ∧ ∀ p ∈ s.2.2.2.2, p ≤ s.2.2.1
  last : s.2.1 = -1 ∧ (∀ j, j < k → may j = false) ∨ ∃ j : Nat, s.2.1 = j ∧ j < k ∧ may j = true ∧ (∀ i, j < i → i < k → may i = false) ∧ s.2.2.2.1 = P km k - P km j
  few : ∀ S, Kept km K0 lim S n → Fits may n S → s.2.2.2.2.length ≤ cntLe S s.2.2.1
  since : 0 ≤ s.2.2.2.1 ∧ s.2.2.2.1 ≤ P km k
  len : s.2.2.2.2.length ≤ k
/-- the walk with the position k looked at -/
structure G' (km : Nat → Int) (K0 lim : Int) (may : Nat → Bool) (n k : Nat) (s : Int × Int × Int × Int × List Int) : Prop where
  kmE : s.1 = u km K0 s.2.2.2.2 k
  kept : Kept km K0 lim s.2.2.2.2 k
  out : ∀ p ∈ s.2.2.2.2, ∃ j : Nat, p = j ∧ j < k ∧ may j = true
  from_ : s.2.2.1 = -1 ∧ s.2.2.2.2 = [] ∨ s.2.2.1 ∈ s.2.2.2.2 ∧ ∀ p ∈ s.2.2.2.2, p ≤ s.2.2.1
  last : s.2.1 = -1 ∧ (∀ j, j ≤ k → may j = false) ∨ ∃ j : Nat, s.2.1 = j ∧ j ≤ k ∧ may j = true ∧ (∀ i, j < i → i ≤ k → may i = false) ∧ s.2.2.2.1 = P km k - P km j
  few : ∀ S, Kept km K0 lim S n → Fits may n S → s.2.2.2.2.length ≤ cntLe S s.2.2.1
  since : 0 ≤ s.2.2.2.1 ∧ s.2.2.2.1 ≤ P km k
  len : s.2.2.2.2.length ≤ k
variable {may : Nat → Bool} {n k : Nat}
theorem G.look {a b c d : Int} {o : List Int} (hk : ∀ k, 0 ≤ km k) (h : G km K0 lim may n k (a, b, c, d, o)) : G' km K0 lim may n k (a, if may k = true then (k : Int) else b, c, if may k = true then 0 else d, o) := by
  have pp := P_mono hk (show 0 ≤ k by omega)
  have p0 : P km 0 = 0 := rfl
  by_cases q : may k = true
  · rw [if_pos q, if_pos q]
    exact ⟨h.kmE, h.kept, h.out, h.from_, .inr ⟨k, rfl, Nat.le_refl _, q, fun i h1 h2 => by omega, by simp⟩, h.few, ⟨Int.le_refl _, by simp only; omega⟩, h.len⟩
  · rw [if_neg q, if_neg q]
    have q : may k = false := by simpa using q
    refine ⟨h.kmE, h.kept, h.out, h.from_, ?_, h.few, h.since, h.len⟩
    rcases h.last with ⟨e, hl⟩ | ⟨j, e, h1, h2, h3, h4⟩
    · exact .inl ⟨e, fun j hj => by
        by_cases e : j = k
        · subst e; exact q
        · exact hl j (by omega)⟩
    · exact .inr ⟨j, e, by omega, h2, fun i a b => by
        by_cases e : i = k
        · subst e; exact q
        · exact h3 i a (by omega), h4⟩
theorem kNotIn {o : List Int} (h : ∀ p ∈ o, ∃ j : Nat, p = j ∧ j < k ∧ may j = true) : (k : Int) ∉ o := fun hm => by
  obtain ⟨j, e, hj, _⟩ := h _ hm
  omega
/-- the limit is kept -/
theorem G'.ok {a b c d : Int} {o : List Int} (hk : ∀ k, 0 ≤ km k) (h : G' km K0 lim may n k (a, b, c, d, o)) (hl : a + km k ≤ lim) : G km K0 lim may n (k + 1) (a + km k, b, c, d + km k, o) := by
  have e := kNotIn h.out
  have ev : v km K0 o k = a := by unfold v; rw [if_neg e]; exact h.kmE.symm
  refine ⟨by rw [u_succ, ev], fun j hj => ?_, fun p hp => ?_, h.from_, ?_, h.few, ?_, by have := h.len; simp only at this ⊢; omega⟩
  · by_cases q : j = k
    · subst q; simp only; rw [ev]; exact hl
    · exact h.kept j (by omega)
  · obtain ⟨j, e, hj, hm⟩ := h.out p hp
    exact ⟨j, e, by omega, hm⟩
  · rcases h.last with ⟨e, hl⟩ | ⟨j, e, h1, h2, h3, h4⟩
    · exact .inl ⟨e, fun j hj => hl j (by omega)⟩
    · exact .inr ⟨j, e, by omega, h2, fun i a b => h3 i a (by omega), by simp only at h4 ⊢; rw [P_succ]; omega⟩
  · have q1 := h.since; have q2 := hk k
    simp only at q1 ⊢
    rw [P_succ]; omega
/-- it is not, and there is a later position -/
theorem G'.put {a b c d : Int} {o : List Int} (hk : ∀ k, 0 ≤ km k) (h0 : 0 ≤ K0) (hkn : k < n) (h : G' km K0 lim may n k (a, b, c, d, o)) (hl : lim < a + km k) (hb : c < b) (hd : d + km k ≤ lim) : G km K0 lim may n (k + 1) (d + km k, b, b, d + km k, o ++ [b]) := by
  have e := kNotIn h.out
  have ev : v km K0 o k = a := by unfold v; rw [if_neg e]; exact h.kmE.symm
  have hc : -1 ≤ c := by
    rcases h.from_ with ⟨e, _⟩ | ⟨hm, _⟩
    · simp only at e; omega
    · obtain ⟨j, e, _⟩ := h.out _ hm
      simp only at e; omega
  rcases h.last with ⟨e, _⟩ | ⟨j, ej, h1, h2, h3, h4⟩
  · simp only at e; omega
  simp only at ej h4
  subst ej
  have oc : ∀ p ∈ o, p ≤ c := by
    rcases h.from_ with ⟨_, e⟩ | ⟨_, hm⟩
    · simp only at e; subst e; intro p hp; simp at hp
    · exact hm
  have mem : ∀ i : Nat, ((i : Int) ∈ o ++ [(j : Int)] ↔ (i : Int) ∈ o ∨ i = j) := fun i => by rw [List.mem_append, List.mem_singleton]; exact or_congr Iff.rfl ⟨fun h => by omega, fun h => by omega⟩
  have vj : ∀ i : Nat, j ≤ i → i ≤ k → v km K0 (o ++ [(j : Int)]) i = P km i - P km j := fun i a b => v_last ((mem j).2 (.inr rfl)) a fun x x1 x2 hm => by
    rcases (mem x).1 hm with hm | hm
    · have := oc _ hm; omega
    · omega
  refine ⟨?_, fun i hi => ?_, fun p hp => ?_, .inr ⟨by simp, fun p hp => ?_⟩, .inr ⟨j, rfl, by omega, h2, fun i a b => h3 i a (by omega), by simp only; rw [P_succ]; omega⟩, fun S hS hF => ?_, ?_, by have := h.len; simp at this ⊢; omega⟩
  · show d + km k = u km K0 (o ++ [(j : Int)]) (k + 1)
    rw [u_succ, vj k h1 (Nat.le_refl _)]; omega
  · show v km K0 (o ++ [(j : Int)]) i + km i ≤ lim
    by_cases q : i < j
    · rw [v_same (S' := o) fun x hx => by
        rw [mem]
        exact ⟨fun h => h.elim id fun e => by omega, .inl⟩]
      exact h.kept i (by omega)
    · rw [vj i (by omega) (by omega)]
      have := P_mono hk (show i + 1 ≤ k + 1 by omega)
      rw [P_succ, P_succ] at this
      omega
  · rcases List.mem_append.1 hp with hp | hp
    · obtain ⟨x, e, hx, hm⟩ := h.out p hp
      exact ⟨x, e, by omega, hm⟩
    · simp only [List.mem_singleton] at hp
      exact ⟨j, hp, by omega, h2⟩
  · rcases List.mem_append.1 hp with hp | hp
    · have := oc p hp; simp only; omega
    · simp only [List.mem_singleton] at hp; simp only; omega
  · obtain ⟨s, s1, s2, s3, s4⟩ := needs (f := c) hk h0 hS hkn (h.from_.imp id fun ⟨m1, m2⟩ => ⟨by obtain ⟨x, e, _⟩ := h.out _ m1; simp only at e; omega, by obtain ⟨x, e, hx, _⟩ := h.out _ m1; simp only at e; omega, m1, m2⟩) (by rw [ev]; exact hl)
    obtain ⟨s', es, _, hm⟩ := hF _ s3
    have es : s = s' := by omega
    subst es
    have sj : s ≤ j := by
      rcases Nat.lt_or_ge j s with q | q
      · rw [h3 s q s2] at hm; cases hm
      · exact q
    have f1 := h.few S hS hF
    have f2 := cntLe_lt (x := c) (y := (j : Int)) s1 (by omega) s3 (by omega)
    simp only [List.length_append, List.length_singleton] at f1 ⊢
    omega
  · have q1 := h.since; have q2 := hk k
    simp only at q1 ⊢
    rw [P_succ]; omega
/-- it is not, and there is none -/
theorem G'.none {a b c d : Int} {o : List Int} (hk : ∀ k, 0 ≤ km k) (h0 : 0 ≤ K0) (hkn : k < n) (h : G' km K0 lim may n k (a, b, c, d, o)) (hl : lim < a + km k) (hb : b ≤ c ∨ lim < d + km k) : ∀ S, Kept km K0 lim S n → Fits may n S → False := by
  intro S hS hF
  have e := kNotIn h.out
  have ev : v km K0 o k = a := by unfold v; rw [if_neg e]; exact h.kmE.symm
  obtain ⟨s, s1, s2, s3, s4⟩ := needs (f := c) hk h0 hS hkn (h.from_.imp id fun ⟨m1, m2⟩ => ⟨by obtain ⟨x, e, _⟩ := h.out _ m1; simp only at e; omega, by obtain ⟨x, e, hx, _⟩ := h.out _ m1; simp only at e; omega, m1, m2⟩) (by rw [ev]; exact hl)
  obtain ⟨s', es, _, hm⟩ := hF _ s3
  have es : s = s' := by omega
  subst es
  rcases h.last with ⟨_, hn⟩ | ⟨j, ej, h1, h2, h3, h4⟩
  · rw [hn s s2] at hm; cases hm
  · simp only at ej h4
    have sj : s ≤ j := by
      rcases Nat.lt_or_ge j s with q | q
      · rw [h3 s q s2] at hm; cases hm
      · exact q
    have := P_mono hk sj
    rw [P_succ] at s4
    omega
theorem G.init (h0 : 0 ≤ K0) : G km K0 lim may n 0 (K0, -1, -1, 0, []) :=
  ⟨rfl, fun k h => by omega, fun p hp => by simp at hp, .inl ⟨rfl, rfl⟩, .inl ⟨rfl, fun j h => by omega⟩, fun S _ _ => Nat.zero_le _, ⟨Int.le_refl _, Int.le_refl _⟩, Nat.le_refl _⟩
end
end Fi

/- Inspections: what positions gives, in the program and in the document. -/
set_option linter.unusedVariables false
set_option linter.unusedSimpArgs false
set_option maxRecDepth 100000
namespace Fi
open Go Hk Hd Pl Hs Fl

structure SetOk (x : S_fleet_Set) (s : S_fleet_Shop) : Prop where
  h0 : 0 ≤ x.Home
  h1 : x.Home ≤ 11
  k0 : 0 ≤ x.Km
  k1 : x.Km ≤ s.Limit
structure ShopOk (s : S_fleet_Shop) : Prop where
  p0 : 0 ≤ s.Place
  p1 : s.Place ≤ 11
  l0 : 0 ≤ s.Long
  l1 : s.Long ≤ 28800
  m0 : 0 ≤ s.Limit
  m1 : s.Limit ≤ 10000
/-- a turn of tasks that are there -/
def Valid (l : List S_fleet_Task) (t : List Int) : Prop := ∀ i : Nat, i < t.length → 0 ≤ nth 0 t (i : Int) ∧ nth 0 t (i : Int) < l.length
section
variable {l : List S_fleet_Task} {t : List Int} {x : S_fleet_Set} {s : S_fleet_Shop}
def kmOf (l : List S_fleet_Task) (t : List Int) (k : Nat) : Int := if k < t.length then (tk l (nth 0 t (k : Int))).Km else 0
def place (l : List S_fleet_Task) (t : List Int) (x : S_fleet_Set) : Nat → Int
  | 0 => x.Home
  | k + 1 => (tk l (nth 0 t (k : Int))).To
def free (l : List S_fleet_Task) (t : List Int) : Nat → Int
  | 0 => 0
  | k + 1 => (tk l (nth 0 t (k : Int))).Arr
def mayB (l : List S_fleet_Task) (t : List Int) (x : S_fleet_Set) (s : S_fleet_Shop) (k : Nat) : Bool :=
  decide (place l t x k = s.Place ∧ (k = t.length ∨ free l t k + s.Long ≤ (tk l (nth 0 t (k : Int))).Dep))
theorem may_eq' (k : Int) : fishref2_canInspect l t x s k = fleet_may l t x s k := rfl
theorem may_ok (hl : TasksOk l) (hv : Valid l t) (hs : ShopOk s) (hn : t.length ≤ 1000) {k : Nat} (hk : k ≤ t.length) : fleet_may l t x s (k : Int) = some (mayB l t x s k) := by
  unfold fleet_may
  have fin : ∀ (p f : Int), p = place l t x k → f = free l t k → 0 ≤ f → f ≤ 28800 →
      ((some (p, f)).bind fun (s13 : Int × Int) => ((ifb (s13.1 == s.Place) (ifb ((k : Int) == ((t.length) : Int)) (some true) ((idx t (k : Int)).bind fun (x21 : Int) => ((idx l x21).bind fun (x22 : S_fleet_Task) => (some (decide (x22.Dep ≥ (w64 (s13.2 + s.Long)))))))) (some false)).bind fun (s20 : Bool) => (some s20))) = some (mayB l t x s k) := by
    intro p f ep ef f0 f1
    have l0 := hs.l0; have l1 := hs.l1
    simp only [Option.bind_some]
    rw [w64_id (x := f + s.Long) (by omega) (by omega)]
    unfold mayB
    rw [← ep, ← ef]
    by_cases q : p = s.Place
    · rw [show (p == s.Place) = true by simpa using q, ifb_true]
      by_cases q2 : k = t.length
      · rw [show (((k : Nat) : Int) == ((t.length : Nat) : Int)) = true by simpa using congrArg (fun n : Nat => (n : Int)) q2, ifb_true]
        simp [q, q2]
      · have q3 : ((k : Nat) : Int) ≠ ((t.length : Nat) : Int) := by omega
        rw [show (((k : Nat) : Int) == ((t.length : Nat) : Int)) = false by simpa using q3, ifb_false]
        have h := hv k (by omega)
        rw [idx_nth 0 (xs := t) (by omega) (by omega)]
        simp only [Option.bind_some]
        rw [tk_idx h.1 h.2]
        simp [q, q2]
    · rw [show (p == s.Place) = false by simpa using q, ifb_false]
      simp [q]
  cases k with
  | zero => exact fin x.Home 0 rfl rfl (by omega) (by omega)
  | succ k =>
    have h := hv k (by omega)
    have kk := hl.at h.1 h.2
    have d0 := kk.d0; have da := kk.da; have a1 := kk.a1
    rw [show decide (((k + 1 : Nat) : Int) > 0) = true from decide_eq_true (by omega), ifb_true, w64_id (x := ((k + 1 : Nat) : Int) - 1) (by omega) (by omega), show ((k + 1 : Nat) : Int) - 1 = (k : Int) by omega, idx_nth 0 (xs := t) (i := (k : Int)) (by omega) (by omega)]
    simp only [Option.bind_some]
    rw [tk_idx h.1 h.2]
    exact fin _ _ rfl rfl (by omega) a1
theorem km_nn (hl : TasksOk l) (hv : Valid l t) (k : Nat) : 0 ≤ kmOf l t k ∧ kmOf l t k ≤ 10000 := by
  unfold kmOf
  split
  · rename_i h
    have h := hv k h
    have kk := hl.at h.1 h.2
    exact ⟨kk.k0, kk.k1⟩
  · omega
theorem P_bd (hl : TasksOk l) (hv : Valid l t) : ∀ k : Nat, 0 ≤ P (kmOf l t) k ∧ P (kmOf l t) k ≤ 10000 * k
  | 0 => by simp [P, sumN]
  | k + 1 => by
    have := P_bd hl hv k; have := km_nn hl hv k
    rw [P_succ]; omega
theorem u_bd (hl : TasksOk l) (hv : Valid l t) {K0 : Int} (h0 : 0 ≤ K0) (S : List Int) : ∀ k : Nat, 0 ≤ u (kmOf l t) K0 S k ∧ u (kmOf l t) K0 S k ≤ K0 + 10000 * k
  | 0 => by simp [u, h0]
  | k + 1 => by
    have := u_bd hl hv h0 S k; have := km_nn hl hv k
    rw [u_succ, v]
    split <;> omega
/-- what the search finds -/
def Found (l : List S_fleet_Task) (t : List Int) (x : S_fleet_Set) (s : S_fleet_Shop) (S : List Int) : Prop := Kept (kmOf l t) x.Km s.Limit S t.length ∧ Fits (mayB l t x s) t.length S
theorem positions_ok (hl : TasksOk l) (hv : Valid l t) (hs : ShopOk s) (hx : SetOk x s) (hn : t.length ≤ 1000) :
    Tot (fleet_positions l t x s) fun r => r.1 = true ∧ Found l t x s r.2 ∧ (∀ S, Found l t x s S → r.2.length ≤ S.length) ∨ r = (false, []) ∧ ∀ S, ¬ Found l t x s S := by
  have k0 := hx.k0; have k1 := hx.k1; have m0 := hs.m0; have m1 := hs.m1
  have hk : ∀ k, 0 ≤ kmOf l t k := fun k => (km_nn hl hv k).1
  unfold fleet_positions
  rw [w64_id (x := (t.length : Int) + 1) (by omega) (by omega), glim_eq (by omega)]
  simp only [Option.bind_some]
  rw [show ((t.length : Int) + 1).toNat = t.length + 1 by omega]
  refine tot_loopN (I := fun k st => k ≤ t.length ∧ G (kmOf l t) x.Km s.Limit (mayB l t x s) t.length k st ∨ k = t.length + 1 ∧ False)
    (J := fun st => Found l t x s st.2.2.2.2 ∧ ∀ S, Found l t x s S → st.2.2.2.2.length ≤ S.length) (E := fun r => r = (false, []) ∧ ∀ S, ¬ Found l t x s S)
    (.inl ⟨Nat.zero_le _, G.init k0⟩) (fun k st hk1 hI => ?_) (fun st hI => hI.elim (fun h => by omega) fun h => h.2.elim) (fun st hJ => tot_some (.inl ⟨rfl, hJ⟩)) (fun r hr => tot_some (.inr hr))
  have hG := (hI.resolve_right fun h => h.2).2
  obtain ⟨a, b, c, d, o⟩ := st
  have hG' := hG.look hk
  unfold fleet_positions_b1
  rw [may_ok hl hv hs hn (by omega)]
  simp only [Option.bind_some]
  have e1 : ifb (mayB l t x s k) (some ((k : Int), (0 : Int))) (some (b, d)) = some (if mayB l t x s k = true then (k : Int) else b, if mayB l t x s k = true then 0 else d) := by
    cases mayB l t x s k <;> rfl
  rw [e1]
  simp only [Option.bind_some]
  generalize (if mayB l t x s k = true then (k : Int) else b) = b' at hG'
  generalize (if mayB l t x s k = true then (0 : Int) else d) = d' at hG'
  refine tot_ifb (fun q => ?_) fun q => ?_
  · have q : k = t.length := by
      have : ((k : Nat) : Int) = ((t.length : Nat) : Int) := by simpa using q
      omega
    subst q
    refine tot_some ⟨⟨hG'.kept, fun p hp => ?_⟩, fun S hS => ?_⟩
    · obtain ⟨j, e, hj, hm⟩ := hG'.out p hp
      exact ⟨j, e, by omega, hm⟩
    · have h1 := hG'.few S hS.1 hS.2
      have h2 := cntLe_le S c
      simp only at h1 ⊢
      omega
  · have q : k ≠ t.length := fun e => by
      subst e; simp at q
    have hkn : k < t.length := by omega
    have h := hv k hkn
    have ekm : (tk l (nth 0 t (k : Int))).Km = kmOf l t k := by unfold kmOf; rw [if_pos hkn]
    have b1 := km_nn hl hv k
    have b2 := u_bd hl hv k0 o k
    have b3 := hG'.kmE
    have b4 := P_bd hl hv k
    have b5 := hG'.since
    have b6 := hG'.len
    simp only at b3 b5 b6
    rw [idx_nth 0 (xs := t) (i := (k : Int)) (by omega) (by omega)]
    simp only [Option.bind_some]
    rw [tk_idx h.1 h.2]
    simp only [Option.bind_some]
    rw [ekm, w64_id (x := a + kmOf l t k) (by omega) (by omega), w64_id (x := d' + kmOf l t k) (by omega) (by omega)]
    refine tot_ifb (fun q => ?_) fun q => ?_
    · have q := of_decide_eq_true q
      exact tot_some (.inl ⟨by omega, hG'.ok hk q⟩)
    · have q := of_decide_eq_false q
      by_cases q2 : b' ≤ c ∨ s.Limit < d' + kmOf l t k
      · have e2 : (ifb (decide (b' ≤ c)) (some true) (some (decide (d' + kmOf l t k > s.Limit)))) = some true := by
          rcases q2 with q2 | q2
          · rw [decide_eq_true q2]; rfl
          · rw [show decide (d' + kmOf l t k > s.Limit) = true from decide_eq_true q2]; cases decide (b' ≤ c) <;> rfl
        rw [e2]
        exact tot_some ⟨rfl, fun S hS => hG'.none hk k0 hkn (by omega) q2 S hS.1 hS.2⟩
      · have e2 : (ifb (decide (b' ≤ c)) (some true) (some (decide (d' + kmOf l t k > s.Limit)))) = some false := by
          rw [show decide (b' ≤ c) = false from decide_eq_false (by omega), show decide (d' + kmOf l t k > s.Limit) = false from decide_eq_false (by omega)]; rfl
        rw [e2]
        simp only [Option.bind_some, ifb_false]
        rw [gapp_eq (by simp only [apRoom, List.length_singleton]; omega) (by simp only [maxLen, List.length_singleton]; omega)]
        exact tot_some (.inl ⟨by omega, hG'.put hk k0 hkn (by omega) (by omega) (by omega)⟩)

/-! ### the document's search -/
theorem kept_ok (hl : TasksOk l) (hv : Valid l t) (hs : ShopOk s) (hx : SetOk x s) (hn : t.length ≤ 1000) (S : List Int) (hS : S.length ≤ 1000000) :
    Tot (fishref2_kept l t x s S) fun b => b = true ↔ Kept (kmOf l t) x.Km s.Limit S t.length := by
  have k0 := hx.k0; have k1 := hx.k1; have m0 := hs.m0; have m1 := hs.m1
  unfold fishref2_kept
  rw [w64_id (x := (t.length : Int) + 1) (by omega) (by omega), glim_eq (by omega)]
  simp only [Option.bind_some]
  rw [show ((t.length : Int) + 1).toNat = t.length + 1 by omega]
  refine tot_loopN (I := fun k a => (k ≤ t.length → a = u (kmOf l t) x.Km S k) ∧ ∀ j, j < k → j < t.length → v (kmOf l t) x.Km S j + kmOf l t j ≤ s.Limit) (J := fun _ => Kept (kmOf l t) x.Km s.Limit S t.length)
    (E := fun r => r = false ∧ ¬ Kept (kmOf l t) x.Km s.Limit S t.length) ⟨fun _ => rfl, fun j h => by omega⟩ (fun k a hk1 hI => ?_) (fun a hI j hj => hI.2 j (by omega) hj) (fun a hJ => tot_some ⟨fun _ => hJ, fun _ => rfl⟩) (fun r hr => tot_some ?_)
  · obtain ⟨h1, h2⟩ := hI
    have h1 := h1 (by omega)
    subst h1
    unfold fishref2_kept_b1
    rw [contains_ok _ _ hS]
    simp only [Option.bind_some]
    have e1 : ifb (decide ((k : Int) ∈ S)) (some (0 : Int)) (some (u (kmOf l t) x.Km S k)) = some (v (kmOf l t) x.Km S k) := by
      unfold v
      by_cases q : (k : Int) ∈ S
      · rw [decide_eq_true q, if_pos q]; rfl
      · rw [decide_eq_false q, if_neg q]; rfl
    rw [e1]
    simp only [Option.bind_some]
    refine tot_ifb (fun q => ?_) fun q => ?_
    · have q := of_decide_eq_true q
      have hkn : k < t.length := by omega
      have h := hv k hkn
      have ekm : (tk l (nth 0 t (k : Int))).Km = kmOf l t k := by unfold kmOf; rw [if_pos hkn]
      have b1 := km_nn hl hv k
      have b2 := u_bd hl hv k0 S k
      have b3 : 0 ≤ v (kmOf l t) x.Km S k ∧ v (kmOf l t) x.Km S k ≤ x.Km + 10000 * k := by unfold v; split <;> omega
      rw [idx_nth 0 (xs := t) (i := (k : Int)) (by omega) (by omega)]
      simp only [Option.bind_some]
      rw [tk_idx h.1 h.2]
      simp only [Option.bind_some]
      rw [ekm, w64_id (x := v (kmOf l t) x.Km S k + kmOf l t k) (by omega) (by omega)]
      refine tot_ifb (fun q2 => ?_) fun q2 => ?_
      · have q2 := of_decide_eq_true q2
        exact tot_some ⟨rfl, fun hK => by have := hK k hkn; omega⟩
      · have q2 := of_decide_eq_false q2
        refine tot_some ⟨fun _ => rfl, fun j hj hjn => ?_⟩
        by_cases e : j = k
        · subst e; omega
        · exact h2 j (by omega) hjn
    · have q := of_decide_eq_false q
      exact tot_some ⟨fun h => by omega, fun j hj hjn => h2 j (by omega) hjn⟩
  · obtain ⟨rfl, h⟩ := hr
    exact ⟨fun e => (by cases e), fun hK => absurd hK h⟩
/-- all positions that may be -/
def mays (m : Nat → Bool) (n : Nat) : List Int := ((List.range n).filter m).map fun (k : Nat) => (k : Int)
theorem mem_mays {m : Nat → Bool} {n : Nat} {p : Int} : p ∈ mays m n ↔ ∃ k : Nat, p = k ∧ k < n ∧ m k = true := by
  unfold mays
  simp only [List.mem_map, List.mem_filter, List.mem_range]
  constructor
  · rintro ⟨k, ⟨h1, h2⟩, rfl⟩; exact ⟨k, rfl, h1, h2⟩
  · rintro ⟨k, rfl, h1, h2⟩; exact ⟨k, ⟨h1, h2⟩, rfl⟩
theorem mays_succ (m : Nat → Bool) (n : Nat) : mays m (n + 1) = if m n = true then mays m n ++ [(n : Int)] else mays m n := by
  unfold mays
  rw [List.range_succ, List.filter_append]
  by_cases h : m n = true
  · rw [if_pos h]; simp [List.filter_cons, h]
  · rw [if_neg h]; simp [List.filter_cons, h]
theorem mays_len (m : Nat → Bool) (n : Nat) : (mays m n).length ≤ n := by
  unfold mays
  rw [List.length_map]
  exact Nat.le_trans (List.length_filter_le _ _) (by simp)
theorem mays_sorted (m : Nat → Bool) (n : Nat) : (mays m n).Pairwise (· < ·) := by
  unfold mays
  refine List.pairwise_map.2 ((List.Pairwise.filter m List.pairwise_lt_range).imp fun h => by omega)
theorem bit_ok {q : Int} (h0 : 0 ≤ q) (h1 : q < 4611686018427387904) : Hd.iand .i64 q 1 = q % 2 := by
  obtain ⟨n, rfl⟩ : ∃ n : Nat, q = n := ⟨q.toNat, by omega⟩
  unfold Hd.iand
  have e : (BitVec.ofInt IntKind.i64.bits (n : Int) &&& BitVec.ofInt IntKind.i64.bits 1).toNat = n % 2 := by
    rw [BitVec.toNat_and]
    have e1 : (BitVec.ofInt IntKind.i64.bits 1).toNat = 1 := by decide
    have e2 : (BitVec.ofInt IntKind.i64.bits (n : Int)).toNat = n := by
      rw [show IntKind.i64.bits = 64 from rfl]
      simp only [BitVec.toNat_ofInt]
      omega
    rw [e1, e2, Nat.and_one_is_mod]
  rw [e, IntKind.wrap_i64]
  omega
theorem shr_ok {a : Int} {i : Nat} (h : 0 ≤ a) (hi : i < 60) : gshr .i64 a (i : Int) = some (a / ((2 ^ i : Nat) : Int)) := by
  unfold gshr
  rw [if_neg (by omega), show min ((i : Int)).toNat IntKind.i64.bits = i by simp only [show IntKind.i64.bits = 64 from rfl]; omega, Int.fdiv_eq_ediv_of_nonneg _ (Int.natCast_nonneg _)]
theorem bits_exist : ∀ (m : Nat) (p : Nat → Bool), ∃ b : Nat, b < 2 ^ m ∧ ∀ i, i < m → (b / 2 ^ i % 2 = 1 ↔ p i = true)
  | 0, _ => ⟨0, by simp, fun i h => by omega⟩
  | m + 1, p => by
    obtain ⟨b, h1, h2⟩ := bits_exist m fun i => p (i + 1)
    obtain ⟨c, c1, c2⟩ : ∃ c : Nat, c ≤ 1 ∧ (c = 1 ↔ p 0 = true) := by
      cases p 0
      · exact ⟨0, by omega, by simp⟩
      · exact ⟨1, by omega, by simp⟩
    refine ⟨2 * b + c, by rw [Nat.pow_succ]; omega, fun i hi => ?_⟩
    cases i with
    | zero =>
      simp only [Nat.pow_zero, Nat.div_one]
      rw [← c2]; omega
    | succ i =>
      rw [Nat.pow_succ, Nat.mul_comm (2 ^ i) 2, ← Nat.div_div_eq_div_mul, show (2 * b + c) / 2 = b by omega]
      exact h2 i (by omega)
/-- the positions that the bits name -/
def named (ms : List Int) (b : Nat) : Nat → List Int
  | 0 => []
  | i + 1 => if b / 2 ^ i % 2 = 1 then named ms b i ++ [nth 0 ms (i : Int)] else named ms b i
theorem named_len (ms : List Int) (b : Nat) : ∀ i, (named ms b i).length ≤ i
  | 0 => Nat.le_refl _
  | i + 1 => by
    have := named_len ms b i
    unfold named
    split
    · simp; omega
    · omega
theorem mem_named {ms : List Int} {b : Nat} {p : Int} : ∀ {i : Nat}, p ∈ named ms b i ↔ ∃ j, j < i ∧ b / 2 ^ j % 2 = 1 ∧ p = nth 0 ms (j : Int)
  | 0 => by simp [named]
  | i + 1 => by
    unfold named
    by_cases h : b / 2 ^ i % 2 = 1
    · rw [if_pos h, List.mem_append, mem_named (i := i), List.mem_singleton]
      constructor
      · rintro (⟨j, a, c, d⟩ | e)
        · exact ⟨j, by omega, c, d⟩
        · exact ⟨i, by omega, h, e⟩
      · rintro ⟨j, a, c, d⟩
        by_cases e : j = i
        · subst e; exact .inr d
        · exact .inl ⟨j, by omega, c, d⟩
    · rw [if_neg h, mem_named (i := i)]
      constructor
      · rintro ⟨j, a, c, d⟩; exact ⟨j, by omega, c, d⟩
      · rintro ⟨j, a, c, d⟩
        by_cases e : j = i
        · subst e; exact absurd c h
        · exact ⟨j, by omega, c, d⟩
theorem b4_ok {ms : List Int} {b : Nat} (hm : ms.length ≤ 12) (hb : b < 2 ^ 12) {F : List Int → Option (Ctl (Bool × List Int) (Ctl (Bool × List Int) Empty))} {H : Empty → Option (Ctl (Bool × List Int) (Ctl (Bool × List Int) Empty))} {Q : Ctl (Bool × List Int) (Ctl (Bool × List Int) Empty) → Prop}
    (hF : Tot (F (named ms b ms.length)) Q) : Tot ((forX (fishref2_positions_b4 b) ms ([] : List Int)).bind fun c => Ctl.on c F H) Q := by
  refine tot_loopX (I := fun i st => st = named ms b i) (J := fun st => st = named ms b ms.length) (E := fun _ => False) rfl (fun i y st hy hI => ?_) (fun st h => h) (fun st h => by rw [h]; exact hF) (fun _ h => h.elim)
  subst hI
  have hi := (List.getElem?_eq_some_iff.1 hy).1
  unfold fishref2_positions_b4
  rw [shr_ok (by omega) (by omega)]
  simp only [Option.bind_some]
  have e1 : ((b : Nat) : Int) / ((2 ^ i : Nat) : Int) = ((b / 2 ^ i : Nat) : Int) := (Int.natCast_ediv b (2 ^ i)).symm
  have e2 : b / 2 ^ i ≤ b := Nat.div_le_self _ _
  have nl := named_len ms b i
  have es : named ms b (i + 1) = if b / 2 ^ i % 2 = 1 then named ms b i ++ [nth 0 ms (i : Int)] else named ms b i := rfl
  rw [nth_nat 0 hy] at es
  rw [e1]
  generalize b / 2 ^ i = w at e2 es
  rw [bit_ok (by omega) (by omega)]
  refine tot_ifb (fun q => ?_) fun q => ?_
  · have q : ((w : Nat) : Int) % 2 = 1 := by simpa using q
    rw [gapp_eq (by simp only [apRoom, List.length_singleton]; omega) (by simp only [maxLen, List.length_singleton]; omega)]
    refine tot_some ?_
    show _ = named ms b (i + 1)
    rw [es, if_pos (by omega)]
  · have q : ((w : Nat) : Int) % 2 ≠ 1 := by simpa using q
    refine tot_some ?_
    show _ = named ms b (i + 1)
    rw [es, if_neg (by omega)]
theorem compareL_ok (a b : List Int) : Tot (slices_Compare_int_int a b) fun _ => True := by
  unfold slices_Compare_int_int
  refine tot_allX (P := fun _ _ => True) (E := fun _ => True) (fun i y hy => ?_) (fun _ => ?_) (fun _ _ => tot_some trivial)
  · unfold slices_Compare_int_int_b1
    refine tot_ifb (fun q => tot_some trivial) fun q => ?_
    have q := of_decide_eq_false q
    rw [idx_nth 0 (xs := b) (by omega) (by omega)]
    simp only [Option.bind_some, compare_eq]
    refine tot_ifb (fun q => tot_some trivial) fun q => tot_some trivial
  · exact tot_ifb (fun _ => tot_some trivial) fun _ => tot_some trivial
end
end Fi

/- Inspections: the document's search finds positions just if there are some. -/
set_option linter.unusedVariables false
set_option linter.unusedSimpArgs false
set_option maxRecDepth 100000
namespace Fi
open Go Hk Hd Pl Hs Fl

theorem sub_len : ∀ {a b : List Int}, a.Nodup → (∀ x ∈ a, x ∈ b) → a.length ≤ b.length
  | [], _, _, _ => Nat.zero_le _
  | x :: a, b, hn, hs => by
    obtain ⟨h1, h2⟩ := List.nodup_cons.1 hn
    have hx := hs x (by simp)
    have := sub_len (a := a) (b := b.erase x) h2 fun y hy => (List.mem_erase_of_ne (fun e : y = x => h1 (by subst e; exact hy))).2 (hs y (by simp [hy]))
    rw [List.length_erase_of_mem hx] at this
    have := List.length_pos_of_mem hx
    simp only [List.length_cons]; omega
section
variable {l : List S_fleet_Task} {t : List Int} {x : S_fleet_Set} {s : S_fleet_Shop}
theorem u_cong {km km' : Nat → Int} {K0 : Int} {S : List Int} : ∀ {k : Nat}, (∀ i, i < k → km i = km' i) → u km K0 S k = u km' K0 S k
  | 0, _ => rfl
  | k + 1, h => by rw [u_succ, u_succ, v, v, u_cong fun i hi => h i (by omega), h k (by omega)]
theorem kept_cong {km km' : Nat → Int} {K0 lim : Int} {S : List Int} {n : Nat} (h : ∀ i, i < n → km i = km' i) : Kept km K0 lim S n ↔ Kept km' K0 lim S n := by
  have key : ∀ {km km' : Nat → Int}, (∀ i, i < n → km i = km' i) → Kept km K0 lim S n → Kept km' K0 lim S n := fun {km km'} h hK j hj => by
    have := hK j hj
    unfold v at this ⊢
    rwa [u_cong (k := j) (km' := km') fun i hi => h i (by omega), h j hj] at this
  exact ⟨key h, key fun i hi => (h i hi).symm⟩
theorem kept_same {km : Nat → Int} {K0 lim : Int} {S S' : List Int} {n : Nat} (h : ∀ j : Nat, j < n → ((j : Int) ∈ S ↔ (j : Int) ∈ S')) (hK : Kept km K0 lim S n) : Kept km K0 lim S' n := fun k hk => by
  rw [← v_same (S := S) fun j hj => h j (by omega)]; exact hK k hk
theorem valid_take (hv : Valid l t) (k : Nat) : Valid l (t.take k) := fun i hi => by
  simp only [List.length_take] at hi
  have := hv i (by omega)
  have e : nth 0 (t.take k) (i : Int) = nth 0 t (i : Int) := by
    unfold nth
    rw [Int.toNat_natCast, List.getElem?_take_of_lt (by omega)]
  rw [e]; exact this
theorem km_take {k j : Nat} (hk : k ≤ t.length) (hj : j < k) : kmOf l (t.take k) j = kmOf l t j := by
  unfold kmOf
  rw [if_pos (by simp; omega), if_pos (by omega)]
  have e : nth 0 (t.take k) (j : Int) = nth 0 t (j : Int) := by
    unfold nth
    rw [Int.toNat_natCast, List.getElem?_take_of_lt hj]
  rw [e]
theorem first_bad {km : Nat → Int} {K0 lim : Int} {S : List Int} {n : Nat} (h : ¬ Kept km K0 lim S n) : ∃ k, k < n ∧ Kept km K0 lim S k ∧ lim < v km K0 S k + km k := by
  induction n with
  | zero => exact absurd (fun k hk => by omega) h
  | succ n ih =>
    by_cases q : Kept km K0 lim S n
    · refine ⟨n, by omega, q, ?_⟩
      refine Classical.byContradiction fun c => h fun k hk => ?_
      by_cases e : k = n
      · subst e; omega
      · exact q k (by omega)
    · obtain ⟨k, h1, h2⟩ := ih q
      exact ⟨k, by omega, h2⟩
theorem kept_mono {km : Nat → Int} {K0 lim : Int} {S : List Int} {n m : Nat} (h : Kept km K0 lim S n) (hm : m ≤ n) : Kept km K0 lim S m := fun k hk => h k (by omega)
theorem kept_pre (hl : TasksOk l) (hv : Valid l t) (hs : ShopOk s) (hx : SetOk x s) (hn : t.length ≤ 1000) (S : List Int) (hS : S.length ≤ 1000000) {k : Nat} (hk : k ≤ t.length) :
    Tot (fishref2_kept l (t.take k) x s S) fun b => b = true ↔ Kept (kmOf l t) x.Km s.Limit S k := by
  refine tot_mono (kept_ok hl (valid_take hv k) hs hx (by simp; omega) S hS) fun b hb => hb.trans ?_
  rw [List.length_take, Nat.min_eq_left hk]
  exact kept_cong fun i hi => km_take hk hi

theorem latest_ok (hl : TasksOk l) (hv : Valid l t) (hs : ShopOk s) (hx : SetOk x s) (hn : t.length ≤ 1000) :
    Tot (fishref2_latest l t x s (mays (mayB l t x s) (t.length + 1))) fun r => r.1 = true ↔ ∃ S, Found l t x s S := by
  have k0 := hx.k0
  have hk : ∀ k, 0 ≤ kmOf l t k := fun k => (km_nn hl hv k).1
  generalize hms : mays (mayB l t x s) (t.length + 1) = ms
  have hml : ms.length ≤ t.length + 1 := by rw [← hms]; exact mays_len _ _
  have hmem : ∀ p, p ∈ ms ↔ ∃ k : Nat, p = k ∧ k ≤ t.length ∧ mayB l t x s k = true := fun p => by
    rw [← hms, mem_mays]
    exact ⟨fun ⟨k, a, b, c⟩ => ⟨k, a, by omega, c⟩, fun ⟨k, a, b, c⟩ => ⟨k, a, by omega, c⟩⟩
  have hsrt : ms.Pairwise (· < ·) := by rw [← hms]; exact mays_sorted _ _
  have fitsOf : ∀ {S : List Int}, (∀ p ∈ S, p ∈ ms) ↔ Fits (mayB l t x s) t.length S := fun {S} => ⟨fun h p hp => (hmem p).1 (h p hp), fun h p hp => (hmem p).2 (h p hp)⟩
  unfold fishref2_latest
  rw [w64_id (x := (ms.length : Int) + 1) (by omega) (by omega), glim_eq (by omega)]
  simp only [Option.bind_some]
  rw [show ((ms.length : Int) + 1).toNat = ms.length + 1 by omega]
  refine tot_loopN (I := fun i o => o.length = i ∧ (∀ p ∈ o, p ∈ ms) ∧ o.Pairwise (· < ·) ∧ ∃ f : Int, (f = -1 ∧ o = [] ∨ 0 ≤ f ∧ f ∈ o ∧ (∀ p ∈ o, p ≤ f) ∧ 1 ≤ o.length ∧ nth 0 o ((o.length : Int) - 1) = f ∧ Kept (kmOf l t) x.Km s.Limit o f.toNat) ∧ ∀ S, Found l t x s S → i ≤ cntLe S f)
    (J := fun _ => False) (E := fun r => r.1 = true ↔ ∃ S, Found l t x s S) ⟨rfl, fun p hp => by simp at hp, .nil, -1, .inl ⟨rfl, rfl⟩, fun S _ => Nat.zero_le _⟩ (fun i o hi hI => ?_) (fun o hI => ?_) (fun _ h => h.elim) (fun r hr => tot_some hr)
  · obtain ⟨g1, g2, g3, f, g4, g5⟩ := hI
    unfold fishref2_latest_b1
    refine tot_bind (kept_ok hl hv hs hx hn o (by omega)) fun b _ hb => ?_
    refine tot_ifb (fun q => ?_) fun q => ?_
    · exact tot_some ⟨fun _ => ⟨o, hb.1 q, fitsOf.1 g2⟩, fun _ => rfl⟩
    · have hnk : ¬ Kept (kmOf l t) x.Km s.Limit o t.length := fun h => by have := hb.2 h; rw [q] at this; cases this
      obtain ⟨kb, b1, b2, b3⟩ := first_bad hnk
      have hfk : f = -1 ∧ o = [] ∨ 0 ≤ f ∧ f ≤ kb ∧ f ∈ o ∧ ∀ p ∈ o, p ≤ f := g4.imp id fun ⟨c1, c2, c3, _, _, c4⟩ => ⟨c1, by
        rcases Int.lt_or_le (kb : Int) f with h | h
        · have := c4 kb (by omega); omega
        · exact h, c2, c3⟩
      -- what any list that does needs
      have need : ∀ S, Found l t x s S → ∃ p : Nat, f < p ∧ p ≤ kb ∧ (p : Int) ∈ S ∧ (p : Int) ∈ ms := fun S hS => by
        obtain ⟨p, p1, p2, p3, _⟩ := needs hk k0 hS.1 b1 hfk b3
        exact ⟨p, p1, p2, p3, fitsOf.2 hS.2 _ p3⟩
      have hf1 : -1 ≤ f := by rcases g4 with ⟨e, _⟩ | ⟨e, _⟩ <;> omega
      refine tot_loopX (I := fun j best => (best = -1 ∨ best ∈ ms ∧ f < best ∧ Kept (kmOf l t) x.Km s.Limit o best.toNat ∧ ∃ j', j' < j ∧ ms[j']? = some best) ∧ ∀ (j' : Nat) p, j' < j → ms[j']? = some p → f < p → Kept (kmOf l t) x.Km s.Limit o p.toNat → p ≤ best)
        (J := fun best => (best = -1 ∨ best ∈ ms ∧ f < best ∧ Kept (kmOf l t) x.Km s.Limit o best.toNat) ∧ ∀ p ∈ ms, f < p → Kept (kmOf l t) x.Km s.Limit o p.toNat → p ≤ best) (E := fun _ => False)
        ⟨.inl rfl, fun j' p h => by omega⟩ (fun j y best hy hI => ?_) (fun best hI => ?_) (fun best hJ => ?_) (fun _ h => h.elim)
      · obtain ⟨i1, i2⟩ := hI
        have hym := List.mem_of_getElem? hy
        obtain ⟨ky, rfl, ky1, ky2⟩ := (hmem y).1 hym
        unfold fishref2_latest_b2
        refine tot_bind (P := fun c => c = decide ((ky : Int) ≤ f)) ?_ fun c _ hc => ?_
        · rcases g4 with ⟨e, eo⟩ | ⟨c1, c2, c3, c4, c5, c6⟩
          · subst e eo
            exact tot_some (decide_eq_false (by omega)).symm
          · rw [show decide (((o.length : Nat) : Int) > 0) = true from decide_eq_true (by omega), ifb_true, w64_id (by omega) (by omega), idx_nth 0 (xs := o) (by omega) (by omega), c5]
            exact tot_some rfl
        subst hc
        refine tot_ifb (fun q => ?_) fun q => ?_
        · have q := of_decide_eq_true q
          refine tot_some ⟨i1.imp id fun ⟨a, b, c, j', d, e⟩ => ⟨a, b, c, j', by omega, e⟩, fun j' p hj hp hfp hK => ?_⟩
          by_cases e : j' = j
          · subst e; rw [hy] at hp; injection hp with hp; omega
          · exact i2 j' p (by omega) hp hfp hK
        · have q := of_decide_eq_false q
          rw [gcut_eq (by omega) (by omega) (by omega)]
          simp only [Option.bind_some, Int.toNat_zero, List.drop_zero, Int.toNat_natCast]
          refine tot_bind (kept_pre hl hv hs hx hn o (by omega) ky1) fun b _ hb => ?_
          refine tot_ifb (fun q2 => ?_) fun q2 => ?_
          · refine tot_some ⟨.inr ⟨hym, by omega, by simpa using hb.1 q2, j, by omega, hy⟩, fun j' p hj hp hfp hK => ?_⟩
            by_cases e : j' = j
            · subst e; rw [hy] at hp; injection hp with hp; omega
            · obtain ⟨a1, e1⟩ := List.getElem?_eq_some_iff.1 hp
              obtain ⟨a2, e2⟩ := List.getElem?_eq_some_iff.1 hy
              have := List.pairwise_iff_getElem.1 hsrt j' j a1 a2 (by omega)
              omega
          · refine tot_some ⟨i1.imp id fun ⟨a, b, c, j', d, e⟩ => ⟨a, b, c, j', by omega, e⟩, fun j' p hj hp hfp hK => ?_⟩
            by_cases e : j' = j
            · subst e; rw [hy] at hp; injection hp with hp; subst hp
              rw [hb.2 (by simpa using hK)] at q2; cases q2
            · exact i2 j' p (by omega) hp hfp hK
      · obtain ⟨i1, i2⟩ := hI
        refine ⟨i1.imp id fun ⟨a, b, c, _⟩ => ⟨a, b, c⟩, fun p hp hfp hK => ?_⟩
        obtain ⟨j', hj'⟩ := List.getElem?_of_mem hp
        exact i2 j' p (List.getElem?_eq_some_iff.1 hj').1 hj' hfp hK
      · obtain ⟨i1, i2⟩ := hJ
        refine tot_ifb (fun q => ?_) fun q => ?_
        · have q := of_decide_eq_true q
          refine tot_some ⟨fun e => (by cases e), fun ⟨S, hS⟩ => ?_⟩
          obtain ⟨p, p1, p2, p3, p4⟩ := need S hS
          have := i2 p p4 p1 (kept_mono b2 (by omega))
          omega
        · have q := of_decide_eq_false q
          obtain ⟨c1, c2, c3⟩ := i1.resolve_left (by omega)
          have ho : ∀ p ∈ o, p ≤ f := by
            rcases g4 with ⟨_, eo⟩ | ⟨_, _, c, _⟩
            · subst eo; intro p hp; simp at hp
            · exact c
          rw [gapp_eq (by simp only [apRoom, List.length_singleton]; omega) (by simp only [maxLen, List.length_singleton]; omega)]
          refine tot_some ⟨by simp; omega, fun p hp => ?_, List.pairwise_append.2 ⟨g3, by simp, fun a ha b hb => ?_⟩, best, .inr ⟨by omega, by simp, fun p hp => ?_, by simp, ?_, ?_⟩, fun S hS => ?_⟩
          · rcases List.mem_append.1 hp with hp | hp
            · exact g2 p hp
            · simp only [List.mem_singleton] at hp; subst hp; exact c1
          · simp only [List.mem_singleton] at hb; subst hb
            have := ho a ha; omega
          · rcases List.mem_append.1 hp with hp | hp
            · have := ho p hp; omega
            · simp only [List.mem_singleton] at hp; omega
          · rw [nth_snoc 0 o best _ (by simp), if_neg (by simp), if_pos (by simp)]
          · refine kept_same (S := o) (fun j hj => ?_) c3
            rw [List.mem_append, List.mem_singleton]
            exact ⟨.inl, fun h => h.elim id fun e => by omega⟩
          · obtain ⟨p, p1, p2, p3, p4⟩ := need S hS
            have := i2 p p4 p1 (kept_mono b2 (by omega))
            have h2 := cntLe_lt (x := f) (y := best) p1 (by omega) p3 (by omega)
            have h1 := g5 S hS
            omega
  · obtain ⟨g1, g2, g3, _⟩ := hI
    have := sub_len (g3.imp fun h => by omega) g2
    omega
theorem shl_ok {m : Nat} (h : m ≤ 12) : gshl .i64 1 (m : Int) = some ((2 ^ m : Nat) : Int) := by
  have : ∀ m : Nat, m ≤ 12 → gshl .i64 1 (m : Int) = some ((2 ^ m : Nat) : Int) := by
    intro m hm
    rcases m with _ | _ | _ | _ | _ | _ | _ | _ | _ | _ | _ | _ | _ | m
    all_goals first | rfl | omega
  exact this m h
theorem refpos_ok (hl : TasksOk l) (hv : Valid l t) (hs : ShopOk s) (hx : SetOk x s) (hn : t.length ≤ 1000) :
    Tot (fishref2_positions l t x s) fun r => r.1 = true ↔ ∃ S, Found l t x s S := by
  unfold fishref2_positions
  rw [w64_id (x := (t.length : Int) + 1) (by omega) (by omega), glim_eq (by omega)]
  simp only [Option.bind_some]
  rw [show ((t.length : Int) + 1).toNat = t.length + 1 by omega]
  refine tot_loopN (I := fun i o => o = mays (mayB l t x s) i) (J := fun o => o = mays (mayB l t x s) (t.length + 1)) (E := fun _ => False) rfl (fun i o hi hI => ?_) (fun o h => h) (fun o hJ => ?_) (fun _ h => h.elim)
  · subst hI
    unfold fishref2_positions_b1
    rw [may_eq', may_ok hl hv hs hn (by omega)]
    simp only [Option.bind_some]
    have e := mays_succ (mayB l t x s) i
    have h1 := mays_len (mayB l t x s) i
    refine tot_ifb (fun q => ?_) fun q => ?_
    · rw [if_pos q] at e
      rw [gapp_eq (by simp only [apRoom, List.length_singleton]; omega) (by simp only [maxLen, List.length_singleton]; omega)]
      exact tot_some e.symm
    · rw [if_neg (by rw [q]; decide)] at e
      exact tot_some e.symm
  subst hJ
  have hml := mays_len (mayB l t x s) (t.length + 1)
  refine tot_ifb (fun q => ?_) fun q => ?_
  · exact tot_bind (latest_ok hl hv hs hx hn) fun r _ hr => tot_some hr
  have q := of_decide_eq_false q
  generalize hms : mays (mayB l t x s) (t.length + 1) = ms at hml q
  have hmem : ∀ p, p ∈ ms ↔ ∃ k : Nat, p = k ∧ k ≤ t.length ∧ mayB l t x s k = true := fun p => by
    rw [← hms, mem_mays]
    exact ⟨fun ⟨k, a, b, c⟩ => ⟨k, a, by omega, c⟩, fun ⟨k, a, b, c⟩ => ⟨k, a, by omega, c⟩⟩
  have hm12 : ms.length ≤ 12 := by omega
  rw [w64_id (x := (ms.length : Int) + 1) (by omega) (by omega), glim_eq (by omega)]
  simp only [Option.bind_some]
  rw [show ((ms.length : Int) + 1).toNat = ms.length + 1 by omega]
  have nfits : ∀ b, Fits (mayB l t x s) t.length (named ms b ms.length) := fun b p hp => by
    obtain ⟨j, a, _, rfl⟩ := mem_named.1 hp
    exact (hmem _).1 (nth_mem 0 (by omega) (by omega))
  refine tot_allN (P := fun i => ∀ b, b < 2 ^ ms.length → (named ms b ms.length).length = i → ¬ Kept (kmOf l t) x.Km s.Limit (named ms b ms.length) t.length) (E := fun r => r.1 = true ∧ ∃ S, Found l t x s S) (fun i hi => ?_) (fun hall => ?_) (fun r hr => tot_some ⟨fun _ => hr.2, fun _ => hr.1⟩)
  · unfold fishref2_positions_b2
    have hp : 2 ^ ms.length ≤ 2 ^ 12 := Nat.pow_le_pow_right (by omega) hm12
    rw [shl_ok hm12]
    simp only [Option.bind_some]
    rw [glim_eq (by generalize 2 ^ ms.length = w at hp; omega)]
    simp only [Option.bind_some, Int.toNat_natCast]
    refine tot_loopN (I := fun b st => (st.1 = true → ∃ S, Found l t x s S) ∧ ∀ b', b' < b → (named ms b' ms.length).length = i → Kept (kmOf l t) x.Km s.Limit (named ms b' ms.length) t.length → st.1 = true)
      (J := fun st => (st.1 = true → ∃ S, Found l t x s S) ∧ ∀ b', b' < 2 ^ ms.length → (named ms b' ms.length).length = i → Kept (kmOf l t) x.Km s.Limit (named ms b' ms.length) t.length → st.1 = true) (E := fun _ => False)
      ⟨fun h => (by cases h), fun b' h => by omega⟩ (fun b st hb hI => ?_) (fun st h => h) (fun st hJ => ?_) (fun _ h => h.elim)
    · obtain ⟨i1, i2⟩ := hI
      unfold fishref2_positions_b3
      refine b4_ok hm12 (by omega) ?_
      have nl := named_len ms b ms.length
      refine tot_bind (P := fun c => (c = true → Found l t x s (named ms b ms.length)) ∧ ((named ms b ms.length).length = i → Kept (kmOf l t) x.Km s.Limit (named ms b ms.length) t.length → st.1 = false → c = true)) ?_ fun c _ hc => ?_
      · refine tot_ifb (fun q => ?_) fun q => ?_
        · refine tot_bind (kept_ok hl hv hs hx hn (named ms b ms.length) (by omega)) fun k _ hk => ?_
          refine tot_ifb (fun q2 => ?_) fun q2 => ?_
          · have hF : Found l t x s (named ms b ms.length) := ⟨hk.1 q2, nfits b⟩
            refine tot_ifb (fun q3 => tot_some ⟨fun _ => hF, fun _ _ _ => rfl⟩) fun q3 => ?_
            refine tot_bind (compareL_ok _ _) fun cc _ _ => tot_some ⟨fun _ => hF, fun _ _ h => by rw [h] at q3; cases q3⟩
          · exact tot_some ⟨fun h => (by cases h), fun _ h _ => by rw [hk.2 h] at q2; cases q2⟩
        · have q : ((named ms b ms.length).length : Int) ≠ (i : Int) := by simpa using q
          exact tot_some ⟨fun h => (by cases h), fun h => by omega⟩
      · refine tot_ifb (fun q => ?_) fun q => ?_
        · exact tot_some ⟨fun _ => ⟨_, hc.1 q⟩, fun b' _ _ _ => rfl⟩
        · refine tot_some ⟨i1, fun b' hb' hlen hK => ?_⟩
          by_cases e : b' = b
          · subst e
            simp only
            cases hst : st.1 with
            | true => rfl
            | false => rw [hc.2 hlen hK hst] at q; cases q
          · exact i2 b' (by omega) hlen hK
    · obtain ⟨i1, i2⟩ := hJ
      refine tot_ifb (fun q => tot_some ⟨rfl, i1 q⟩) fun q => tot_some fun b hb hlen hK => ?_
      rw [i2 b hb hlen hK] at q; cases q
  · refine tot_some ⟨fun e => (by cases e), fun ⟨S, hS⟩ => ?_⟩
    obtain ⟨b, hb, hbits⟩ := bits_exist ms.length fun i => decide (nth 0 ms (i : Int) ∈ S)
    have nl := named_len ms b ms.length
    refine absurd (kept_same (S := S) (fun j hj => ?_) hS.1) (hall (named ms b ms.length).length (by omega) b hb rfl)
    rw [mem_named]
    constructor
    · intro hm
      have hj' : (j : Int) ∈ ms := (hmem _).2 (hS.2 _ hm)
      obtain ⟨i, hi⟩ := List.getElem?_of_mem hj'
      have hi' := (List.getElem?_eq_some_iff.1 hi).1
      refine ⟨i, hi', (hbits i hi').2 ?_, (nth_nat 0 hi).symm⟩
      rw [nth_nat 0 hi]; exact decide_eq_true hm
    · rintro ⟨i, hi, h1, h2⟩
      have := of_decide_eq_true ((hbits i hi).1 h1)
      rwa [h2]
end
end Fi
