/- Tables of longest walks, with no program in sight. -/
import Derived.Test.YtcidamhhffgipaaK5
set_option linter.unusedVariables false
set_option linter.unusedSimpArgs false
namespace Mc
open Go Hk Hd Pl

abbrev NN : Int := -4611686018427387904
theorem zNN : (0 : Int) ≠ NN := by decide
def Walk (n : Nat) (s : Nat → Nat → Int) (l : Nat) (ν : Nat → Nat) : Prop := (∀ p, p ≤ l → ν p < n) ∧ ∀ p, p < l → s (ν p) (ν (p + 1)) ≠ NN
def wt (s : Nat → Nat → Int) (ν : Nat → Nat) (l : Nat) : Int := sumN (fun p => s (ν p) (ν (p + 1))) l
def Wk (n : Nat) (s : Nat → Nat → Int) (l i j : Nat) (w : Int) : Prop := ∃ ν, Walk n s l ν ∧ ν 0 = i ∧ ν l = j ∧ wt s ν l = w
structure Tri (n : Nat) (c : Nat → Nat → Int) : Prop where
  diag : ∀ i, i < n → c i i = 0
  tri : ∀ i k j, i < n → k < n → j < n → c i k ≠ NN → c k j ≠ NN → c i j ≠ NN ∧ c i k + c k j ≤ c i j
/-- c is at least s -/
def Dom (n : Nat) (s c : Nat → Nat → Int) : Prop := ∀ i j, i < n → j < n → s i j ≠ NN → c i j ≠ NN ∧ s i j ≤ c i j
section
variable {n : Nat} {s a c m : Nat → Nat → Int}
theorem wk_zero {i : Nat} (hi : i < n) : Wk n s 0 i i 0 := ⟨fun _ => i, ⟨fun _ _ => hi, fun p hp => by omega⟩, rfl, rfl, rfl⟩
theorem wk_one {i j : Nat} (hi : i < n) (hj : j < n) (h : s i j ≠ NN) : Wk n s 1 i j (s i j) := by
  refine ⟨fun p => if p = 0 then i else j, ⟨fun p _ => by simp only; split <;> assumption, fun p hp => ?_⟩, rfl, rfl, ?_⟩
  · have : p = 0 := by omega
    subst this; simpa using h
  · simp [wt, sumN]
theorem wk_cat {l1 l2 i k j : Nat} {w1 w2 : Int} (h1 : Wk n s l1 i k w1) (h2 : Wk n s l2 k j w2) : Wk n s (l1 + l2) i j (w1 + w2) := by
  obtain ⟨ν, ⟨a1, a2⟩, a3, a4, a5⟩ := h1
  obtain ⟨μ, ⟨b1, b2⟩, b3, b4, b5⟩ := h2
  have e : ∀ p, l1 ≤ p → (if p < l1 then ν p else μ (p - l1)) = μ (p - l1) := fun p hp => by rw [if_neg (by omega)]
  have e' : ∀ p, p ≤ l1 → (if p < l1 then ν p else μ (p - l1)) = ν p := fun p hp => by
    by_cases h : p < l1
    · rw [if_pos h]
    · have : p = l1 := by omega
      subst this
      rw [if_neg (by omega), Nat.sub_self, b3, a4]
  refine ⟨fun p => if p < l1 then ν p else μ (p - l1), ⟨fun p hp => ?_, fun p hp => ?_⟩, ?_, ?_, ?_⟩
  · simp only
    split
    · exact a1 p (by omega)
    · exact b1 _ (by omega)
  · simp only
    by_cases h : p < l1
    · rw [e' p (by omega), e' (p + 1) (by omega)]; exact a2 p h
    · rw [e p (by omega), e (p + 1) (by omega), show p + 1 - l1 = p - l1 + 1 by omega]; exact b2 _ (by omega)
  · simp only; rw [e' 0 (by omega), a3]
  · simp only; rw [e _ (by omega), show l1 + l2 - l1 = l2 by omega, b4]
  · have key : ∀ q, q ≤ l2 → wt s (fun p => if p < l1 then ν p else μ (p - l1)) (l1 + q) = w1 + wt s μ q := by
      intro q
      induction q with
      | zero =>
        intro _
        rw [← a5]
        simp only [wt, sumN, Nat.add_zero, Int.add_zero]
        exact sumN_eq fun p hp => by rw [e' p (by omega), e' (p + 1) (by omega)]
      | succ q ih =>
        intro hq
        have ih := ih (by omega)
        have e1 : wt s (fun p => if p < l1 then ν p else μ (p - l1)) (l1 + (q + 1)) = wt s (fun p => if p < l1 then ν p else μ (p - l1)) (l1 + q) + s (if l1 + q < l1 then ν (l1 + q) else μ (l1 + q - l1)) (if l1 + q + 1 < l1 then ν (l1 + q + 1) else μ (l1 + q + 1 - l1)) := rfl
        have e2 : wt s μ (q + 1) = wt s μ q + s (μ q) (μ (q + 1)) := rfl
        rw [e1, e2, e (l1 + q) (by omega), e (l1 + q + 1) (by omega), show l1 + q - l1 = q by omega, show l1 + q + 1 - l1 = q + 1 by omega]
        omega
    rw [key l2 (by omega), b5]
theorem seg (ht : Tri n c) (hd : Dom n s c) {l : Nat} {ν : Nat → Nat} (hw : Walk n s l ν) (p : Nat) : ∀ q, p ≤ q → q ≤ l → c (ν p) (ν q) ≠ NN ∧ wt s ν q - wt s ν p ≤ c (ν p) (ν q) := by
  intro q
  induction q with
  | zero =>
    intro h1 h2
    have : p = 0 := by omega
    subst this
    rw [ht.diag _ (hw.1 0 h2)]
    exact ⟨zNN, by omega⟩
  | succ q ih =>
    intro h1 h2
    by_cases hp : p = q + 1
    · subst hp
      rw [ht.diag _ (hw.1 _ h2)]
      exact ⟨zNN, by omega⟩
    · obtain ⟨i1, i2⟩ := ih (by omega) (by omega)
      obtain ⟨j1, j2⟩ := hd _ _ (hw.1 q (by omega)) (hw.1 (q + 1) h2) (hw.2 q (by omega))
      obtain ⟨k1, k2⟩ := ht.tri _ _ _ (hw.1 p (by omega)) (hw.1 q (by omega)) (hw.1 (q + 1) h2) i1 j1
      refine ⟨k1, ?_⟩
      have : wt s ν (q + 1) = wt s ν q + s (ν q) (ν (q + 1)) := rfl
      omega
theorem wk_le (ht : Tri n c) (hd : Dom n s c) {l i j : Nat} {w : Int} (h : Wk n s l i j w) : c i j ≠ NN ∧ w ≤ c i j := by
  obtain ⟨ν, h1, rfl, rfl, rfl⟩ := h
  obtain ⟨k1, k2⟩ := seg ht hd h1 0 l (by omega) (by omega)
  have : wt s ν 0 = 0 := rfl
  exact ⟨k1, by omega⟩
/-- a walk that comes twice to one place can be cut -/
theorem cut (ht : Tri n c) (hd : Dom n s c) {l i j : Nat} {w : Int} (h : Wk n s l i j w) (hl : n < l) : ∃ l' w', l' < l ∧ w ≤ w' ∧ Wk n s l' i j w' := by
  obtain ⟨ν, h1, rfl, rfl, rfl⟩ := h
  obtain ⟨p, q, hpq, hq, e⟩ := pigeon (n := n) ν fun p hp => h1.1 p (by omega)
  obtain ⟨k1, k2⟩ := seg ht hd h1 p q (by omega) (by omega)
  rw [e, ht.diag _ (h1.1 q (by omega))] at k2
  have eq : ∀ r, r ≤ p → (if r ≤ p then ν r else ν (r + (q - p))) = ν r := fun r hr => if_pos hr
  have eq' : ∀ r, p ≤ r → (if r ≤ p then ν r else ν (r + (q - p))) = ν (r + (q - p)) := fun r hr => by
    by_cases h : r ≤ p
    · have : r = p := by omega
      subst this
      rw [if_pos (by omega), e]
      congr 1; omega
    · rw [if_neg h]
  refine ⟨l - (q - p), wt s (fun r => if r ≤ p then ν r else ν (r + (q - p))) (l - (q - p)), by omega, ?_, fun r => if r ≤ p then ν r else ν (r + (q - p)), ⟨fun r hr => ?_, fun r hr => ?_⟩, ?_, ?_, rfl⟩
  · have k0 : wt s (fun r => if r ≤ p then ν r else ν (r + (q - p))) p = wt s ν p := sumN_eq fun r hr => by simp only; rw [eq r (by omega), eq (r + 1) (by omega)]
    have key : ∀ r, p ≤ r → r ≤ l - (q - p) → wt s (fun r => if r ≤ p then ν r else ν (r + (q - p))) r - wt s ν p = wt s ν (r + (q - p)) - wt s ν q := by
      intro r
      induction r with
      | zero =>
        intro h1 _
        have : p = 0 := by omega
        subst this
        rw [k0]
        simp
      | succ r ih =>
        intro h1 h2
        by_cases hp : p = r + 1
        · rw [← hp, k0, show p + (q - p) = q by omega]; omega
        · have := ih (by omega) (by omega)
          have e1 : wt s (fun r => if r ≤ p then ν r else ν (r + (q - p))) (r + 1) = wt s (fun r => if r ≤ p then ν r else ν (r + (q - p))) r + s (if r ≤ p then ν r else ν (r + (q - p))) (if r + 1 ≤ p then ν (r + 1) else ν (r + 1 + (q - p))) := rfl
          have e2 : wt s ν (r + 1 + (q - p)) = wt s ν (r + (q - p)) + s (ν (r + (q - p))) (ν (r + (q - p) + 1)) := by rw [show r + 1 + (q - p) = r + (q - p) + 1 by omega]; rfl
          rw [e1, e2, eq' r (by omega), eq' (r + 1) (by omega), show r + 1 + (q - p) = r + (q - p) + 1 by omega]
          omega
    have := key (l - (q - p)) (by omega) (by omega)
    rw [show l - (q - p) + (q - p) = l by omega] at this
    omega
  · simp only
    split
    · exact h1.1 r (by omega)
    · exact h1.1 _ (by omega)
  · simp only
    by_cases h : r < p
    · rw [eq r (by omega), eq (r + 1) (by omega)]; exact h1.2 r (by omega)
    · rw [eq' r (by omega), eq' (r + 1) (by omega), show r + 1 + (q - p) = r + (q - p) + 1 by omega]; exact h1.2 _ (by omega)
  · simp only; rw [eq 0 (by omega)]
  · simp only; rw [eq' _ (by omega), show l - (q - p) + (q - p) = l by omega]
theorem short (ht : Tri n c) (hd : Dom n s c) : ∀ (l i j : Nat) (w : Int), Wk n s l i j w → ∃ l' w', l' ≤ n ∧ w ≤ w' ∧ Wk n s l' i j w' := by
  intro l
  induction l using Nat.strongRecOn with
  | ind l ih =>
    intro i j w h
    by_cases hl : l ≤ n
    · exact ⟨l, w, hl, Int.le_refl _, h⟩
    · obtain ⟨l1, w1, h1, h2, h3⟩ := cut ht hd h (by omega)
      obtain ⟨l2, w2, h4, h5, h6⟩ := ih l1 h1 i j w1 h3
      exact ⟨l2, w2, h4, by omega, h6⟩
theorem pad (hs : ∀ i, i < n → s i i = 0) {l i j : Nat} {w : Int} (h : Wk n s l i j w) : ∀ d, Wk n s (l + d) i j w
  | 0 => h
  | d + 1 => by
    have hj : j < n := by obtain ⟨ν, h1, _, rfl, _⟩ := h; exact h1.1 l (by omega)
    have := wk_cat (pad hs h d) (wk_one hj hj (by rw [hs j hj]; exact zNN))
    rw [hs j hj, Int.add_zero] at this
    exact this
/-! ### the closure, place by place -/
structure FW (n : Nat) (a : Nat → Nat → Int) (K : Nat) (b : Int) (m : Nat → Nat → Int) : Prop where
  bnd : ∀ i j, i < n → j < n → m i j ≠ NN → -b ≤ m i j ∧ m i j ≤ b
  closed : ∀ k i j, k < K → i < n → j < n → m i k ≠ NN → m k j ≠ NN → m i j ≠ NN ∧ m i k + m k j ≤ m i j
  ge : Dom n a m
  walk : ∀ i j, i < n → j < n → m i j ≠ NN → ∃ l, Wk n a l i j (m i j)
  diag : ∀ i, i < n → m i i ≠ NN → m i i ≤ 0
def fw (m : Nat → Nat → Int) (k i j : Nat) : Int := if m i k ≠ NN ∧ m k j ≠ NN then max (m i j) (m i k + m k j) else m i j
structure FwFacts (n : Nat) (a : Nat → Nat → Int) (K : Nat) (b : Int) (m : Nat → Nat → Int) : Prop where
  bnd : ∀ i j, i < n → j < n → fw m K i j ≠ NN → -(2 * b) ≤ fw m K i j ∧ fw m K i j ≤ 2 * b
  le1 : ∀ i j, i < n → j < n → m i j ≠ NN → fw m K i j ≠ NN ∧ m i j ≤ fw m K i j
  le2 : ∀ i j, i < n → j < n → m i K ≠ NN → m K j ≠ NN → fw m K i j ≠ NN ∧ m i K + m K j ≤ fw m K i j
  eq : ∀ i j, i < n → j < n → fw m K i j ≠ NN → (m i j ≠ NN ∧ fw m K i j = m i j) ∨ (m i K ≠ NN ∧ m K j ≠ NN ∧ fw m K i j = m i K + m K j)
  col : ∀ i, i < n → fw m K i K = m i K
  row : ∀ j, j < n → fw m K K j = m K j
  walk : ∀ i j, i < n → j < n → fw m K i j ≠ NN → ∃ l, Wk n a l i j (fw m K i j)
theorem FW.facts {K : Nat} {b : Int} (h : FW n a K b m) (hK : K < n) (hb0 : 0 ≤ b) (hb : b ≤ 281474976710656) : FwFacts n a K b m := by
  have sum : ∀ i j, i < n → j < n → m i K ≠ NN → m K j ≠ NN → m i K + m K j ≠ NN ∧ -(2 * b) ≤ m i K + m K j ∧ m i K + m K j ≤ 2 * b := fun i j hi hj h1 h2 => by
    have := h.bnd i K hi hK h1; have := h.bnd K j hK hj h2
    exact ⟨by simp only [NN]; omega, by omega, by omega⟩
  have eq : ∀ i j, i < n → j < n → fw m K i j ≠ NN → (m i j ≠ NN ∧ fw m K i j = m i j) ∨ (m i K ≠ NN ∧ m K j ≠ NN ∧ fw m K i j = m i K + m K j) := fun i j hi hj hf => by
    unfold fw at hf ⊢
    split
    · rename_i hc
      obtain ⟨s1, s2, s3⟩ := sum i j hi hj hc.1 hc.2
      rw [if_pos hc] at hf
      by_cases hij : m i j = NN
      · exact .inr ⟨hc.1, hc.2, by rw [hij]; simp only [NN]; omega⟩
      · rcases Int.le_total (m i j) (m i K + m K j) with h' | h'
        · exact .inr ⟨hc.1, hc.2, by omega⟩
        · exact .inl ⟨hij, by omega⟩
    · rename_i hc
      rw [if_neg hc] at hf
      exact .inl ⟨hf, rfl⟩
  have le1 : ∀ i j, i < n → j < n → m i j ≠ NN → fw m K i j ≠ NN ∧ m i j ≤ fw m K i j := fun i j hi hj hf => by
    have hb1 := h.bnd i j hi hj hf
    unfold fw
    split
    · exact ⟨by simp only [NN]; omega, by omega⟩
    · exact ⟨hf, by omega⟩
  have le2 : ∀ i j, i < n → j < n → m i K ≠ NN → m K j ≠ NN → fw m K i j ≠ NN ∧ m i K + m K j ≤ fw m K i j := fun i j hi hj h1 h2 => by
    obtain ⟨s1, s2, s3⟩ := sum i j hi hj h1 h2
    unfold fw
    rw [if_pos ⟨h1, h2⟩]
    exact ⟨by simp only [NN]; omega, by omega⟩
  refine ⟨fun i j hi hj hf => ?_, le1, le2, eq, fun i hi => ?_, fun j hj => ?_, fun i j hi hj hf => ?_⟩
  · rcases eq i j hi hj hf with ⟨h1, e⟩ | ⟨h1, h2, e⟩
    · rw [e]; have := h.bnd i j hi hj h1; omega
    · rw [e]; exact (sum i j hi hj h1 h2).2
  · unfold fw
    split
    · rename_i hc; have := h.diag K hK hc.2; omega
    · rfl
  · unfold fw
    split
    · rename_i hc; have := h.diag K hK hc.1; omega
    · rfl
  · rcases eq i j hi hj hf with ⟨h1, e⟩ | ⟨h1, h2, e⟩
    · rw [e]; exact h.walk i j hi hj h1
    · obtain ⟨l1, w1⟩ := h.walk i K hi hK h1
      obtain ⟨l2, w2⟩ := h.walk K j hK hj h2
      exact ⟨l1 + l2, by rw [e]; exact wk_cat w1 w2⟩
theorem FW.step {K : Nat} {b : Int} (h : FW n a K b m) (hK : K < n) (hb0 : 0 ≤ b) (hb : b ≤ 281474976710656) (hd : ∀ i, i < n → fw m K i i ≠ NN → fw m K i i ≤ 0) : FW n a (K + 1) (2 * b) (fw m K) := by
  have F := h.facts hK hb0 hb
  refine ⟨F.bnd, fun k i j hk hi hj h1 h2 => ?_, fun i j hi hj hf => ?_, F.walk, hd⟩
  · by_cases hkK : k = K
    · subst hkK
      rw [F.col i hi] at h1 ⊢
      rw [F.row j hj] at h2 ⊢
      exact F.le2 i j hi hj h1 h2
    · have hkn : k < n := by omega
      have hc := h.closed k
      rcases F.eq i k hi hkn h1 with ⟨a1, e1⟩ | ⟨a1, a2, e1⟩ <;> rcases F.eq k j hkn hj h2 with ⟨b1, e2⟩ | ⟨b1, b2, e2⟩
      · obtain ⟨c1, c2⟩ := hc i j (by omega) hi hj a1 b1
        obtain ⟨d1, d2⟩ := F.le1 i j hi hj c1
        exact ⟨d1, by omega⟩
      · obtain ⟨c1, c2⟩ := hc i K (by omega) hi hK a1 b1
        obtain ⟨d1, d2⟩ := F.le2 i j hi hj c1 b2
        exact ⟨d1, by omega⟩
      · obtain ⟨c1, c2⟩ := hc K j (by omega) hK hj a2 b1
        obtain ⟨d1, d2⟩ := F.le2 i j hi hj a1 c1
        exact ⟨d1, by omega⟩
      · obtain ⟨c1, c2⟩ := hc K K (by omega) hK hK a2 b1
        have := h.diag K hK c1
        obtain ⟨d1, d2⟩ := F.le2 i j hi hj a1 b2
        exact ⟨d1, by omega⟩
  · obtain ⟨g1, g2⟩ := h.ge i j hi hj hf
    obtain ⟨d1, d2⟩ := F.le1 i j hi hj g1
    exact ⟨d1, by omega⟩
/-- the closure of a -/
structure CL (n : Nat) (a c : Nat → Nat → Int) : Prop where
  tri : Tri n c
  ge : Dom n a c
  walk : ∀ i j, i < n → j < n → i ≠ j → c i j ≠ NN → ∃ l, Wk n a l i j (c i j)
theorem FW.cl {b : Int} (h : FW n a n b m) (hc : ∀ i j, i < n → j < n → c i j = if i = j then 0 else m i j) : CL n a c := by
  have hne : ∀ i j, i < n → j < n → i ≠ j → c i j = m i j := fun i j hi hj hij => by rw [hc i j hi hj, if_neg hij]
  have he : ∀ i, i < n → c i i = 0 := fun i hi => by rw [hc i i hi hi, if_pos rfl]
  refine ⟨⟨he, fun i k j hi hk hj h1 h2 => ?_⟩, fun i j hi hj hf => ?_, fun i j hi hj hij hf => ?_⟩
  · by_cases hik : i = k
    · subst hik; rw [he i hi]; exact ⟨h2, by omega⟩
    by_cases hkj : k = j
    · subst hkj; rw [he k hk]; exact ⟨h1, by omega⟩
    rw [hne i k hi hk hik] at h1 ⊢
    rw [hne k j hk hj hkj] at h2 ⊢
    obtain ⟨c1, c2⟩ := h.closed k i j hk hi hj h1 h2
    by_cases hij : i = j
    · subst hij
      have := h.diag i hi c1
      rw [he i hi]
      exact ⟨zNN, by omega⟩
    · rw [hne i j hi hj hij]; exact ⟨c1, c2⟩
  · obtain ⟨g1, g2⟩ := h.ge i j hi hj hf
    by_cases hij : i = j
    · subst hij
      have := h.diag i hi g1
      rw [he i hi]
      exact ⟨zNN, by omega⟩
    · rw [hne i j hi hj hij]; exact ⟨g1, g2⟩
  · rw [hne i j hi hj hij] at hf ⊢
    exact h.walk i j hi hj hf
/-- closed again it is the same -/
theorem CL.again {c' : Nat → Nat → Int} (ht : Tri n c) (h : CL n c c') : ∀ i j, i < n → j < n → c' i j = c i j := by
  intro i j hi hj
  by_cases hij : i = j
  · subst hij; rw [h.tri.diag i hi, ht.diag i hi]
  by_cases hf : c i j = NN
  · by_cases hf' : c' i j = NN
    · rw [hf, hf']
    · obtain ⟨l, hw⟩ := h.walk i j hi hj hij hf'
      exact absurd hf (wk_le ht (fun i j hi hj h => ⟨h, Int.le_refl _⟩) hw).1
  · obtain ⟨g1, g2⟩ := h.ge i j hi hj hf
    obtain ⟨l, hw⟩ := h.walk i j hi hj hij g1
    have := (wk_le ht (fun i j hi hj h => ⟨h, Int.le_refl _⟩) hw).2
    omega
/-! ### products -/
structure Pow (n : Nat) (s : Nat → Nat → Int) (l : Nat) (m : Nat → Nat → Int) : Prop where
  walk : ∀ i j, i < n → j < n → m i j ≠ NN → Wk n s l i j (m i j)
  most : ∀ i j w, i < n → j < n → Wk n s l i j w → m i j ≠ NN ∧ w ≤ m i j
structure Prod2 (n : Nat) (x y m : Nat → Nat → Int) : Prop where
  eq : ∀ i j, i < n → j < n → m i j ≠ NN → ∃ k, k < n ∧ x i k ≠ NN ∧ y k j ≠ NN ∧ m i j = x i k + y k j
  le : ∀ i j k, i < n → j < n → k < n → x i k ≠ NN → y k j ≠ NN → m i j ≠ NN ∧ x i k + y k j ≤ m i j
theorem pow_one : Pow n s 1 s := by
  refine ⟨fun i j hi hj h => wk_one hi hj h, fun i j w hi hj h => ?_⟩
  obtain ⟨ν, h1, rfl, rfl, rfl⟩ := h
  have := h1.2 0 (by omega)
  exact ⟨this, by simp [wt, sumN]⟩
theorem pow_succ {l : Nat} {m' : Nat → Nat → Int} (h : Pow n s l m) (hp : Prod2 n m s m') : Pow n s (l + 1) m' := by
  refine ⟨fun i j hi hj hf => ?_, fun i j w hi hj hw => ?_⟩
  · obtain ⟨k, hk, h1, h2, e⟩ := hp.eq i j hi hj hf
    rw [e]
    exact wk_cat (h.walk i k hi hk h1) (wk_one hk hj h2)
  · obtain ⟨ν, h1, rfl, rfl, rfl⟩ := hw
    have hk := h1.1 l (by omega)
    obtain ⟨k1, k2⟩ := h.most (ν 0) (ν l) (wt s ν l) hi hk ⟨ν, ⟨fun p hp => h1.1 p (by omega), fun p hp => h1.2 p (by omega)⟩, rfl, rfl, rfl⟩
    obtain ⟨e1, e2⟩ := hp.le (ν 0) (ν (l + 1)) (ν l) hi hj hk k1 (h1.2 l (by omega))
    refine ⟨e1, ?_⟩
    have : wt s ν (l + 1) = wt s ν l + s (ν l) (ν (l + 1)) := rfl
    omega
theorem pow_cl (h : CL n a c) (hs : ∀ i j, i < n → j < n → s i j = if i = j then 0 else a i j) (hp : Pow n s (n + 1) m) : ∀ i j, i < n → j < n → m i j = c i j := by
  have hsd : ∀ i, i < n → s i i = 0 := fun i hi => by rw [hs i i hi hi, if_pos rfl]
  have hdom : Dom n s c := fun i j hi hj hf => by
    by_cases hij : i = j
    · subst hij
      rw [hsd i hi, h.tri.diag i hi]
      exact ⟨zNN, by omega⟩
    · rw [hs i j hi hj, if_neg hij] at hf ⊢
      exact h.ge i j hi hj hf
  have has : Dom n a s := fun i j hi hj hf => by
    by_cases hij : i = j
    · subst hij
      have := (h.ge i i hi hi hf).2
      rw [h.tri.diag i hi] at this
      rw [hsd i hi]
      exact ⟨zNN, this⟩
    · rw [hs i j hi hj, if_neg hij]
      exact ⟨hf, Int.le_refl _⟩
  intro i j hi hj
  have up : m i j ≠ NN → c i j ≠ NN ∧ m i j ≤ c i j := fun hf => wk_le h.tri hdom (hp.walk i j hi hj hf)
  have low : c i j ≠ NN → m i j ≠ NN ∧ c i j ≤ m i j := fun hf => by
    by_cases hij : i = j
    · subst hij
      have := pad hsd (wk_zero (s := s) hi) (n + 1)
      rw [Nat.zero_add] at this
      rw [h.tri.diag i hi]
      exact hp.most i i 0 hi hi this
    · obtain ⟨l, ν, h1, e1, e2, e3⟩ := h.walk i j hi hj hij hf
      have hw : Wk n s l i j (wt s ν l) := ⟨ν, ⟨h1.1, fun p hp => (has _ _ (h1.1 p (by omega)) (h1.1 (p + 1) (by omega)) (h1.2 p hp)).1⟩, e1, e2, rfl⟩
      have hle : wt a ν l ≤ wt s ν l := sumN_le fun p hp => (has _ _ (h1.1 p (by omega)) (h1.1 (p + 1) (by omega)) (h1.2 p hp)).2
      obtain ⟨l', w', k1, k2, k3⟩ := short h.tri hdom l i j _ hw
      have := pad hsd k3 (n + 1 - l')
      rw [show l' + (n + 1 - l') = n + 1 by omega] at this
      obtain ⟨z1, z2⟩ := hp.most i j w' hi hj this
      exact ⟨z1, by omega⟩
  by_cases hm : m i j = NN
  · by_cases hc : c i j = NN
    · rw [hm, hc]
    · exact absurd hm (low hc).1
  · obtain ⟨k1, k2⟩ := up hm
    have := (low k1).2
    omega
end
end Mc
