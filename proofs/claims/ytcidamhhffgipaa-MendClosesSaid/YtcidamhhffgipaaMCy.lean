/- MendCloses, the plain side: Closure. -/
import Derived.Test.YtcidamhhffgipaaMCP
import Derived.Test.YtcidamhhffgipaaMCx
set_option linter.unusedVariables false
set_option linter.unusedSimpArgs false
namespace Mc
open Go Hk Hd Pl

def okN (x : Int) : Prop := x = NN ∨ (-1099511627776 ≤ x ∧ x ≤ 1099511627776)
theorem within_eq (n l h : Int) : mend_within n l h = some (decide (l ≤ n ∧ n ≤ h)) := by
  simp [mend_within, ifb_and]
theorem contains1_tot (m p : List (List Int)) : Tot (slices_ContainsFunc_int_int m p) (fun x => x.2 = p ∧ (x.1 = false → ∀ r ∈ m, r.length = p.length) ∧ (x.1 = true → ∃ r ∈ m, r.length ≠ p.length)) := by
  unfold slices_ContainsFunc_int_int slices_IndexFunc_int_int
  refine tot_bind (P := fun x => x.2 = p ∧ (x.1 < 0 → ∀ r ∈ m, r.length = p.length) ∧ (0 ≤ x.1 → ∃ r ∈ m, r.length ≠ p.length)) ?_ fun x _ hx => tot_some ⟨hx.1, fun h => hx.2.1 (by simpa using h), fun h => hx.2.2 (by simpa using h)⟩
  refine tot_loopX (I := fun k s => s = p ∧ ∀ (i : Nat) r, i < k → m[i]? = some r → r.length = p.length) (J := fun s => s = p ∧ ∀ r ∈ m, r.length = p.length) (E := fun y => y.2 = p ∧ 0 ≤ y.1 ∧ ∃ r ∈ m, r.length ≠ p.length) ⟨rfl, fun i r h => by omega⟩ (fun k r s hr hI => ?_) (fun s hI => ⟨hI.1, mem_of_all fun i r hr => hI.2 i r (List.getElem?_eq_some_iff.1 hr).1 hr⟩) (fun s hJ => tot_some ⟨hJ.1, fun _ => hJ.2, fun h => by simp at h⟩) (fun y hy => tot_some ⟨hy.1, fun h => by omega, fun _ => hy.2.2⟩)
  obtain ⟨rfl, hI⟩ := hI
  unfold slices_IndexFunc_int_int_b1 mend_Closure_1
  refine tot_bind' rfl ?_
  refine tot_ifb (fun h => tot_some ⟨rfl, by simp only; omega, r, List.mem_of_getElem? hr, by simp at h; omega⟩) fun h => tot_some ⟨rfl, fun i r' hi hr' => ?_⟩
  by_cases hik : i = k
  · subst hik
    rw [hr] at hr'
    injection hr' with hr'
    subst hr'
    simp at h; omega
  · exact hI i r' (by omega) hr'
theorem table1_tot (x : Int) : Tot (mend_checkTable_1 x) (fun b => b = true ↔ ¬ okN x) := by
  unfold mend_checkTable_1
  simp only [within_eq, tot_bind_iff, tot_some_iff, tot_ifb_iff, okN, NN]
  refine ⟨fun h => ?_, fun h => ?_⟩
  · simp at h ⊢; omega
  · simp at h ⊢; omega
theorem tableF_tot (r : List Int) : Tot (slices_ContainsFunc_int_int_v2 r) (fun b => b = true ↔ ∃ x ∈ r, ¬ okN x) := by
  unfold slices_ContainsFunc_int_int_v2 slices_IndexFunc_int_int_v2
  refine tot_bind (P := fun i => (0 ≤ i ∧ ∃ x ∈ r, ¬ okN x) ∨ (i < 0 ∧ ∀ x ∈ r, okN x)) ?_ fun i _ hi => tot_some ?_
  · refine tot_allX (P := fun _ x => okN x) (E := fun y => 0 ≤ y ∧ ∃ x ∈ r, ¬ okN x) (fun i x hx => ?_) (fun h => tot_some (.inr ⟨by omega, mem_of_all h⟩)) (fun y hy => tot_some (.inl hy))
    unfold slices_IndexFunc_int_int_v2_b1
    refine tot_bind (table1_tot x) fun b _ hb => tot_ifb (fun h => tot_some ⟨by omega, x, List.mem_of_getElem? hx, hb.1 h⟩) fun h => tot_some ?_
    exact Classical.byContradiction fun hn => by rw [hb.2 hn] at h; cases h
  · simp only [decide_eq_true_eq]
    rcases hi with ⟨h1, h2⟩ | ⟨h1, h2⟩
    · exact ⟨fun _ => h2, fun _ => h1⟩
    · exact ⟨fun h => by omega, fun ⟨x, hx, hn⟩ => absurd (h2 x hx) hn⟩
theorem table_tot (m : List (List Int)) : Tot (mend_checkTable m) (fun e => (e = 0 ∧ ∀ r ∈ m, ∀ x ∈ r, okN x) ∨ (e = 2 ∧ ∃ r ∈ m, ∃ x ∈ r, ¬ okN x)) := by
  unfold mend_checkTable
  refine tot_allX (P := fun _ r => ∀ x ∈ r, okN x) (E := fun y => y = 2 ∧ ∃ r ∈ m, ∃ x ∈ r, ¬ okN x) (fun i r hr => ?_) (fun h => tot_some (.inl ⟨rfl, mem_of_all h⟩)) (fun y hy => tot_some (.inr hy))
  unfold mend_checkTable_b1
  refine tot_bind (tableF_tot r) fun b _ hb => tot_ifb (fun h => tot_some ⟨rfl, r, List.mem_of_getElem? hr, hb.1 h⟩) fun h => tot_some fun x hx => ?_
  exact Classical.byContradiction fun hn => by rw [hb.2 ⟨x, hx, hn⟩] at h; cases h
/-- what can be handed in -/
structure Table (n : Nat) (m : List (List Int)) : Prop where
  n8 : n ≤ 8
  sq : Sq n m
  ok : ∀ r ∈ m, ∀ x ∈ r, okN x
theorem Table.at {n : Nat} {m : List (List Int)} (h : Table n m) {i j : Nat} (hi : i < n) (hj : j < n) : okN (at2 m i j) :=
  h.ok _ (nth_mem [] (by omega) (by have := h.sq.len; omega)) _ (nth_mem 0 (by omega) (by have : (nth [] m (i : Int)).length = n := h.sq.row i hi; omega))
def bK : Nat → Int
  | 0 => 1099511627776
  | K + 1 => 2 * bK K
theorem bK_pos : ∀ K, 0 ≤ bK K
  | 0 => by simp [bK]
  | K + 1 => by have := bK_pos K; simp only [bK]; omega
theorem bK_le (K : Nat) : ∀ d, bK K ≤ bK (K + d)
  | 0 => Int.le_refl _
  | d + 1 => by
    have h1 := bK_le K d
    have h2 := bK_pos (K + d)
    show bK K ≤ 2 * bK (K + d)
    omega
theorem bK_8 {K : Nat} (h : K ≤ 8) : bK K ≤ 281474976710656 := by
  have := bK_le K (8 - K)
  rw [show K + (8 - K) = 8 by omega] at this
  exact Int.le_trans this (by decide)
theorem FW.congr {n : Nat} {a m m' : Nat → Nat → Int} {K : Nat} {b : Int} (h : FW n a K b m) (e : ∀ i j, i < n → j < n → m' i j = m i j) (hK : K ≤ n) : FW n a K b m' := by
  refine ⟨fun i j hi hj hf => ?_, fun k i j hk hi hj h1 h2 => ?_, fun i j hi hj hf => ?_, fun i j hi hj hf => ?_, fun i hi hf => ?_⟩
  · rw [e i j hi hj] at hf ⊢; exact h.bnd i j hi hj hf
  · rw [e i k hi (by omega)] at h1 ⊢
    rw [e k j (by omega) hj] at h2 ⊢
    rw [e i j hi hj]
    exact h.closed k i j hk hi hj h1 h2
  · rw [e i j hi hj]; exact h.ge i j hi hj hf
  · rw [e i j hi hj] at hf ⊢; exact h.walk i j hi hj hf
  · rw [e i i hi hi] at hf ⊢; exact h.diag i hi hf
section
variable {n : Nat} {s : List (List Int)}
/-- what is laid at a place -/
def val (s : List (List Int)) (k i j : Nat) : Int := if at2 s i k ≠ NN ∧ at2 s k j ≠ NN then max (at2 s i j) (w64 (at2 s i k + at2 s k j)) else at2 s i j
theorem b4_tot (h : Sq n s) {k i j : Nat} (hk : k < n) (hi : i < n) (hj : j < n) :
    Tot (mend_Closure_b4 k i j s) (fun c => match c with | .go s' => Sq n s' ∧ ∀ i' j', i' < n → j' < n → at2 s' i' j' = if i' = i ∧ j' = j then val s k i j else at2 s i' j' | .out _ => False) := by
  have hl := h.len
  have r1 : idx s (i : Int) = some (rw_ s i) := idx_row (by omega)
  have r2 : idx s (k : Int) = some (rw_ s k) := idx_row (by omega)
  have c1 := idx_at h hi hk
  have c2 := idx_at h hk hj
  have c3 := idx_at h hi hj
  unfold mend_Closure_b4
  simp only [r1, r2, c1, c2, c3, Option.bind_some]
  refine tot_bind (P := fun b => b = true ↔ (at2 s i k ≠ NN ∧ at2 s k j ≠ NN)) ?_ fun b _ hb => ?_
  · simp only [tot_ifb_iff, tot_some_iff]
    exact ⟨fun h => by simp at h ⊢; simp [NN, h], fun h => by simp at h ⊢; simp [NN, h]⟩
  refine tot_ifb (fun hc => tot_some ⟨h.set hi hj, fun i' j' hi' hj' => ?_⟩) fun hc => tot_some ⟨h, fun i' j' hi' hj' => ?_⟩
  · rw [at_set h hi hj hi' hj', gmax_eq]
    split
    · unfold val; rw [if_pos (hb.1 hc)]
    · rfl
  · split
    · rename_i e
      rw [e.1, e.2]
      unfold val
      rw [if_neg fun h' => by rw [hb.2 h'] at hc; cases hc]
    · rfl
/-- a positive place of the diagonal stays so -/
def Bad (n : Nat) (s : List (List Int)) : Prop := Sq n s ∧ ∃ v, v < n ∧ 0 < at2 s v v
theorem bad_b4 (h : Bad n s) {k i j : Nat} (hk : k < n) (hi : i < n) (hj : j < n) : Tot (mend_Closure_b4 k i j s) (fun c => match c with | .go s' => Bad n s' | .out _ => False) := by
  refine tot_mono (b4_tot h.1 hk hi hj) fun c hc => ?_
  cases c with
  | out _ => exact hc
  | go s' =>
    obtain ⟨h1, h2⟩ := hc
    obtain ⟨v, hv, hp⟩ := h.2
    refine ⟨h1, v, hv, ?_⟩
    rw [h2 v v hv hv]
    split
    · rename_i e
      unfold val
      rw [← e.1, ← e.2]
      split <;> omega
    · exact hp
theorem bad_b3 (h : Bad n s) {k i : Nat} (hk : k < n) (hi : i < n) : Tot (mend_Closure_b3 k i s) (fun c => match c with | .go s' => Bad n s' | .out _ => False) := by
  have hl := h.1.len
  unfold mend_Closure_b3
  refine tot_loopN (I := fun _ s => Bad n s) (J := fun s => Bad n s) (E := fun _ => False) h (fun j s hj hI => tot_mono (bad_b4 hI hk hi (by omega)) fun c hc => ?_) (fun s h => h) (fun s h => tot_some h) (fun _ h => h.elim)
  cases c with
  | go s' => exact hc
  | out _ => exact hc.elim
theorem bad_b2 (h : Bad n s) {k : Nat} (hk : k < n) : Tot (mend_Closure_b2 k s) (fun c => match c with | .go s' => Bad n s' | .out _ => False) := by
  have hl := h.1.len
  unfold mend_Closure_b2
  refine tot_loopN (I := fun _ s => Bad n s) (J := fun s => Bad n s) (E := fun _ => False) h (fun i s hi hI => tot_mono (bad_b3 hI hk (by omega)) fun c hc => ?_) (fun s h => h) (fun s h => tot_some h) (fun _ h => h.elim)
  cases c with
  | go s' => exact hc
  | out _ => exact hc.elim
/-- so far -/
def Upto (n : Nat) (m : Nat → Nat → Int) (K i j : Nat) (s : List (List Int)) : Prop := Sq n s ∧ ∀ i' j', i' < n → j' < n → at2 s i' j' = if i' < i ∨ (i' = i ∧ j' < j) then fw m K i' j' else m i' j'
theorem good_b2 {a m : Nat → Nat → Int} {K : Nat} (hs : Sq n s) (hm : ∀ i j, i < n → j < n → at2 s i j = m i j) (hF : FW n a K (bK K) m) (hK : K < n) (hn : n ≤ 8) :
    Tot (mend_Closure_b2 K s) (fun c => match c with | .go s' => Sq n s' ∧ ∀ i j, i < n → j < n → at2 s' i j = fw m K i j | .out _ => False) := by
  have hl := hs.len
  have hb := bK_8 (K := K) (by omega)
  have hb0 := bK_pos K
  have F := hF.facts hK hb0 hb
  unfold mend_Closure_b2
  refine tot_loopN (I := fun i s => i ≤ n ∧ Upto n m K i 0 s) (J := fun s => Upto n m K n 0 s) (E := fun _ => False) ⟨by omega, hs, fun i' j' hi' hj' => by rw [if_neg (by omega)]; exact hm i' j' hi' hj'⟩ (fun i s1 hi hI => ?_) (fun s1 h => by rw [hl] at h; exact h.2) (fun s1 h => tot_some ⟨h.1, fun i j hi hj => by rw [h.2 i j hi hj, if_pos (by omega)]⟩) (fun _ h => h.elim)
  obtain ⟨_, hU⟩ := hI
  have hin : i < n := by omega
  have hl1 := hU.1.len
  unfold mend_Closure_b3
  refine tot_loopN (I := fun j s => j ≤ n ∧ Upto n m K i j s) (J := fun s => Upto n m K i n s) (E := fun _ => False) ⟨by omega, hU⟩ (fun j s2 hj hI => ?_) (fun s2 h => by rw [hl1] at h; exact h.2) (fun s2 h => tot_some ⟨by omega, h.1, fun i' j' hi' hj' => ?_⟩) (fun _ h => h.elim)
  · obtain ⟨_, hS, hU⟩ := hI
    have hjn : j < n := by omega
    refine tot_mono (b4_tot hS hK hin hjn) fun c hc => ?_
    cases c with
    | out _ => exact hc.elim
    | go s' =>
      obtain ⟨h1, h2⟩ := hc
      refine ⟨by omega, h1, fun i' j' hi' hj' => ?_⟩
      rw [h2 i' j' hi' hj']
      have u1 : at2 s2 i K = m i K := by
        rw [hU i K hin hK]; split
        · exact F.col i hin
        · rfl
      have u2 : at2 s2 K j = m K j := by
        rw [hU K j hK hjn]; split
        · exact F.row j hjn
        · rfl
      have u3 : at2 s2 i j = m i j := by rw [hU i j hin hjn, if_neg (by omega)]
      by_cases hij : i' = i ∧ j' = j
      · obtain ⟨rfl, rfl⟩ := hij
        rw [if_pos ⟨rfl, rfl⟩, if_pos (by omega)]
        unfold val fw
        rw [u1, u2, u3]
        split
        · rename_i hc
          have e1 := hF.bnd i' K hi' hK hc.1
          have e2 := hF.bnd K j' hK hj' hc.2
          rw [w64_id (by omega) (by omega)]
        · rfl
      · rw [if_neg hij, hU i' j' hi' hj']
        by_cases hlt : i' < i ∨ (i' = i ∧ j' < j)
        · rw [if_pos hlt, if_pos (by omega)]
        · rw [if_neg hlt, if_neg (by omega)]
  · rw [h.2 i' j' hi' hj']
    by_cases hlt : i' < i ∨ (i' = i ∧ j' < n)
    · rw [if_pos hlt, if_pos (by omega)]
    · rw [if_neg hlt, if_neg (by omega)]
/-- a closed walk that gains -/
def Gain (n : Nat) (a : Nat → Nat → Int) : Prop := ∃ v l w, v < n ∧ Wk n a l v v w ∧ 0 < w
theorem closure_tot (p : List (List Int)) :
    Tot (mend_Closure p) (fun x => (x.2 ≠ 0 ∧ x.1 = [] ∧ (Table p.length p → Gain p.length (at2 p))) ∨ (x.2 = 0 ∧ Table p.length p ∧ Sq p.length x.1 ∧ CL p.length (at2 p) (at2 x.1))) := by
  unfold mend_Closure
  refine tot_ifb (fun h => tot_some (.inl ⟨by simp, rfl, fun ht => ?_⟩)) fun h => ?_
  · have := ht.n8; simp at h; omega
  simp only [decide_eq_false_iff_not, Int.not_lt] at h
  have hn : p.length ≤ 8 := by omega
  clear h
  refine tot_bind (contains1_tot p p) fun x _ hx => ?_
  obtain ⟨x2, x1, x3⟩ := hx
  rw [x2]
  refine tot_ifb (fun h => tot_some (.inl ⟨by simp, rfl, fun ht => ?_⟩)) fun h => ?_
  · exfalso
    obtain ⟨r, hr, hne⟩ := x3 h
    obtain ⟨i, hi⟩ := List.getElem?_of_mem hr
    have hil := (List.getElem?_eq_some_iff.1 hi).1
    have := ht.sq.row i hil
    rw [show rw_ p i = r from nth_nat [] hi] at this
    exact hne this
  have hrow := x1 h
  clear h x1 x2 x3
  refine tot_bind (table_tot p) fun e _ he => ?_
  rcases he with ⟨rfl, hok⟩ | ⟨rfl, r, hr, y, hy, hno⟩
  case inr => exact tot_ifb (fun h => tot_some (.inl ⟨by simp, rfl, fun ht => absurd (ht.ok r hr y hy) hno⟩)) fun h => by simp at h
  refine tot_ifb (fun h => by simp at h) fun _ => ?_
  have hT : Table p.length p := ⟨hn, ⟨rfl, fun i hi => hrow _ (nth_mem [] (by omega) (by omega))⟩, hok⟩
  have hat : ∀ i j, i < p.length → j < p.length → okN (at2 p i j) := fun i j hi hj => hT.at hi hj
  have hSq := hT.sq
  refine tot_bind' (gmake_eq (by omega) (by simp only [mkRoom]; omega) (by simp only [maxLen]; omega)) ?_
  rw [Int.toNat_natCast]
  generalize hN : p.length = n at hn hT hat hSq
  -- the copies
  refine tot_loopX (I := fun k s => k ≤ n ∧ s.length = n ∧ ∀ i, i < k → rw_ s i = rw_ p i) (J := fun s => Sq n s ∧ ∀ i j, i < n → j < n → at2 s i j = at2 p i j) (E := fun _ => False) ⟨by omega, by simp, fun i h => by omega⟩ (fun k r s hr hI => ?_) (fun s hI => ?_) (fun s hs => ?_) (fun _ h => h.elim)
  · obtain ⟨hk, hl, hI⟩ := hI
    have hkl := (List.getElem?_eq_some_iff.1 hr).1
    have hre : rw_ p k = r := nth_nat [] hr
    have hrl := hSq.row k (by omega)
    rw [hre] at hrl
    unfold mend_Closure_b1
    have hcl : slices_Clone_int_int r = some r := by
      have : gapp 8 ([] : List Int) r = some r := by
        rw [gapp_eq (by simp only [apRoom, List.length_nil]; omega) (by simp only [maxLen, List.length_nil]; omega)]; simp
      simp [slices_Clone_int_int, slices_Clone_int_int_v2, ifb, this]
    refine tot_bind' hcl ?_
    refine tot_bind' (idx_row (by omega)) ?_
    refine tot_bind' (show holeOk none (k : Int) = some () from rfl) ?_
    refine tot_bind' (idx_row (by omega)) (tot_some ⟨by omega, by rw [setI_length]; exact hl, fun i hi => ?_⟩)
    rw [show rw_ (setI s (k : Int) r) i = if ((i : Nat) : Int) = k then r else rw_ s i from nth_setI [] (by omega) (by omega) (by omega)]
    by_cases hik : i = k
    · subst hik; rw [if_pos rfl, hre]
    · rw [if_neg (by omega)]; exact hI i (by omega)
  · obtain ⟨_, hl, hI⟩ := hI
    rw [hN] at hI
    exact ⟨⟨hl, fun i hi => by rw [hI i hi]; exact hSq.row i hi⟩, fun i j hi hj => by unfold at2; rw [hI i hi]⟩
  obtain ⟨hsq, hse⟩ := hs
  -- place by place
  have h0 : FW n (at2 p) 0 (bK 0) (at2 s) ∨ (Bad n s ∧ Gain n (at2 p)) := by
    by_cases hd : ∀ i, i < n → at2 p i i ≠ NN → at2 p i i ≤ 0
    · left
      refine FW.congr (m := at2 p) ⟨fun i j hi hj hf => ?_, fun k i j hk => by omega, fun i j hi hj hf => ⟨hf, Int.le_refl _⟩, fun i j hi hj hf => ⟨1, wk_one hi hj hf⟩, hd⟩ hse (by omega)
      exact (hat i j hi hj).resolve_left hf
    · right
      obtain ⟨v, hv⟩ := Classical.not_forall.1 hd
      obtain ⟨hv1, hv⟩ := Classical.not_imp.1 hv
      obtain ⟨hv2, hv3⟩ := Classical.not_imp.1 hv
      exact ⟨⟨hsq, v, hv1, by rw [hse v v hv1 hv1]; omega⟩, v, 1, _, hv1, wk_one hv1 hv1 hv2, by omega⟩
  have hsl := hsq.len
  refine tot_loopN (I := fun K s => K ≤ n ∧ Sq n s ∧ (FW n (at2 p) K (bK K) (at2 s) ∨ (Bad n s ∧ Gain n (at2 p)))) (J := fun s => Sq n s ∧ (FW n (at2 p) n (bK n) (at2 s) ∨ (Bad n s ∧ Gain n (at2 p)))) (E := fun _ => False) ⟨by omega, hsq, h0⟩ (fun K s1 hK hI => ?_) (fun s1 hI => by rw [hsl] at hI; exact hI.2) (fun s1 hJ => ?_) (fun _ h => h.elim)
  · obtain ⟨_, hS, hI⟩ := hI
    have hKn : K < n := by omega
    rcases hI with hF | ⟨hB, hG⟩
    · have F := hF.facts hKn (bK_pos K) (bK_8 (by omega))
      refine tot_mono (good_b2 hS (fun _ _ _ _ => rfl) hF hKn hn) fun c hc => ?_
      cases c with
      | out _ => exact hc.elim
      | go s' =>
        obtain ⟨h1, h2⟩ := hc
        refine ⟨by omega, h1, ?_⟩
        by_cases hd : ∀ i, i < n → fw (at2 s1) K i i ≠ NN → fw (at2 s1) K i i ≤ 0
        · left
          exact FW.congr (hF.step hKn (bK_pos K) (bK_8 (by omega)) hd) h2 (by omega)
        · right
          obtain ⟨v, hv⟩ := Classical.not_forall.1 hd
          obtain ⟨hv1, hv⟩ := Classical.not_imp.1 hv
          obtain ⟨hv2, hv3⟩ := Classical.not_imp.1 hv
          obtain ⟨l, hw⟩ := F.walk v v hv1 hv1 hv2
          exact ⟨⟨h1, v, hv1, by rw [h2 v v hv1 hv1]; omega⟩, v, l, _, hv1, hw, by omega⟩
    · refine tot_mono (bad_b2 hB hKn) fun c hc => ?_
      cases c with
      | out _ => exact hc.elim
      | go s' => exact ⟨by omega, hc.1, .inr ⟨hc, hG⟩⟩
  obtain ⟨hS, hJ⟩ := hJ
  have hl1 := hS.len
  have b5 : ∀ (k : Nat) (s2 : List (List Int)), k < n → Sq n s2 → Tot (mend_Closure_b5 k s2) (fun c => match c with | .go s' => at2 s2 k k ≤ 0 ∧ Sq n s' ∧ ∀ i j, i < n → j < n → at2 s' i j = if i = k ∧ j = k then 0 else at2 s2 i j | .out (.go _) => False | .out (.out y) => 0 < at2 s2 k k ∧ y = ([], 5)) := by
    intro k s2 hk h2
    have hl2 := h2.len
    have r1 : idx s2 (k : Int) = some (rw_ s2 k) := idx_row (by omega)
    have c1 := idx_at h2 hk hk
    unfold mend_Closure_b5
    simp only [r1, c1, Option.bind_some]
    refine tot_ifb (fun h => tot_some ⟨by simpa using h, rfl⟩) fun h => tot_some ⟨by simpa using h, h2.set hk hk, fun i j hi hj => at_set h2 hk hk hi hj⟩
  rcases hJ with hF | ⟨hB, hG⟩
  · refine tot_loopN (I := fun k s => k ≤ n ∧ Sq n s ∧ ∀ i j, i < n → j < n → at2 s i j = if i = j ∧ i < k then 0 else at2 s1 i j) (J := fun s => Sq n s ∧ ∀ i j, i < n → j < n → at2 s i j = if i = j then 0 else at2 s1 i j) (E := fun _ => False) ⟨by omega, hS, fun i j _ _ => by rw [if_neg (by omega)]⟩ (fun k s2 hk hI => ?_) (fun s2 hI => ?_) (fun s2 hJ => tot_some (.inr ⟨rfl, hT, hJ.1, hF.cl hJ.2⟩)) (fun _ h => h.elim)
    · obtain ⟨_, hS2, hI⟩ := hI
      have hkn : k < n := by omega
      refine tot_mono (b5 k s2 hkn hS2) fun c hc => ?_
      rcases c with s' | (s' | y)
      · obtain ⟨_, h1, h2⟩ := hc
        refine ⟨by omega, h1, fun i j hi hj => ?_⟩
        rw [h2 i j hi hj]
        by_cases hik : i = k ∧ j = k
        · rw [if_pos hik, if_pos (by omega)]
        · rw [if_neg hik, hI i j hi hj]
          by_cases hlt : i = j ∧ i < k
          · rw [if_pos hlt, if_pos (by omega)]
          · rw [if_neg hlt, if_neg (by omega)]
      · exact hc.elim
      · have h1 := hc.1
        rw [hI k k hkn hkn, if_neg (by omega)] at h1
        by_cases hf : at2 s1 k k = NN
        · rw [hf] at h1; exact absurd h1 (by decide)
        · have := hF.diag k hkn hf; omega
    · obtain ⟨_, h1, h2⟩ := hI
      rw [hl1] at h2
      refine ⟨h1, fun i j hi hj => ?_⟩
      rw [h2 i j hi hj]
      by_cases hij : i = j
      · rw [if_pos hij, if_pos (by omega)]
      · rw [if_neg hij, if_neg (by omega)]
  · refine tot_loopN (I := fun k s => k ≤ n ∧ Sq n s ∧ ∃ v, k ≤ v ∧ v < n ∧ 0 < at2 s v v) (J := fun _ => False) (E := fun y => y = ([], 5)) ⟨by omega, hB.1, by obtain ⟨v, h1, h2⟩ := hB.2; exact ⟨v, by omega, h1, h2⟩⟩ (fun k s2 hk hI => ?_) (fun s2 hI => ?_) (fun s2 hJ => hJ.elim) (fun y hy => tot_some (.inl ⟨by rw [hy]; simp, by rw [hy], fun _ => hG⟩))
    · obtain ⟨_, hS2, v, hv1, hv2, hv3⟩ := hI
      have hkn : k < n := by omega
      refine tot_mono (b5 k s2 hkn hS2) fun c hc => ?_
      rcases c with s' | (s' | y)
      · obtain ⟨h0, h1, h2⟩ := hc
        have hne : v ≠ k := fun e => by subst e; omega
        exact ⟨by omega, h1, v, by omega, hv2, by rw [h2 v v hv2 hv2, if_neg (by omega)]; exact hv3⟩
      · exact hc.elim
      · exact hc.2
    · obtain ⟨_, _, v, h1, h2, _⟩ := hI
      omega
end
end Mc

/- MendCloses, the plain side: Product. -/
set_option linter.unusedVariables false
set_option linter.unusedSimpArgs false
namespace Mc
open Go Hk Hd Pl

theorem repeat_eq : ∀ k : Nat, k ≤ 8 → slices_Repeat_int_int (k : Int) [-4611686018427387904] = some (List.replicate k NN)
  | 0, _ => by kernel_rfl
  | 1, _ => by kernel_rfl
  | 2, _ => by kernel_rfl
  | 3, _ => by kernel_rfl
  | 4, _ => by kernel_rfl
  | 5, _ => by kernel_rfl
  | 6, _ => by kernel_rfl
  | 7, _ => by kernel_rfl
  | 8, _ => by kernel_rfl
  | k + 9, h => by omega
theorem row_set {s : List (List Int)} {i : Nat} {r : List Int} (hi : i < s.length) (i' : Nat) (hi' : i' < s.length) : rw_ (setI s (i : Int) r) i' = if i' = i then r else rw_ s i' := by
  rw [show rw_ (setI s (i : Int) r) i' = if ((i' : Nat) : Int) = i then r else rw_ s i' from nth_setI [] (by omega) (by omega) (by omega)]
  by_cases h : i' = i
  · rw [if_pos (by omega), if_pos h]
  · rw [if_neg (by omega), if_neg h]
theorem idx_set {s : List (List Int)} {i : Nat} {r : List Int} (hi : i < s.length) : idx (setI s (i : Int) r) (i : Int) = some r := by
  rw [idx_row (by rw [setI_length]; exact hi), row_set hi i hi, if_pos rfl]
theorem set_set {s : List (List Int)} {i : Nat} {r r' : List Int} : setI (setI s (i : Int) r) (i : Int) r' = setI s (i : Int) r' := by
  simp [setI]
/-- the sums over the first K places between -/
def PR (x y : Nat → Nat → Int) (i j K : Nat) (v : Int) : Prop := (v ≠ NN → ∃ k, k < K ∧ x i k ≠ NN ∧ y k j ≠ NN ∧ v = x i k + y k j) ∧ ∀ k, k < K → x i k ≠ NN → y k j ≠ NN → v ≠ NN ∧ x i k + y k j ≤ v
theorem pr_zero (x y : Nat → Nat → Int) (i j : Nat) : PR x y i j 0 NN := ⟨fun h => absurd rfl h, fun k hk => by omega⟩
theorem pr_no {x y : Nat → Nat → Int} {i j K : Nat} {v : Int} (h : PR x y i j K v) (hn : ¬ (x i K ≠ NN ∧ y K j ≠ NN)) : PR x y i j (K + 1) v := by
  refine ⟨fun hv => ?_, fun k hk h1 h2 => ?_⟩
  · obtain ⟨k, hk, h1⟩ := h.1 hv
    exact ⟨k, by omega, h1⟩
  · by_cases hkK : k = K
    · subst hkK; exact absurd ⟨h1, h2⟩ hn
    · exact h.2 k (by omega) h1 h2
theorem pr_yes {x y : Nat → Nat → Int} {i j K : Nat} {v : Int} (h : PR x y i j K v) (h1 : x i K ≠ NN) (h2 : y K j ≠ NN) (hb1 : okN (x i K)) (hb2 : okN (y K j)) : PR x y i j (K + 1) (max v (x i K + y K j)) := by
  have b1 := hb1.resolve_left h1
  have b2 := hb2.resolve_left h2
  have hs : NN < x i K + y K j := by simp only [NN]; omega
  refine ⟨fun hv => ?_, fun k hk g1 g2 => ?_⟩
  · rcases Int.le_total v (x i K + y K j) with h' | h'
    · exact ⟨K, by omega, h1, h2, by omega⟩
    · have : v ≠ NN := by omega
      obtain ⟨k, hk, g1, g2, e⟩ := h.1 this
      exact ⟨k, by omega, g1, g2, by omega⟩
  · refine ⟨by omega, ?_⟩
    by_cases hkK : k = K
    · subst hkK; omega
    · have := (h.2 k (by omega) g1 g2).2
      omega
section
variable {n : Nat} {x y : List (List Int)}
theorem prod_b4 (hn : n ≤ 8) (hx : Table n x) (hy : Table n y) {b : Bool} {i j : Nat} (hi : i < n) (hj : j < n) {s0 : List (List Int)} (h0 : s0.length = n) {r : List Int} (hr : r.length = n) (hv : nI r (j : Int) = NN) :
    Tot ((forX (mend_Product_b4 (b, y) i j) (rw_ x i) (setI s0 (i : Int) r)).bind fun c66 => Ctl.on c66 (fun s45 => (some (Ctl.go s45 : Ctl (List (List Int)) (Ctl (List (List Int)) Empty)))) (fun x_ => x_.elim))
      (fun c => match c with | .go s' => ∃ v, s' = setI s0 (i : Int) (setI r (j : Int) v) ∧ PR (at2 x) (at2 y) i j n v | .out _ => False) := by
  have hxl := hx.sq.row i hi
  have hyl := hy.sq.len
  refine tot_loopX (I := fun k s => k ≤ n ∧ ∃ v, s = setI s0 (i : Int) (setI r (j : Int) v) ∧ PR (at2 x) (at2 y) i j k v) (J := fun s => ∃ v, s = setI s0 (i : Int) (setI r (j : Int) v) ∧ PR (at2 x) (at2 y) i j n v) (E := fun _ => False)
    ⟨by omega, NN, ?_, pr_zero _ _ _ _⟩ (fun k z s hz hI => ?_) (fun s hI => by rw [hxl] at hI; exact hI.2) (fun s hJ => tot_some hJ) (fun _ h => h.elim)
  · have : setI r (j : Int) NN = r := by
      refine List.ext_getElem (by rw [setI_length]) fun q h1 h2 => ?_
      have e1 : nI (setI r (j : Int) NN) (q : Int) = (setI r (j : Int) NN)[q] := nth_get 0 h1
      have e2 : nI r (q : Int) = r[q] := nth_get 0 h2
      rw [← e1, ← e2, show nI (setI r (j : Int) NN) (q : Int) = if ((q : Nat) : Int) = j then NN else nI r (q : Int) from nth_setI 0 (by omega) (by omega) (by omega)]
      split
      · rename_i e; rw [e, hv]
      · rfl
    rw [this]
  · obtain ⟨hk, v, rfl, hP⟩ := hI
    have hkl := (List.getElem?_eq_some_iff.1 hz).1
    have hkn : k < n := by omega
    have hze : at2 x i k = z := nth_nat 0 hz
    have e1 : idx y (k : Int) = some (rw_ y k) := idx_row (by omega)
    have e2 := idx_at hy.sq hkn hj
    have hrl : (setI r (j : Int) v).length = n := by rw [setI_length]; exact hr
    have e3 : idx (setI s0 (i : Int) (setI r (j : Int) v)) (i : Int) = some (setI r (j : Int) v) := idx_set (by omega)
    have e4 : idx (setI r (j : Int) v) (j : Int) = some v := by
      rw [idx_nI (by omega) (by omega), show nI (setI r (j : Int) v) (j : Int) = v from nth_setI_self 0 (by omega) (by omega)]
    have o1 : okN (at2 x i k) := hx.at hi hkn
    have o2 : okN (at2 y k j) := hy.at hkn hj
    unfold mend_Product_b4
    simp only [e1, e2, e3, e4, Option.bind_some]
    refine tot_bind (P := fun b => b = true ↔ (at2 x i k ≠ NN ∧ at2 y k j ≠ NN)) ?_ fun b' _ hb => ?_
    · rw [hze]
      simp only [tot_ifb_iff, tot_some_iff]
      exact ⟨fun h => by simp at h ⊢; simp [NN, h], fun h => by simp at h ⊢; simp [NN, h]⟩
    refine tot_ifb (fun hc => ?_) fun hc => tot_some ⟨by omega, v, rfl, pr_no hP fun h' => by rw [hb.2 h'] at hc; cases hc⟩
    obtain ⟨c1, c2⟩ := hb.1 hc
    have b1 := o1.resolve_left c1
    have b2 := o2.resolve_left c2
    rw [← hze, gmax_eq, w64_id (by omega) (by omega)]
    refine tot_some ⟨by omega, _, ?_, pr_yes hP c1 c2 o1 o2⟩
    rw [set_set]
    congr 1
    simp [setI]
theorem prod_tot (hx : Table n x) (hy : Table n y) : Tot (mend_Product x y) (fun z => z.2 = 0 ∧ Sq n z.1 ∧ Prod2 n (at2 x) (at2 y) (at2 z.1)) := by
  have hn := hx.n8
  have hxl := hx.sq.len
  have hyl := hy.sq.len
  unfold mend_Product
  refine tot_bind (P := (· = false)) ?_ fun b _ hb => ?_
  · simp only [tot_ifb_iff, tot_some_iff, decide_eq_true_eq, decide_eq_false_iff_not]
    exact ⟨fun h => by omega, fun h => by omega⟩
  subst hb
  refine tot_ifb (fun h => by cases h) fun _ => ?_
  refine tot_bind (P := (· = (false, y))) ?_ fun b _ hb => ?_
  · unfold slices_ContainsFunc_int_int_v3 slices_IndexFunc_int_int_v3 slices_ContainsFunc_int_int_v4 slices_IndexFunc_int_int_v4
    refine tot_bind (P := (· = (false, y))) ?_ fun z _ hz => ?_
    · refine tot_bind (P := (· = (-1, y))) ?_ fun z _ hz => by rw [hz]; exact tot_some rfl
      refine tot_loopX (I := fun _ s => s = y) (J := fun s => s = y) (E := fun _ => False) rfl (fun k r s hr hI => ?_) (fun s hI => hI) (fun s hJ => by rw [hJ]; exact tot_some rfl) (fun _ h => h.elim)
      subst hI
      have hkl := (List.getElem?_eq_some_iff.1 hr).1
      have hrl := hx.sq.row k (by omega)
      rw [show rw_ x k = r from nth_nat [] hr] at hrl
      unfold slices_IndexFunc_int_int_v3_b1 mend_Product_1
      refine tot_bind' rfl (tot_ifb (fun h => ?_) fun _ => tot_some rfl)
      simp at h; omega
    subst hz
    refine tot_ifb (fun h => by cases h) fun _ => ?_
    refine tot_bind (P := (· = (false, y))) ?_ fun z _ hz => by rw [hz]; exact tot_some rfl
    refine tot_bind (P := (· = (-1, y))) ?_ fun z _ hz => by rw [hz]; exact tot_some rfl
    refine tot_loopX (I := fun _ s => s = y) (J := fun s => s = y) (E := fun _ => False) rfl (fun k r s hr hI => ?_) (fun s hI => hI) (fun s hJ => by rw [hJ]; exact tot_some rfl) (fun _ h => h.elim)
    subst hI
    have hkl : k < s.length := (List.getElem?_eq_some_iff.1 hr).1
    have hrl := hy.sq.row k (by omega)
    rw [show rw_ s k = r from nth_nat [] hr] at hrl
    have h0 := hy.sq.row 0 (by omega)
    unfold slices_IndexFunc_int_int_v4_b1 mend_Product_2
    have e0 : idx s (0 : Int) = some (rw_ s 0) := idx_row (i := 0) (by omega)
    simp only [e0, Option.bind_some]
    refine tot_ifb (fun h => ?_) fun _ => tot_some rfl
    simp at h; omega
  subst hb
  refine tot_ifb (fun h => by cases h) fun _ => ?_
  refine tot_bind (P := (· = (n : Int))) ?_ fun w _ hw => ?_
  · refine tot_ifb (fun h => ?_) fun h => tot_some ?_
    · simp only [decide_eq_true_eq] at h
      have e0 : idx y (0 : Int) = some (rw_ y 0) := idx_row (i := 0) (by omega)
      have h0 := hy.sq.row 0 (by omega)
      exact tot_bind' e0 (tot_some (by omega))
    · simp only [decide_eq_false_iff_not] at h
      omega
  subst hw
  refine tot_ifb (fun h => by simp at h; omega) fun _ => ?_
  have tok : ∀ m, Table n m → mend_checkTable m = some 0 := fun m hm => by
    obtain ⟨e, he, h⟩ := table_tot m
    rcases h with ⟨rfl, _⟩ | ⟨_, r, hr, z, hz, hno⟩
    · exact he
    · exact absurd (hm.ok r hr z hz) hno
  refine tot_bind (P := fun c => match c with | .go _ => True | .out _ => False)
    (tot_iter (I := fun s => s = 0 ∨ s = 1 ∨ s = 2) (μ := fun s => (2 - s).toNat) (.inl rfl) (by simp only [bigN]; omega) (fun s hI => ?_)) fun c _ hc => ?_
  · unfold mend_Product_b1
    rcases hI with rfl | rfl | rfl
    · refine tot_ifb (fun _ => ?_) fun h => by simp at h
      refine tot_bind' (show idx [x, y] 0 = some x from rfl) (tot_bind' (tok x hx) ?_)
      refine tot_ifb (fun h => by simp at h) fun _ => tot_some ⟨?_, ?_⟩
      · rw [w64_id (by omega) (by omega)]; exact .inr (.inl rfl)
      · rw [w64_id (by omega) (by omega)]; decide
    · refine tot_ifb (fun _ => ?_) fun h => by simp at h
      refine tot_bind' (show idx [x, y] 1 = some y from rfl) (tot_bind' (tok y hy) ?_)
      refine tot_ifb (fun h => by simp at h) fun _ => tot_some ⟨?_, ?_⟩
      · rw [w64_id (by omega) (by omega)]; exact .inr (.inr rfl)
      · rw [w64_id (by omega) (by omega)]; decide
    · exact tot_ifb (fun h => by simp at h) fun _ => tot_some trivial
  cases c with
  | out _ => exact hc.elim
  | go u =>
  show Tot ((gmake 24 (x.length : Int) []).bind _) _
  refine tot_bind' (gmake_eq (by omega) (by simp only [mkRoom]; omega) (by simp only [maxLen]; omega)) ?_
  rw [Int.toNat_natCast, hxl]
  refine tot_loopX (I := fun i s => i ≤ n ∧ s.length = n ∧ ∀ i', i' < i → (rw_ s i').length = n ∧ ∀ j, j < n → PR (at2 x) (at2 y) i' j n (at2 s i' j)) (J := fun s => s.length = n ∧ ∀ i', i' < n → (rw_ s i').length = n ∧ ∀ j, j < n → PR (at2 x) (at2 y) i' j n (at2 s i' j)) (E := fun _ => False) ⟨by omega, by simp, fun i h => by omega⟩ (fun i r s hr hI => ?_) (fun s hI => by rw [hxl] at hI; exact hI.2) (fun s hJ => tot_some ⟨rfl, ?_, ?_⟩) (fun _ h => h.elim)
  · obtain ⟨_, hsl, hI⟩ := hI
    have hil := (List.getElem?_eq_some_iff.1 hr).1
    have hin : i < n := by omega
    have hre : rw_ x i = r := nth_nat [] hr
    unfold mend_Product_b2
    refine tot_bind' (repeat_eq n hn) ?_
    refine tot_bind' (idx_row (by omega)) (tot_bind' (show holeOk none (i : Int) = some () from rfl) (tot_bind' (idx_row (by omega)) (tot_bind' (glim_eq (by omega)) ?_)))
    rw [Int.toNat_natCast]
    refine tot_loopN (I := fun j s' => j ≤ n ∧ ∃ r', s' = setI s (i : Int) r' ∧ r'.length = n ∧ ∀ j', j' < n → if j' < j then PR (at2 x) (at2 y) i j' n (nI r' (j' : Int)) else nI r' (j' : Int) = NN) (J := fun s' => ∃ r', s' = setI s (i : Int) r' ∧ r'.length = n ∧ ∀ j', j' < n → PR (at2 x) (at2 y) i j' n (nI r' (j' : Int))) (E := fun _ => False)
      ⟨by omega, _, rfl, by simp, fun j' hj' => by rw [if_neg (by omega)]; exact nth_replicate (by omega) (by omega)⟩ (fun j s' hj hI' => ?_) (fun s' hI' => ?_) (fun s' hJ => tot_some ?_) (fun _ h => h.elim)
    · obtain ⟨_, r', rfl, hr', hI'⟩ := hI'
      have hv := hI' j hj
      rw [if_neg (by omega)] at hv
      unfold mend_Product_b3
      rw [← hre]
      refine tot_mono (prod_b4 hn hx hy hin hj hsl hr' hv) fun c hc => ?_
      cases c with
      | out _ => exact hc.elim
      | go s2 =>
        obtain ⟨v, rfl, hP⟩ := hc
        refine ⟨by omega, _, rfl, by rw [setI_length]; exact hr', fun j' hj' => ?_⟩
        rw [show nI (setI r' (j : Int) v) (j' : Int) = if ((j' : Nat) : Int) = j then v else nI r' (j' : Int) from nth_setI 0 (by omega) (by omega) (by omega)]
        have := hI' j' hj'
        by_cases hjj : j' = j
        · subst hjj
          rw [if_pos rfl, if_pos (by omega)]; exact hP
        · rw [if_neg (show ¬ ((j' : Nat) : Int) = j by omega)]
          by_cases hlt : j' < j
          · rw [if_pos hlt] at this; rw [if_pos (by omega)]; exact this
          · rw [if_neg hlt] at this; rw [if_neg (by omega)]; exact this
    · obtain ⟨_, r', h1, h2, h3⟩ := hI'
      exact ⟨r', h1, h2, fun j' hj' => by have := h3 j' hj'; rwa [if_pos hj'] at this⟩
    · obtain ⟨r', rfl, hr', hP⟩ := hJ
      refine ⟨by omega, by rw [setI_length]; exact hsl, fun i' hi' => ?_⟩
      have hrw := row_set (r := r') (show i < s.length by omega) i' (by omega)
      unfold at2
      rw [hrw]
      by_cases hii : i' = i
      · subst hii; rw [if_pos rfl]; exact ⟨hr', hP⟩
      · rw [if_neg hii]; exact hI i' (by omega)
  · exact ⟨hJ.1, fun i hi => (hJ.2 i hi).1⟩
  · refine ⟨fun i j hi hj hf => ?_, fun i j k hi hj hk h1 h2 => ((hJ.2 i hi).2 j hj).2 k hk h1 h2⟩
    obtain ⟨k, hk, h⟩ := ((hJ.2 i hi).2 j hj).1 hf
    exact ⟨k, hk, h⟩
end
end Mc
