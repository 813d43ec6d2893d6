/- Bounds: of each two events how much later the second one is at most. -/
import Derived.Test.YtphfhogmpfmpjaaZP
import Derived.Test.YtphfhogmpfmpjaaK5
set_option linter.unusedVariables false
set_option linter.unusedSimpArgs false
set_option maxRecDepth 100000
namespace Pt
open Go Hk Hd Pl

def mb (b : List Int) (i k : Int) : Int := nth 0 b ((0 + i * 8) + k * 1)
/-- bounds that are closed -/
structure Cl (n : Int) (b : List Int) : Prop where
  len : b.length = 64
  dg : ∀ i, 0 ≤ i → i < n → mb b i i = 0
  tri : ∀ i j k, 0 ≤ i → i < n → 0 ≤ j → j < n → 0 ≤ k → k < n → mb b i k ≤ mb b i j + mb b j k
  up : ∀ i k, 0 ≤ i → i < n → 0 ≤ k → k < n → mb b i k ≤ 3600
structure Sol (n : Int) (b : List Int) (t : Int → Int) : Prop where
  z : t 0 = 0
  le : ∀ i k, 0 ≤ i → i < n → 0 ≤ k → k < n → t k - t i ≤ mb b i k
theorem Cl.lo {n : Int} {b : List Int} (h : Cl n b) {i k : Int} (i0 : 0 ≤ i) (i1 : i < n) (k0 : 0 ≤ k) (k1 : k < n) : -3600 ≤ mb b i k := by
  have := h.tri i k i i0 i1 k0 k1 i0 i1
  have := h.dg i i0 i1
  have := h.up k i k0 k1 i0 i1
  omega
theorem Cl.least {n : Int} {b : List Int} (h : Cl n b) (hn : 0 < n) : Sol n b fun i => - mb b i 0 := by
  refine ⟨by show - mb b 0 0 = 0; rw [h.dg 0 (by omega) hn]; rfl, fun i k i0 i1 k0 k1 => ?_⟩
  have := h.tri i k 0 i0 i1 k0 k1 (by omega) hn
  show - mb b k 0 - - mb b i 0 ≤ mb b i k
  omega
theorem Sol.low {n : Int} {b : List Int} {t : Int → Int} (h : Sol n b t) (hn : 0 < n) {i : Int} (i0 : 0 ≤ i) (i1 : i < n) : - mb b i 0 ≤ t i := by
  have := h.le i 0 i0 i1 (by omega) hn
  have := h.z
  omega
theorem mb_idx {b : List Int} {i k : Int} (h : b.length = 64) (i0 : 0 ≤ i) (i1 : i < 8) (k0 : 0 ≤ k) (k1 : k < 8) : idx b ((0 + i * 8) + k * 1) = some (mb b i k) := idx_nth 0 (by omega) (by omega)
theorem gix_eq {m : Nat} {i : Int} (h0 : 0 ≤ i) (h1 : i < m) : gix m i = some () := by unfold gix; rw [if_pos ⟨h0, h1⟩]
theorem glen_eq {α : Type} {xs : List α} {n : Nat} (h : xs.length = n) : glen xs n = some () := by unfold glen; rw [if_pos h]
theorem mb_set {b : List Int} {i k i' k' v : Int} (h : b.length = 64) (i0 : 0 ≤ i) (i1 : i < 8) (k0 : 0 ≤ k) (k1 : k < 8) (i0' : 0 ≤ i') (i1' : i' < 8) (k0' : 0 ≤ k') (k1' : k' < 8) :
    mb (setI b ((0 + i * 8) + k * 1) v) i' k' = if i' = i ∧ k' = k then v else mb b i' k' := by
  unfold mb
  rw [nth_setI 0 (by omega) (by omega) (by omega)]
  by_cases q : i' = i ∧ k' = k
  · rw [if_pos q, if_pos (by omega)]
  · rw [if_neg q, if_neg (by omega)]
/-- one bound more -/
def add (b : List Int) (from_ to_ most i k : Int) : Int := min (mb b i k) (mb b i from_ + most + mb b to_ k)
section
variable {n from_ to_ most : Int} {b : List Int}
theorem closed_loop (h : Cl n b) (hn0 : 0 < n) (hn : n ≤ 8) (f0 : 0 ≤ from_) (f1 : from_ < n) (t0 : 0 ≤ to_) (t1 : to_ < n) (m0 : -100000 ≤ most) (m1 : most ≤ 100000) {β : Type} {F : List Int → Option β} {H : Empty → Option β} {Q : β → Prop}
    (hF : ∀ c, c.length = 64 → (∀ i k, 0 ≤ i → i < n → 0 ≤ k → k < n → mb c i k = add b from_ to_ most i k) → Tot (F c) Q) :
    Tot ((forN (plan_bounds_closed_b1 (some b) n from_ to_ most) n.toNat b).bind fun c => Ctl.on c F H) Q := by
  refine tot_loopN (I := fun i c => c.length = 64 ∧ ∀ i' k', 0 ≤ i' → i' < n → 0 ≤ k' → k' < n → mb c i' k' = if i' < (i : Int) then add b from_ to_ most i' k' else mb b i' k') (J := fun c => c.length = 64 ∧ ∀ i k, 0 ≤ i → i < n → 0 ≤ k → k < n → mb c i k = add b from_ to_ most i k) (E := fun _ => False)
    ⟨h.len, fun i' k' i0 _ _ _ => by rw [if_neg (by omega)]⟩ (fun i c hi hI => ?_) (fun c hI => ⟨hI.1, fun i k i0 i1 k0 k1 => by rw [hI.2 i k i0 i1 k0 k1, if_pos (by omega)]⟩) (fun c hJ => hF c hJ.1 hJ.2) (fun _ h => h.elim)
  obtain ⟨hl, hI⟩ := hI
  unfold plan_bounds_closed_b1
  refine tot_bind' (glim_eq (by omega)) ?_
  refine tot_loopN (I := fun k c => c.length = 64 ∧ ∀ i' k', 0 ≤ i' → i' < n → 0 ≤ k' → k' < n → mb c i' k' = if i' < (i : Int) ∨ i' = i ∧ k' < (k : Int) then add b from_ to_ most i' k' else mb b i' k') (J := fun c => c.length = 64 ∧ ∀ i' k', 0 ≤ i' → i' < n → 0 ≤ k' → k' < n → mb c i' k' = if i' < ((i + 1 : Nat) : Int) then add b from_ to_ most i' k' else mb b i' k') (E := fun _ => False)
    ⟨hl, fun i' k' i0 i1 k0 k1 => by rw [hI i' k' i0 i1 k0 k1]; by_cases q : i' < (i : Int) <;> simp [q] <;> omega⟩ (fun k c hk hI => ?_) (fun c hI => ⟨hI.1, fun i' k' i0 i1 k0 k1 => ?_⟩) (fun c hJ => tot_some hJ) (fun _ h => h.elim)
  · obtain ⟨hl, hI⟩ := hI
    have b1 := h.up i from_ (by omega) (by omega) f0 f1
    have b2 := h.lo (i := (i : Int)) (k := from_) (by omega) (by omega) f0 f1
    have b3 := h.up to_ k t0 t1 (by omega) (by omega)
    have b4 := h.lo (i := to_) (k := (k : Int)) t0 t1 (by omega) (by omega)
    unfold plan_bounds_closed_b2
    have g1 := gix_eq (m := 8) (i := (i : Int)) (by omega) (by omega)
    have g2 := gix_eq (m := 8) (i := (k : Int)) (by omega) (by omega)
    have g3 := gix_eq (m := 8) (i := from_) (by omega) (by omega)
    have g4 := gix_eq (m := 8) (i := to_) (by omega) (by omega)
    have e1 := mb_idx (b := c) (i := (i : Int)) (k := (k : Int)) hl (by omega) (by omega) (by omega) (by omega)
    have e2 := mb_idx (b := b) (i := (i : Int)) (k := from_) h.len (by omega) (by omega) (by omega) (by omega)
    have e3 := mb_idx (b := b) (i := to_) (k := (k : Int)) h.len (by omega) (by omega) (by omega) (by omega)
    simp only [Option.bind_some, g1, g2, g3, g4, e1, e2, e3]
    rw [w64_id (x := mb b i from_ + most) (by omega) (by omega), w64_id (by omega) (by omega), gmin_eq]
    refine tot_some ⟨by rw [setI_length]; exact hl, fun i' k' i0 i1 k0 k1 => ?_⟩
    rw [mb_set hl (by omega) (by omega) (by omega) (by omega) i0 (by omega) k0 (by omega)]
    have hc := hI i k (by omega) (by omega) (by omega) (by omega)
    rw [if_neg (by omega)] at hc
    by_cases q : i' = i ∧ k' = k
    · obtain ⟨rfl, rfl⟩ := q
      rw [if_pos ⟨rfl, rfl⟩, if_pos (by omega), hc]
      rfl
    · rw [if_neg q, hI i' k' i0 i1 k0 k1]
      by_cases q2 : i' < (i : Int) ∨ i' = i ∧ k' < (k : Int)
      · rw [if_pos q2, if_pos (by omega)]
      · rw [if_neg q2, if_neg (by omega)]
  · rw [hI.2 i' k' i0 i1 k0 k1]
    by_cases q : i' < ((i + 1 : Nat) : Int)
    · rw [if_pos (by omega), if_pos q]
    · rw [if_neg (by omega), if_neg q]
theorem closed_ok (h : Cl n b) (hn0 : 0 < n) (hn : n ≤ 8) (f0 : 0 ≤ from_) (f1 : from_ < n) (t0 : 0 ≤ to_) (t1 : to_ < n) (m0 : -100000 ≤ most) (m1 : most ≤ 100000) :
    Tot (plan_bounds_closed (some b) n from_ to_ most) fun r => (r.2 = false ∧ ∀ t, Sol n b t → ¬ (t to_ - t from_ ≤ most)) ∨ ∃ c, r = (some c, true) ∧ Cl n c ∧ ∀ t, Sol n c t ↔ Sol n b t ∧ t to_ - t from_ ≤ most := by
  unfold plan_bounds_closed
  have g3 := gix_eq (m := 8) (i := from_) (by omega) (by omega)
  have g4 := gix_eq (m := 8) (i := to_) (by omega) (by omega)
  have e1 := mb_idx (b := b) (i := from_) (k := to_) h.len (by omega) (by omega) (by omega) (by omega)
  have e2 := mb_idx (b := b) (i := to_) (k := from_) h.len (by omega) (by omega) (by omega) (by omega)
  have b3 := h.up to_ from_ t0 t1 f0 f1
  have b4 := h.lo t0 t1 f0 f1
  simp only [Option.bind_some, g3, g4, e1, e2]
  refine tot_ifb (fun q => ?_) fun q => ?_
  · have q := of_decide_eq_true q
    refine tot_some (.inr ⟨b, rfl, h, fun t => ⟨fun ht => ⟨ht, ?_⟩, fun ht => ht.1⟩⟩)
    have := ht.le from_ to_ f0 f1 t0 t1
    omega
  have q := of_decide_eq_false q
  rw [w64_id (x := mb b to_ from_ + most) (by omega) (by omega)]
  refine tot_ifb (fun q2 => ?_) fun q2 => ?_
  · have q2 := of_decide_eq_true q2
    refine tot_some (.inl ⟨rfl, fun t ht hm => ?_⟩)
    have := ht.le to_ from_ t0 t1 f0 f1
    omega
  have q2 := of_decide_eq_false q2
  refine tot_bind' (glen_eq h.len) ?_
  refine tot_bind' (glen_eq (by simp)) ?_
  refine tot_bind' (glen_eq h.len) ?_
  refine tot_bind' (glim_eq (by omega)) ?_
  refine closed_loop h hn0 hn f0 f1 t0 t1 m0 m1 fun c hl hc => tot_some (.inr ⟨c, rfl, ⟨hl, fun i i0 i1 => ?_, fun i j k i0 i1 j0 j1 k0 k1 => ?_, fun i k i0 i1 k0 k1 => ?_⟩, fun t => ⟨fun ht => ?_, fun ht => ⟨ht.1.z, fun i k i0 i1 k0 k1 => ?_⟩⟩⟩)
  · rw [hc i i i0 i1 i0 i1]
    unfold add
    have := h.dg i i0 i1
    have := h.tri to_ i from_ t0 t1 i0 i1 f0 f1
    omega
  · rw [hc i k i0 i1 k0 k1, hc i j i0 i1 j0 j1, hc j k j0 j1 k0 k1]
    unfold add
    have a1 := h.tri i j k i0 i1 j0 j1 k0 k1
    have a2 := h.tri i j from_ i0 i1 j0 j1 f0 f1
    have a3 := h.tri to_ j k t0 t1 j0 j1 k0 k1
    have a4 := h.tri to_ j from_ t0 t1 j0 j1 f0 f1
    omega
  · rw [hc i k i0 i1 k0 k1]
    unfold add
    have := h.up i k i0 i1 k0 k1
    omega
  · have e := hc from_ to_ f0 f1 t0 t1
    have d1 := h.dg from_ f0 f1
    have d2 := h.dg to_ t0 t1
    have := ht.le from_ to_ f0 f1 t0 t1
    unfold add at e
    refine ⟨⟨ht.z, fun i k i0 i1 k0 k1 => ?_⟩, by omega⟩
    have a1 := ht.le i k i0 i1 k0 k1
    rw [hc i k i0 i1 k0 k1] at a1
    unfold add at a1
    omega
  · rw [hc i k i0 i1 k0 k1]
    unfold add
    have a1 := ht.1.le i k i0 i1 k0 k1
    have a2 := ht.1.le i from_ i0 i1 f0 f1
    have a3 := ht.1.le to_ k t0 t1 k0 k1
    have := ht.2
    omega
theorem between_ok {low high : Int} (h : Cl n b) (hn0 : 0 < n) (hn : n ≤ 8) (f0 : 0 ≤ from_) (f1 : from_ < n) (t0 : 0 ≤ to_) (t1 : to_ < n) (l0 : -100000 ≤ low) (l1 : low ≤ 100000) (m0 : -100000 ≤ high) (m1 : high ≤ 100000) :
    Tot (plan_bounds_between (some b) n from_ to_ low high) fun r => (r.2 = false ∧ ∀ t, Sol n b t → ¬ (low ≤ t to_ - t from_ ∧ t to_ - t from_ ≤ high)) ∨ ∃ c, r = (some c, true) ∧ Cl n c ∧ ∀ t, Sol n c t ↔ Sol n b t ∧ low ≤ t to_ - t from_ ∧ t to_ - t from_ ≤ high := by
  unfold plan_bounds_between
  refine tot_bind (closed_ok h hn0 hn f0 f1 t0 t1 m0 m1) fun r _ hr => ?_
  rcases hr with ⟨h1, h2⟩ | ⟨c, rfl, hc, h2⟩
  · rw [h1]
    exact tot_some (.inl ⟨rfl, fun t ht hb => h2 t ht hb.2⟩)
  · simp only [Bool.not_true, ifb_false]
    rw [w64_id (x := 0 - low) (by omega) (by omega)]
    refine tot_bind (closed_ok hc hn0 hn t0 t1 f0 f1 (most := 0 - low) (by omega) (by omega)) fun r _ hr => ?_
    rcases hr with ⟨h3, h4⟩ | ⟨d, rfl, hd, h4⟩
    · exact tot_some (.inl ⟨h3, fun t ht hb => h4 t ((h2 t).2 ⟨ht, hb.2⟩) (by omega)⟩)
    · refine tot_some (.inr ⟨d, rfl, hd, fun t => ?_⟩)
      rw [h4 t, h2 t]
      constructor
      · rintro ⟨⟨a, b⟩, c⟩; exact ⟨a, by omega, b⟩
      · rintro ⟨a, b, c⟩; exact ⟨⟨a, c⟩, by omega⟩
end
end Pt

/- The multiples that a rule can take. -/
set_option linter.unusedVariables false
set_option linter.unusedSimpArgs false
set_option maxRecDepth 100000
namespace Pt
open Go Hk Hd Pl

structure ROk (T n : Int) (r : S_plan_Rule) : Prop where
  f0 : 0 ≤ r.From
  f1 : r.From < n
  t0 : 0 ≤ r.To
  t1 : r.To < n
  ne : r.From ≠ r.To
  m0 : 0 ≤ r.Min
  m1 : r.Min ≤ 3600
  x0 : r.Min ≤ r.Max
  x1 : r.Max ≤ r.Min + T - 1
  w0 : 0 ≤ r.Weight
  w1 : r.Weight ≤ 1000
/-- a rule is kept with a multiple -/
def In (T : Int) (r : S_plan_Rule) (k d : Int) : Prop := r.Min - k * T ≤ d ∧ d ≤ r.Max - k * T
theorem mul_mono {a b T : Int} (h : a ≤ b) (hT : 0 ≤ T) : a * T ≤ b * T := Int.mul_le_mul_of_nonneg_right h hT
theorem floor_ok {a T : Int} (hT : 1 ≤ T) (hT2 : T ≤ 100000) (a0 : -100000 ≤ a) (a1 : a ≤ 100000) : Tot (plan_floor a T) fun f => f * T ≤ a ∧ a < (f + 1) * T ∧ -200000 ≤ f ∧ f ≤ 200000 := by
  have e : T * a.tdiv T + a.tmod T = a := Int.mul_tdiv_add_tmod a T
  have m1 : a.tmod T < T := Int.tmod_lt_of_pos a (by omega)
  have m0 : -T < a.tmod T := by
    have := Int.tmod_lt_of_pos (-a) (b := T) (by omega)
    rw [Int.neg_tmod] at this
    omega
  have hq : T * a.tdiv T = a.tdiv T * T := Int.mul_comm _ _
  have q0 : -150000 ≤ a.tdiv T := by
    rcases Int.lt_or_le (a.tdiv T) (-150000) with h | h
    · have := mul_mono (T := T) (show a.tdiv T ≤ -150001 by omega) (by omega)
      have h2 : (-150001 : Int) * T ≤ -150001 * 1 := by omega
      omega
    · exact h
  have q1 : a.tdiv T ≤ 150000 := by
    rcases Int.lt_or_le 150000 (a.tdiv T) with h | h
    · have := mul_mono (T := T) (show 150001 ≤ a.tdiv T by omega) (by omega)
      omega
    · exact h
  have s1 : (a.tdiv T - 1) * T = a.tdiv T * T - T := by rw [Int.sub_mul, Int.one_mul]
  have s2 : (a.tdiv T + 1) * T = a.tdiv T * T + T := by rw [Int.add_mul, Int.one_mul]
  unfold plan_floor gquoK gremK
  rw [if_neg (by omega), if_neg (by omega)]
  simp only [Option.bind_some]
  have ew : IntKind.i64.wrap (a.tdiv T) = a.tdiv T := w64_id (by omega) (by omega)
  rw [ew]
  refine tot_bind (P := fun f => f * T ≤ a ∧ a < (f + 1) * T ∧ -200000 ≤ f ∧ f ≤ 200000) ?_ fun f _ hf => tot_some hf
  refine tot_ifb (fun q => ?_) fun q => ?_
  · have q := of_decide_eq_true q
    rw [w64_id (by omega) (by omega)]
    refine tot_some ⟨by omega, ?_, by omega, by omega⟩
    rw [show a.tdiv T - 1 + 1 = a.tdiv T by omega]
    omega
  · have q := of_decide_eq_false q
    exact tot_some ⟨by omega, by omega, by omega, by omega⟩
theorem small_of_mul {k T c : Int} (hT : 1 ≤ T) (h0 : -c ≤ k * T) (h1 : k * T ≤ c) : -c ≤ k ∧ k ≤ c := by
  constructor
  · rcases Int.lt_or_le k (-c) with h | h
    · have hc : 0 ≤ c := by omega
      have := Int.mul_le_mul_of_nonneg_right (show k ≤ -c - 1 by omega) (show 0 ≤ T by omega)
      have h2 : (-c - 1) * T ≤ (-c - 1) * 1 := Int.mul_le_mul_of_nonpos_left (by omega) hT
      omega
    · exact h
  · rcases Int.lt_or_le c k with h | h
    · have hc : 0 ≤ c := by omega
      have := Int.mul_le_mul_of_nonneg_right (show c + 1 ≤ k by omega) (show 0 ≤ T by omega)
      have h2 : (c + 1) * 1 ≤ (c + 1) * T := Int.mul_le_mul_of_nonneg_left hT (by omega)
      omega
    · exact h
theorem choices_ok {T n : Int} {b : List Int} {r : S_plan_Rule} {rules : List S_plan_Rule} {taken : List Int} {op : List Bool} {ev best : Int} (h : Cl n b) (hn0 : 0 < n) (hn : n ≤ 8) (hT : 2 ≤ T) (hT2 : T ≤ 3600) (hr : ROk T n r) :
    Tot (plan_search_choices_v4 (some b) r T n rules taken op ev best) fun x => ∃ l, x = (rules, l) ∧ l.length ≤ 60000 ∧ (∀ k ∈ l, -20000 ≤ k * T ∧ k * T ≤ 20000) ∧ ∀ t, Sol n b t → ∀ k, In T r k (t r.To - t r.From) → k ∈ l := by
  have r1 := hr.f0; have r2 := hr.f1; have r3 := hr.t0; have r4 := hr.t1; have r5 := hr.m0; have r6 := hr.m1; have r7 := hr.x0; have r8 := hr.x1
  have b1 := h.up r.From r.To r1 r2 r3 r4
  have b2 := h.lo (i := r.From) (k := r.To) r1 r2 r3 r4
  have b3 := h.up r.To r.From r3 r4 r1 r2
  have b4 := h.lo (i := r.To) (k := r.From) r3 r4 r1 r2
  have g1 := gix_eq (m := 8) (i := r.From) (by omega) (by omega)
  have g2 := gix_eq (m := 8) (i := r.To) (by omega) (by omega)
  have e1 := mb_idx (b := b) (i := r.From) (k := r.To) h.len (by omega) (by omega) (by omega) (by omega)
  have e2 := mb_idx (b := b) (i := r.To) (k := r.From) h.len (by omega) (by omega) (by omega) (by omega)
  unfold plan_search_choices_v4
  simp only [Option.bind_some, g1, g2, e1]
  rw [w64_id (x := mb b r.From r.To - r.Min) (by omega) (by omega)]
  refine tot_bind (floor_ok (by omega) (by omega) (by omega) (by omega)) fun f _ hf => ?_
  obtain ⟨f1, f2, f3, f4⟩ := hf
  rw [w64_id (x := 0 - f) (by omega) (by omega)]
  have fs : (f + 1) * T = f * T + T := by rw [Int.add_mul, Int.one_mul]
  refine tot_bind (P := fun c => match c with | .go l => l.length ≤ 60000 ∧ (∀ k ∈ l, -20000 ≤ k * T ∧ k * T ≤ 20000) ∧ ∀ k, -f ≤ k → - mb b r.To r.From ≤ r.Max - k * T → k ∈ l | .out e => False) ?_ fun c _ hc => ?_
  · refine tot_iter (I := fun s => -f ≤ s.1 ∧ s.1 * T ≤ 20000 ∧ (s.2.length : Int) + (r.Max + mb b r.To r.From - s.1 * T) ≤ 25000 ∧ (∀ k ∈ s.2, -20000 ≤ k * T ∧ k * T ≤ 20000) ∧ ∀ k, -f ≤ k → k < s.1 → k ∈ s.2) (μ := fun s => (r.Max + mb b r.To r.From - s.1 * T + 10000).toNat) ⟨by show -f ≤ 0 - f; omega, ?_, ?_, by simp, fun k k0 k1 => by have : k < 0 - f := k1; omega⟩ ?_ ?_
    · show (0 - f) * T ≤ 20000
      rw [Int.sub_mul, Int.zero_mul]; omega
    · show (([] : List Int).length : Int) + (r.Max + mb b r.To r.From - (0 - f) * T) ≤ 25000
      rw [Int.sub_mul, Int.zero_mul]; simp; omega
    · show (r.Max + mb b r.To r.From - (0 - f) * T + 10000).toNat < bigN
      rw [Int.sub_mul, Int.zero_mul]
      have : 100000 < bigN := by decide
      omega
    · rintro ⟨k, l⟩ ⟨k0, k1, k2, k3, k4⟩
      simp only at k0 k1 k2 k3 k4
      have kT : -f * T ≤ k * T := mul_mono k0 (by omega)
      rw [Int.neg_mul] at kT
      have ks := small_of_mul (k := k) (T := T) (c := 20000) (by omega) (by omega) k1
      have ks1 : (k + 1) * T = k * T + T := by rw [Int.add_mul, Int.one_mul]
      unfold plan_search_choices_v4_b1
      simp only [Option.bind_some, g1, g2, e2]
      rw [w64_id (x := k * T) (by omega) (by omega), w64_id (x := r.Max - k * T) (by omega) (by omega), w64_id (x := 0 - mb b r.To r.From) (by omega) (by omega)]
      refine tot_ifb (fun q => ?_) fun q => ?_
      · have q := of_decide_eq_true q
        refine tot_bind' (gapp_eq (by simp; have : (1000000 : Nat) ≤ apRoom := (by decide); omega) (by simp; have : (1000000 : Nat) ≤ maxLen := (by decide); omega)) ?_
        rw [w64_id (x := k + 1) (by omega) (by omega)]
        refine tot_some ⟨⟨by show -f ≤ k + 1; omega, by show (k + 1) * T ≤ 20000; omega, ?_, fun j hj => ?_, fun j j0 j1 => ?_⟩, ?_⟩
        · show ((l ++ [k]).length : Int) + (r.Max + mb b r.To r.From - (k + 1) * T) ≤ 25000
          rw [List.length_append, List.length_singleton, ks1]; omega
        · rcases List.mem_append.1 hj with hj | hj
          · exact k3 j hj
          · rw [List.mem_singleton.1 hj]; omega
        · have j1 : j < k + 1 := j1
          by_cases e : j = k
          · subst e; exact List.mem_append_right _ (List.mem_singleton.2 rfl)
          · exact List.mem_append_left _ (k4 j j0 (by omega))
        · show (r.Max + mb b r.To r.From - (k + 1) * T + 10000).toNat < (r.Max + mb b r.To r.From - k * T + 10000).toNat
          rw [ks1]; omega
      · have q := of_decide_eq_false q
        refine tot_some ⟨by omega, k3, fun j j0 j1 => ?_⟩
        by_cases e : j < k
        · exact k4 j j0 e
        · have := mul_mono (show k ≤ j by omega) (show 0 ≤ T by omega)
          omega
  · cases c with
    | out e => exact hc.elim
    | go l =>
      obtain ⟨c1, c2, c3⟩ := hc
      refine tot_some ⟨l, rfl, c1, c2, fun t ht k hk => ?_⟩
      have a1 := ht.le r.From r.To r1 r2 r3 r4
      have a2 := ht.le r.To r.From r3 r4 r1 r2
      obtain ⟨i1, i2⟩ := hk
      refine c3 k ?_ (by omega)
      rcases Int.lt_or_le k (-f) with g | g
      · have := mul_mono (show k ≤ -(f + 1) by omega) (show 0 ≤ T by omega)
        rw [Int.neg_mul] at this
        omega
      · exact g
theorem choices7_ok {T n : Int} {b : List Int} {r : S_plan_Rule} {rules : List S_plan_Rule} {taken : List Int} {op : List Bool} {q1 q2 q5 : Int} {q3 : List S_plan_Rule} {q4 : Option (List Int)} (h : Cl n b) (hn0 : 0 < n) (hn : n ≤ 8) (hT : 2 ≤ T) (hT2 : T ≤ 3600) (hr : ROk T n r) :
    Tot (plan_search_choices_v7 (some b) r T n rules taken op q1 q2 q3 q4 q5) fun x => ∃ l, x = (rules, q3, q4, l) ∧ l.length ≤ 60000 ∧ (∀ k ∈ l, -20000 ≤ k * T ∧ k * T ≤ 20000) ∧ ∀ t, Sol n b t → ∀ k, In T r k (t r.To - t r.From) → k ∈ l := by
  have r1 := hr.f0; have r2 := hr.f1; have r3 := hr.t0; have r4 := hr.t1; have r5 := hr.m0; have r6 := hr.m1; have r7 := hr.x0; have r8 := hr.x1
  have b1 := h.up r.From r.To r1 r2 r3 r4
  have b2 := h.lo (i := r.From) (k := r.To) r1 r2 r3 r4
  have b3 := h.up r.To r.From r3 r4 r1 r2
  have b4 := h.lo (i := r.To) (k := r.From) r3 r4 r1 r2
  have g1 := gix_eq (m := 8) (i := r.From) (by omega) (by omega)
  have g2 := gix_eq (m := 8) (i := r.To) (by omega) (by omega)
  have e1 := mb_idx (b := b) (i := r.From) (k := r.To) h.len (by omega) (by omega) (by omega) (by omega)
  have e2 := mb_idx (b := b) (i := r.To) (k := r.From) h.len (by omega) (by omega) (by omega) (by omega)
  unfold plan_search_choices_v7
  simp only [Option.bind_some, g1, g2, e1]
  rw [w64_id (x := mb b r.From r.To - r.Min) (by omega) (by omega)]
  refine tot_bind (floor_ok (by omega) (by omega) (by omega) (by omega)) fun f _ hf => ?_
  obtain ⟨f1, f2, f3, f4⟩ := hf
  rw [w64_id (x := 0 - f) (by omega) (by omega)]
  have fs : (f + 1) * T = f * T + T := by rw [Int.add_mul, Int.one_mul]
  refine tot_bind (P := fun c => match c with | .go l => l.length ≤ 60000 ∧ (∀ k ∈ l, -20000 ≤ k * T ∧ k * T ≤ 20000) ∧ ∀ k, -f ≤ k → - mb b r.To r.From ≤ r.Max - k * T → k ∈ l | .out e => False) ?_ fun c _ hc => ?_
  · refine tot_iter (I := fun s => -f ≤ s.1 ∧ s.1 * T ≤ 20000 ∧ (s.2.length : Int) + (r.Max + mb b r.To r.From - s.1 * T) ≤ 25000 ∧ (∀ k ∈ s.2, -20000 ≤ k * T ∧ k * T ≤ 20000) ∧ ∀ k, -f ≤ k → k < s.1 → k ∈ s.2) (μ := fun s => (r.Max + mb b r.To r.From - s.1 * T + 10000).toNat) ⟨by show -f ≤ 0 - f; omega, ?_, ?_, by simp, fun k k0 k1 => by have : k < 0 - f := k1; omega⟩ ?_ ?_
    · show (0 - f) * T ≤ 20000
      rw [Int.sub_mul, Int.zero_mul]; omega
    · show (([] : List Int).length : Int) + (r.Max + mb b r.To r.From - (0 - f) * T) ≤ 25000
      rw [Int.sub_mul, Int.zero_mul]; simp; omega
    · show (r.Max + mb b r.To r.From - (0 - f) * T + 10000).toNat < bigN
      rw [Int.sub_mul, Int.zero_mul]
      have : 100000 < bigN := by decide
      omega
    · rintro ⟨k, l⟩ ⟨k0, k1, k2, k3, k4⟩
      simp only at k0 k1 k2 k3 k4
      have kT : -f * T ≤ k * T := mul_mono k0 (by omega)
      rw [Int.neg_mul] at kT
      have ks := small_of_mul (k := k) (T := T) (c := 20000) (by omega) (by omega) k1
      have ks1 : (k + 1) * T = k * T + T := by rw [Int.add_mul, Int.one_mul]
      unfold plan_search_choices_v7_b1
      simp only [Option.bind_some, g1, g2, e2]
      rw [w64_id (x := k * T) (by omega) (by omega), w64_id (x := r.Max - k * T) (by omega) (by omega), w64_id (x := 0 - mb b r.To r.From) (by omega) (by omega)]
      refine tot_ifb (fun q => ?_) fun q => ?_
      · have q := of_decide_eq_true q
        refine tot_bind' (gapp_eq (by simp; have : (1000000 : Nat) ≤ apRoom := (by decide); omega) (by simp; have : (1000000 : Nat) ≤ maxLen := (by decide); omega)) ?_
        rw [w64_id (x := k + 1) (by omega) (by omega)]
        refine tot_some ⟨⟨by show -f ≤ k + 1; omega, by show (k + 1) * T ≤ 20000; omega, ?_, fun j hj => ?_, fun j j0 j1 => ?_⟩, ?_⟩
        · show ((l ++ [k]).length : Int) + (r.Max + mb b r.To r.From - (k + 1) * T) ≤ 25000
          rw [List.length_append, List.length_singleton, ks1]; omega
        · rcases List.mem_append.1 hj with hj | hj
          · exact k3 j hj
          · rw [List.mem_singleton.1 hj]; omega
        · have j1 : j < k + 1 := j1
          by_cases e : j = k
          · subst e; exact List.mem_append_right _ (List.mem_singleton.2 rfl)
          · exact List.mem_append_left _ (k4 j j0 (by omega))
        · show (r.Max + mb b r.To r.From - (k + 1) * T + 10000).toNat < (r.Max + mb b r.To r.From - k * T + 10000).toNat
          rw [ks1]; omega
      · have q := of_decide_eq_false q
        refine tot_some ⟨by omega, k3, fun j j0 j1 => ?_⟩
        by_cases e : j < k
        · exact k4 j j0 e
        · have := mul_mono (show k ≤ j by omega) (show 0 ≤ T by omega)
          omega
  · cases c with
    | out e => exact hc.elim
    | go l =>
      obtain ⟨c1, c2, c3⟩ := hc
      refine tot_some ⟨l, rfl, c1, c2, fun t ht k hk => ?_⟩
      have a1 := ht.le r.From r.To r1 r2 r3 r4
      have a2 := ht.le r.To r.From r3 r4 r1 r2
      obtain ⟨i1, i2⟩ := hk
      refine c3 k ?_ (by omega)
      rcases Int.lt_or_le k (-f) with g | g
      · have := mul_mono (show k ≤ -(f + 1) by omega) (show 0 ≤ T by omega)
        rw [Int.neg_mul] at this
        omega
      · exact g
end Pt

/- The search goes through all choices. -/
set_option linter.unusedVariables false
set_option linter.unusedSimpArgs false
set_option maxRecDepth 100000
namespace Pt
open Go Hk Hd Pl

structure POk (T n : Int) (rules : List S_plan_Rule) : Prop where
  T0 : 2 ≤ T
  T1 : T ≤ 3600
  n0 : 1 ≤ n
  n1 : n ≤ 8
  len : rules.length ≤ 40
  all : ∀ r ∈ rules, ROk T n r
def Keeps (T : Int) (r : S_plan_Rule) (t : Int → Int) : Prop := ∃ k, In T r k (t r.To - t r.From)
def All (T : Int) (rules : List S_plan_Rule) (t : Int → Int) : Prop := ∀ r ∈ rules, Keeps T r t
abbrev Rs := List Int × List Bool × List S_plan_Rule × Int
abbrev Rc := Option (List Int) → Int → Int → List S_plan_Rule → List Int → List Bool → Int → Int → Option Rs
/-- b makes sure of all rules that are not open -/
def Done (T n : Int) (rules : List S_plan_Rule) (b : List Int) (op : List Bool) : Prop := ∀ (i : Nat) r, rules[i]? = some r → nth true op i = false → ∀ t, Sol n b t → Keeps T r t
/-- what is found -/
structure Fd (T n : Int) (rules : List S_plan_Rule) (b : List Int) (ev best best' : Int) (P : (Int → Int) → Prop) : Prop where
  le : best' ≤ best
  is : best' = best ∨ ∃ t, Sol n b t ∧ All T rules t ∧ t ev = best'
  no : ∀ t, Sol n b t → All T rules t → P t → best' ≤ t ev
def Ans (T n : Int) (rules : List S_plan_Rule) (b : List Int) (op : List Bool) (ev best : Int) (r : Rs) : Prop := ∃ tk best', r = (tk, op, rules, best') ∧ tk.length = rules.length ∧ Fd T n rules b ev best best' fun _ => True
def zr : S_plan_Rule := ⟨0, 0, 0, 0, 0⟩
section
variable {T n ev best : Int} {rules : List S_plan_Rule} {b taken : List Int} {op : List Bool}
theorem prune_ok (h : Cl n b) (hp : POk T n rules) (e0 : 0 ≤ ev) (e1 : ev < n) : plan_solve_1_v3 (some b) ev best = some (decide (- mb b ev 0 ≥ best)) := by
  have n1 := hp.n1; have n0 := hp.n0
  have b1 := h.up ev 0 e0 e1 (by omega) (by omega)
  have b2 := h.lo (i := ev) (k := 0) e0 e1 (by omega) (by omega)
  unfold plan_solve_1_v3
  simp only [Option.bind_some, gix_eq (m := 8) (i := ev) (by omega) (by omega), gix_eq (m := 8) (i := 0) (by omega) (by omega), mb_idx (b := b) (i := ev) (k := 0) h.len (by omega) (by omega) (by omega) (by omega)]
  rw [w64_id (by omega) (by omega), show (0 : Int) - mb b ev 0 = - mb b ev 0 by omega]
theorem leaf_ok (h : Cl n b) (hp : POk T n rules) (e0 : 0 ≤ ev) (e1 : ev < n) : plan_solve_2 (some b) taken ev best = some (- mb b ev 0) := by
  have n1 := hp.n1; have n0 := hp.n0
  have b1 := h.up ev 0 e0 e1 (by omega) (by omega)
  have b2 := h.lo (i := ev) (k := 0) e0 e1 (by omega) (by omega)
  unfold plan_solve_2
  simp only [Option.bind_some, gix_eq (m := 8) (i := ev) (by omega) (by omega), gix_eq (m := 8) (i := 0) (by omega) (by omega), mb_idx (b := b) (i := ev) (k := 0) h.len (by omega) (by omega) (by omega) (by omega)]
  rw [w64_id (by omega) (by omega), show (0 : Int) - mb b ev 0 = - mb b ev 0 by omega]
/-- the choices of a rule -/
structure Few (T n : Int) (b : List Int) (r : S_plan_Rule) (l : List Int) : Prop where
  len : l.length ≤ 60000
  bd : ∀ k ∈ l, -20000 ≤ k * T ∧ k * T ≤ 20000
  all : ∀ t, Sol n b t → ∀ k, In T r k (t r.To - t r.From) → k ∈ l
structure BI (T n : Int) (rules : List S_plan_Rule) (b : List Int) (op : List Bool) (i : Nat) (bi : Int) (few : List Int) : Prop where
  or : (bi = -1 ∧ ∀ j : Nat, j < i → nth true op j = false) ∨ 0 ≤ bi ∧ bi < i ∧ nth true op bi = true ∧ Few T n b (nth zr rules bi) few
  len : few.length ≤ 60000
theorem pick_b1 (h : Cl n b) (hp : POk T n rules) (hol : op.length = rules.length) {i : Nat} {r : S_plan_Rule} (hr : rules[i]? = some r) {bi : Int} {few : List Int} (hI : BI T n rules b op i bi few) :
    Tot (plan_search_run_b1 (some b) T n taken op ev best i r (bi, few, rules)) fun c => match c with
      | .go s => ∃ bi few, s = (bi, few, rules) ∧ BI T n rules b op (i + 1) bi few
      | .out (.go s) => False
      | .out (.out y) => y = (taken, op, rules, best) ∧ ∀ t, Sol n b t → ¬ All T rules t := by
  obtain ⟨hi, hre⟩ := List.getElem?_eq_some_iff.1 hr
  have hrm := List.mem_of_getElem? hr
  have er : nth zr rules (i : Int) = r := nth_nat zr hr
  have n0 := hp.n0
  unfold plan_search_run_b1
  dsimp only
  refine tot_bind' (idx_nth true (by omega) (by omega)) ?_
  refine tot_ifb (fun q => ?_) fun q => ?_
  · have q : nth true op (i : Int) = false := by simpa using q
    refine tot_some ⟨bi, few, rfl, ?_, hI.len⟩
    rcases hI.or with ⟨h1, h2⟩ | ⟨h1, h2, h3⟩
    · refine .inl ⟨h1, fun j hj => ?_⟩
      by_cases e : j = i
      · subst e; exact q
      · exact h2 j (by omega)
    · exact .inr ⟨h1, by omega, h3⟩
  have q : nth true op (i : Int) = true := by simpa using q
  refine tot_bind (choices_ok h (by omega) hp.n1 hp.T0 hp.T1 (hp.all r hrm)) fun x _ hx => ?_
  obtain ⟨l, rfl, c1, c2, c3⟩ := hx
  have hf : Few T n b (nth zr rules (i : Int)) l := by rw [er]; exact ⟨c1, c2, c3⟩
  refine tot_bind (P := fun s => ∃ bi few, s = (bi, few, l) ∧ BI T n rules b op (i + 1) bi few) ?_ fun s _ hs => ?_
  · refine tot_bind (P := fun c : Bool => c = false → ¬ bi < 0) ?_ fun c _ hc => ?_
    · refine tot_ifb (fun _ => tot_some fun e => (by cases e)) fun q => tot_some fun _ => of_decide_eq_false q
    refine tot_ifb (fun _ => tot_some ⟨_, _, rfl, .inr ⟨by omega, by omega, q, hf⟩, c1⟩) fun q2 => tot_some ⟨_, _, rfl, ?_, hI.len⟩
    rcases hI.or with ⟨h1, h2⟩ | ⟨h1, h2, h3⟩
    · exact absurd (by omega) (hc q2)
    · exact .inr ⟨h1, by omega, h3⟩
  · obtain ⟨bi', few', rfl, hB⟩ := hs
    refine tot_ifb (fun q2 => ?_) fun _ => tot_some ⟨bi', few', rfl, hB⟩
    have q2 : (l.length : Int) = 0 := by simpa using q2
    refine tot_some ⟨rfl, fun t ht ha => ?_⟩
    obtain ⟨k, hk⟩ := ha r hrm
    have := List.length_pos_of_mem (c3 t ht k hk)
    omega
theorem Done.set {c : List Int} {bi k : Int} (hd : Done T n rules b op) (hol : op.length = rules.length) (h0 : 0 ≤ bi) (h1 : bi < rules.length) (hc : ∀ t, Sol n c t → Sol n b t ∧ In T (nth zr rules bi) k (t (nth zr rules bi).To - t (nth zr rules bi).From)) : Done T n rules c (setI op bi false) := fun i r hr hi t ht => by
  have hlt := (List.getElem?_eq_some_iff.1 hr).1
  rw [nth_setI true h0 (by omega) (by omega)] at hi
  by_cases e : (i : Int) = bi
  · have := (hc t ht).2
    rw [← e, nth_nat zr hr] at this
    exact ⟨k, this⟩
  · rw [if_neg e] at hi
    exact hd i r hr hi t (hc t ht).1
theorem count_set {bi : Int} (h0 : 0 ≤ bi) (h1 : bi < op.length) (h : nth true op bi = true) : (setI op bi false).count true + 1 = op.count true := by
  have e : op[bi.toNat]'(by omega) = true := by
    unfold nth at h; rw [List.getElem?_eq_getElem (by omega)] at h; exact h
  unfold setI
  rw [List.count_set (by omega), e]
  have : 0 < op.count true := List.count_pos_iff.2 (e ▸ List.getElem_mem _)
  simp; omega
theorem set_back {bi : Int} (h0 : 0 ≤ bi) (h1 : bi < op.length) (h : nth true op bi = true) : setI (setI op bi false) bi true = op := by
  have e : op[bi.toNat]'(by omega) = true := by
    unfold nth at h; rw [List.getElem?_eq_getElem (by omega)] at h; exact h
  unfold setI
  rw [List.set_set]
  conv => lhs; rw [← e]
  exact List.set_getElem_self _
theorem step_ok {R : Rc} (hp : POk T n rules) (e0 : 0 ≤ ev) (e1 : ev < n) (h : Cl n b) (htl : taken.length = rules.length) (hol : op.length = rules.length) (hd : Done T n rules b op)
    (hR : ∀ c taken op' best, Cl n c → taken.length = rules.length → op'.length = rules.length → Done T n rules c op' → op'.count true < op.count true → Tot (R (some c) T n rules taken op' ev best) (Ans T n rules c op' ev best)) :
    Tot (plan_search_run_step R (some b) T n rules taken op ev best) (Ans T n rules b op ev best) := by
  have n0 := hp.n0; have n1 := hp.n1; have T0 := hp.T0; have T1 := hp.T1
  unfold plan_search_run_step
  refine tot_bind' (prune_ok h hp e0 e1) ?_
  refine tot_ifb (fun q => ?_) fun q => ?_
  · have q : - mb b ev 0 ≥ best := of_decide_eq_true q
    exact tot_some ⟨taken, best, rfl, htl, by omega, .inl rfl, fun t ht _ _ => by have := ht.low (by omega) e0 e1; omega⟩
  have q : ¬ - mb b ev 0 ≥ best := of_decide_eq_false q
  refine tot_loopX (I := fun i s => ∃ bi few, s = (bi, few, rules) ∧ BI T n rules b op i bi few) (J := fun s => ∃ bi few, s = (bi, few, rules) ∧ BI T n rules b op rules.length bi few) (E := fun y => y = (taken, op, rules, best) ∧ ∀ t, Sol n b t → ¬ All T rules t)
    ⟨-1, [], rfl, .inl ⟨rfl, fun j hj => by omega⟩, by simp⟩ ?_ (fun s hs => hs) ?_ ?_
  · rintro i r s hr ⟨bi, few, rfl, hI⟩
    refine tot_mono (pick_b1 h hp hol hr hI) fun c hc => ?_
    rcases c with s | (s | y)
    · exact hc
    · exact hc.elim
    · exact hc
  · rintro s ⟨bi, few, rfl, hI⟩
    refine tot_ifb (fun q2 => ?_) fun q2 => ?_
    · have q2 : bi < 0 := of_decide_eq_true q2
      refine tot_bind' (leaf_ok h hp e0 e1) ?_
      refine tot_some ⟨taken, - mb b ev 0, rfl, htl, by omega, .inr ⟨fun i => - mb b i 0, h.least (by omega), fun r hr => ?_, rfl⟩, fun t ht _ _ => ht.low (by omega) e0 e1⟩
      obtain ⟨i, hi⟩ := List.getElem?_of_mem hr
      have hlt := (List.getElem?_eq_some_iff.1 hi).1
      rcases hI.or with ⟨_, h2⟩ | ⟨h1, _⟩
      · exact hd i r hi (h2 i hlt) _ (h.least (by omega))
      · omega
    · have q2 : ¬ bi < 0 := of_decide_eq_false q2
      rcases hI.or with ⟨h1, _⟩ | ⟨h1, h2, h3, h4⟩
      · omega
      have hrm := nth_mem zr (xs := rules) (i := bi) h1 h2
      have hro := hp.all _ hrm
      have r5 := hro.m0; have r6 := hro.m1; have r7 := hro.x0; have r8 := hro.x1
      refine tot_bind' (idx_nth zr h1 h2) ?_
      refine tot_bind' (idx_nth true h1 (by omega)) ?_
      refine tot_loopX (I := fun i s => ∃ tk bs, s = (tk, setI op bi false, rules, bs) ∧ tk.length = rules.length ∧ Fd T n rules b ev best bs fun t => ∃ j : Nat, j < i ∧ ∃ k, few[j]? = some k ∧ In T (nth zr rules bi) k (t (nth zr rules bi).To - t (nth zr rules bi).From))
        (J := fun s => ∃ tk bs, s = (tk, setI op bi false, rules, bs) ∧ tk.length = rules.length ∧ Fd T n rules b ev best bs fun _ => True) (E := fun _ => False) ⟨taken, best, rfl, htl, by omega, .inl rfl, fun t _ _ ⟨j, hj, _⟩ => by omega⟩ ?_ ?_ ?_ (fun y _ => y.elim)
      · rintro i k s hk ⟨tk, bs, rfl, htk, hF⟩
        have hkb := h4.bd k (List.mem_of_getElem? hk)
        unfold plan_search_run_b2
        dsimp only
        rw [w64_id (x := k * T) (by omega) (by omega), w64_id (x := (nth zr rules bi).Min - k * T) (by omega) (by omega), w64_id (x := (nth zr rules bi).Max - k * T) (by omega) (by omega)]
        refine tot_bind (between_ok h (by omega) n1 hro.f0 hro.f1 hro.t0 hro.t1 (by omega) (by omega) (by omega) (by omega)) fun r _ hr => ?_
        rcases hr with ⟨g1, g2⟩ | ⟨c, rfl, hc, g2⟩
        · rw [g1]
          refine tot_some ⟨tk, bs, rfl, htk, hF.le, hF.is, fun t ht ha ⟨j, hj, k', hk', hin⟩ => ?_⟩
          by_cases e : j = i
          · subst e
            rw [hk] at hk'
            injection hk' with hk'
            subst hk'
            exact absurd hin (g2 t ht)
          · exact hF.no t ht ha ⟨j, by omega, k', hk', hin⟩
        · refine tot_bind' (idx_nth 0 h1 (by omega)) ?_
          have hcnt := count_set h1 (by omega) h3
          refine tot_bind (hR c (setI tk bi k) (setI op bi false) bs hc (by rw [setI_length]; exact htk) (by rw [setI_length]; exact hol) (hd.set hol h1 h2 fun t ht => (g2 t).1 ht) (by omega)) fun r _ hr => ?_
          obtain ⟨tk', bs', rfl, htk', hF'⟩ := hr
          refine tot_some ⟨tk', bs', rfl, htk', by have := hF'.le; have := hF.le; omega, ?_, fun t ht ha ⟨j, hj, k', hk', hin⟩ => ?_⟩
          · rcases hF'.is with e | ⟨t, ht, ha, e⟩
            · rw [e]; exact hF.is
            · exact .inr ⟨t, ((g2 t).1 ht).1, ha, e⟩
          · by_cases e : j = i
            · subst e
              rw [hk] at hk'
              injection hk' with hk'
              subst hk'
              exact hF'.no t ((g2 t).2 ⟨ht, hin⟩) ha trivial
            · have := hF.no t ht ha ⟨j, by omega, k', hk', hin⟩
              have := hF'.le
              omega
      · rintro s ⟨tk, bs, rfl, htk, hF⟩
        refine ⟨tk, bs, rfl, htk, hF.le, hF.is, fun t ht ha _ => ?_⟩
        obtain ⟨k, hk⟩ := ha _ hrm
        obtain ⟨j, hj⟩ := List.getElem?_of_mem (h4.all t ht k hk)
        exact hF.no t ht ha ⟨j, (List.getElem?_eq_some_iff.1 hj).1, k, hj, hk⟩
      · rintro s ⟨tk, bs, rfl, htk, hF⟩
        refine tot_bind' (idx_nth true h1 (by rw [setI_length]; omega)) ?_
        refine tot_some ⟨tk, bs, ?_, htk, hF⟩
        show (tk, setI (setI op bi false) bi true, _) = _
        rw [set_back h1 (by omega) h3]
  · rintro r ⟨rfl, hno⟩
    exact tot_some ⟨taken, best, rfl, htl, by omega, .inl rfl, fun t ht ha _ => absurd ha (hno t ht)⟩
theorem run_ok (hp : POk T n rules) (e0 : 0 ≤ ev) (e1 : ev < n) : ∀ (m : Nat) (b taken : List Int) (op : List Bool) (best : Int), Cl n b → taken.length = rules.length → op.length = rules.length → Done T n rules b op → op.count true < m →
    Tot (plan_search_run_n m (some b) T n rules taken op ev best) (Ans T n rules b op ev best)
  | 0, _, _, _, _, _, _, _, _, h => by omega
  | m + 1, b, taken, op, best, h, h1, h2, h3, h4 => step_ok hp e0 e1 h h1 h2 h3 fun c taken op' best k1 k2 k3 k4 k5 => run_ok hp e0 e1 m c taken op' best k1 k2 k3 k4 (by omega)
end
end Pt

/- solve. -/
set_option linter.unusedVariables false
set_option linter.unusedSimpArgs false
set_option maxRecDepth 100000
namespace Pt
open Go Hk Hd Pl

theorem repeat_eq : ∀ k : Nat, k ≤ 40 → slices_Repeat_bool_bool [true] (k : Int) = some (List.replicate k true) := by
  intro k hk
  rcases k with _ | _ | _ | _ | _ | _ | _ | _ | _ | _ | _ | _ | _ | _ | _ | _ | _ | _ | _ | _ | _ | _ | _ | _ | _ | _ | _ | _ | _ | _ | _ | _ | _ | _ | _ | _ | _ | _ | _ | _ | _ | k
  all_goals first | omega | kernel_rfl
def sv (T i k : Int) : Int := if k = 0 ∨ i = k then 0 else T - 1
structure St0 (T n : Int) (b : List Int) : Prop where
  len : b.length = 64
  v : ∀ i k, 0 ≤ i → i < n → 0 ≤ k → k < n → mb b i k = sv T i k
section
variable {T n : Int} {rules : List S_plan_Rule}
theorem start_ok (hp : POk T n rules) (tk : List Int) (op : List Bool) : Tot (plan_search_start_v2 T n rules tk op) fun r => ∃ b, r = (rules, b) ∧ St0 T n b := by
  have n0 := hp.n0; have n1 := hp.n1; have T0 := hp.T0; have T1 := hp.T1
  unfold plan_search_start_v2
  refine tot_bind' (glim_eq (by omega)) ?_
  refine tot_loopN (I := fun i c => c.length = 64 ∧ ∀ i' k', 0 ≤ i' → i' < n → 0 ≤ k' → k' < n → mb c i' k' = if i' < (i : Int) then sv T i' k' else 0) (J := St0 T n) (E := fun _ => False)
    ⟨by simp, fun i' k' i0 i1 k0 k1 => by rw [if_neg (by omega)]; unfold mb; exact nth_replicate (by omega) (by omega)⟩ (fun i c hi hI => ?_) (fun c hI => ⟨hI.1, fun i k i0 i1 k0 k1 => by rw [hI.2 i k i0 i1 k0 k1, if_pos (by omega)]⟩) (fun c hJ => tot_some ⟨c, rfl, hJ⟩) (fun y _ => y.elim)
  obtain ⟨hl, hI⟩ := hI
  have g1 := gix_eq (m := 8) (i := (i : Int)) (by omega) (by omega)
  have g0 := gix_eq (m := 8) (i := 0) (by omega) (by omega)
  unfold plan_search_start_v2_b1
  refine tot_bind' (glim_eq (by omega)) ?_
  refine tot_loopN (I := fun k c => c.length = 64 ∧ ∀ i' k', 0 ≤ i' → i' < n → 0 ≤ k' → k' < n → mb c i' k' = if i' < (i : Int) then sv T i' k' else if i' = i ∧ k' < (k : Int) ∧ i' ≠ k' then T - 1 else 0)
    (J := fun c => c.length = 64 ∧ ∀ i' k', 0 ≤ i' → i' < n → 0 ≤ k' → k' < n → mb c i' k' = if i' < (i : Int) then sv T i' k' else if i' = i ∧ i' ≠ k' then T - 1 else 0) (E := fun _ => False)
    ⟨hl, fun i' k' i0 i1 k0 k1 => by rw [hI i' k' i0 i1 k0 k1]; by_cases q : i' < (i : Int)
                                     · rw [if_pos q, if_pos q]
                                     · rw [if_neg q, if_neg q, if_neg (by omega)]⟩ (fun k c hk hI => ?_) (fun c hI => ⟨hI.1, fun i' k' i0 i1 k0 k1 => ?_⟩) (fun c hJ => ?_) (fun y _ => y.elim)
  · obtain ⟨hl, hI⟩ := hI
    unfold plan_search_start_v2_b2
    have g2 := gix_eq (m := 8) (i := (k : Int)) (by omega) (by omega)
    refine tot_ifb (fun q => ?_) fun q => ?_
    · have q : (i : Int) ≠ k := by simpa using q
      simp only [Option.bind_some, g1, g2, mb_idx (b := c) (i := (i : Int)) (k := (k : Int)) hl (by omega) (by omega) (by omega) (by omega)]
      rw [w64_id (x := T - 1) (by omega) (by omega)]
      refine tot_some ⟨by rw [setI_length]; exact hl, fun i' k' i0 i1 k0 k1 => ?_⟩
      rw [mb_set hl (by omega) (by omega) (by omega) (by omega) i0 (by omega) k0 (by omega)]
      by_cases e : i' = i ∧ k' = k
      · obtain ⟨rfl, rfl⟩ := e
        rw [if_pos ⟨rfl, rfl⟩, if_neg (by omega), if_pos ⟨rfl, by omega, q⟩]
      · rw [if_neg e, hI i' k' i0 i1 k0 k1]
        by_cases q2 : i' < (i : Int)
        · rw [if_pos q2, if_pos q2]
        · rw [if_neg q2, if_neg q2]
          by_cases q3 : i' = i ∧ k' < (k : Int) ∧ i' ≠ k'
          · rw [if_pos q3, if_pos (by omega)]
          · rw [if_neg q3, if_neg (by omega)]
    · have q : (i : Int) = k := by simpa using q
      refine tot_some ⟨hl, fun i' k' i0 i1 k0 k1 => ?_⟩
      rw [hI i' k' i0 i1 k0 k1]
      by_cases q2 : i' < (i : Int)
      · rw [if_pos q2, if_pos q2]
      · rw [if_neg q2, if_neg q2]
        by_cases q3 : i' = i ∧ k' < (k : Int) ∧ i' ≠ k'
        · rw [if_pos q3, if_pos (by omega)]
        · rw [if_neg q3, if_neg (by omega)]
  · rw [hI.2 i' k' i0 i1 k0 k1]
    by_cases q2 : i' < (i : Int)
    · rw [if_pos q2, if_pos q2]
    · rw [if_neg q2, if_neg q2]
      by_cases q3 : i' = i ∧ i' ≠ k'
      · rw [if_pos q3, if_pos (by omega)]
      · rw [if_neg q3, if_neg (by omega)]
  · obtain ⟨hl, hI⟩ := hJ
    simp only [Option.bind_some, g1, g0, mb_idx (b := c) (i := (i : Int)) (k := 0) hl (by omega) (by omega) (by omega) (by omega)]
    refine tot_some ⟨by rw [setI_length]; exact hl, fun i' k' i0 i1 k0 k1 => ?_⟩
    rw [mb_set hl (by omega) (by omega) (by omega) (by omega) i0 (by omega) k0 (by omega)]
    by_cases e : i' = i ∧ k' = 0
    · obtain ⟨rfl, rfl⟩ := e
      rw [if_pos ⟨rfl, rfl⟩, if_pos (by omega)]
      unfold sv; rw [if_pos (.inl rfl)]
    · rw [if_neg e, hI i' k' i0 i1 k0 k1]
      by_cases q2 : i' < (i : Int)
      · rw [if_pos q2, if_pos (by omega)]
      · rw [if_neg q2]
        by_cases q4 : i' = i
        · rw [if_pos (show i' < ((i + 1 : Nat) : Int) by omega)]
          unfold sv
          by_cases q5 : i' = k'
          · rw [if_neg (show ¬ (i' = (i : Int) ∧ i' ≠ k') from fun h => h.2 q5), if_pos (show k' = 0 ∨ i' = k' from .inr q5)]
          · rw [if_pos (show i' = (i : Int) ∧ i' ≠ k' from ⟨q4, q5⟩), if_neg (show ¬ (k' = 0 ∨ i' = k') by omega)]
        · rw [if_neg (show ¬ (i' = (i : Int) ∧ i' ≠ k') from fun h => q4 h.1), if_neg (show ¬ i' < ((i + 1 : Nat) : Int) by omega)]
theorem start5_ok (hp : POk T n rules) (tk : List Int) (op : List Bool) (q1 q2 q5 : Int) (q3 : List S_plan_Rule) (q4 : Option (List Int)) : Tot (plan_search_start_v5 T n rules tk op q1 q2 q3 q4 q5) fun r => ∃ b, r = (rules, q3, q4, b) ∧ St0 T n b := by
  have n0 := hp.n0; have n1 := hp.n1; have T0 := hp.T0; have T1 := hp.T1
  unfold plan_search_start_v5
  refine tot_bind' (glim_eq (by omega)) ?_
  refine tot_loopN (I := fun i c => c.length = 64 ∧ ∀ i' k', 0 ≤ i' → i' < n → 0 ≤ k' → k' < n → mb c i' k' = if i' < (i : Int) then sv T i' k' else 0) (J := St0 T n) (E := fun _ => False)
    ⟨by simp, fun i' k' i0 i1 k0 k1 => by rw [if_neg (by omega)]; unfold mb; exact nth_replicate (by omega) (by omega)⟩ (fun i c hi hI => ?_) (fun c hI => ⟨hI.1, fun i k i0 i1 k0 k1 => by rw [hI.2 i k i0 i1 k0 k1, if_pos (by omega)]⟩) (fun c hJ => tot_some ⟨c, rfl, hJ⟩) (fun y _ => y.elim)
  obtain ⟨hl, hI⟩ := hI
  have g1 := gix_eq (m := 8) (i := (i : Int)) (by omega) (by omega)
  have g0 := gix_eq (m := 8) (i := 0) (by omega) (by omega)
  unfold plan_search_start_v5_b1
  refine tot_bind' (glim_eq (by omega)) ?_
  refine tot_loopN (I := fun k c => c.length = 64 ∧ ∀ i' k', 0 ≤ i' → i' < n → 0 ≤ k' → k' < n → mb c i' k' = if i' < (i : Int) then sv T i' k' else if i' = i ∧ k' < (k : Int) ∧ i' ≠ k' then T - 1 else 0)
    (J := fun c => c.length = 64 ∧ ∀ i' k', 0 ≤ i' → i' < n → 0 ≤ k' → k' < n → mb c i' k' = if i' < (i : Int) then sv T i' k' else if i' = i ∧ i' ≠ k' then T - 1 else 0) (E := fun _ => False)
    ⟨hl, fun i' k' i0 i1 k0 k1 => by rw [hI i' k' i0 i1 k0 k1]; by_cases q : i' < (i : Int)
                                     · rw [if_pos q, if_pos q]
                                     · rw [if_neg q, if_neg q, if_neg (by omega)]⟩ (fun k c hk hI => ?_) (fun c hI => ⟨hI.1, fun i' k' i0 i1 k0 k1 => ?_⟩) (fun c hJ => ?_) (fun y _ => y.elim)
  · obtain ⟨hl, hI⟩ := hI
    unfold plan_search_start_v5_b2
    have g2 := gix_eq (m := 8) (i := (k : Int)) (by omega) (by omega)
    refine tot_ifb (fun q => ?_) fun q => ?_
    · have q : (i : Int) ≠ k := by simpa using q
      simp only [Option.bind_some, g1, g2, mb_idx (b := c) (i := (i : Int)) (k := (k : Int)) hl (by omega) (by omega) (by omega) (by omega)]
      rw [w64_id (x := T - 1) (by omega) (by omega)]
      refine tot_some ⟨by rw [setI_length]; exact hl, fun i' k' i0 i1 k0 k1 => ?_⟩
      rw [mb_set hl (by omega) (by omega) (by omega) (by omega) i0 (by omega) k0 (by omega)]
      by_cases e : i' = i ∧ k' = k
      · obtain ⟨rfl, rfl⟩ := e
        rw [if_pos ⟨rfl, rfl⟩, if_neg (by omega), if_pos ⟨rfl, by omega, q⟩]
      · rw [if_neg e, hI i' k' i0 i1 k0 k1]
        by_cases q2 : i' < (i : Int)
        · rw [if_pos q2, if_pos q2]
        · rw [if_neg q2, if_neg q2]
          by_cases q3 : i' = i ∧ k' < (k : Int) ∧ i' ≠ k'
          · rw [if_pos q3, if_pos (by omega)]
          · rw [if_neg q3, if_neg (by omega)]
    · have q : (i : Int) = k := by simpa using q
      refine tot_some ⟨hl, fun i' k' i0 i1 k0 k1 => ?_⟩
      rw [hI i' k' i0 i1 k0 k1]
      by_cases q2 : i' < (i : Int)
      · rw [if_pos q2, if_pos q2]
      · rw [if_neg q2, if_neg q2]
        by_cases q3 : i' = i ∧ k' < (k : Int) ∧ i' ≠ k'
        · rw [if_pos q3, if_pos (by omega)]
        · rw [if_neg q3, if_neg (by omega)]
  · rw [hI.2 i' k' i0 i1 k0 k1]
    by_cases q2 : i' < (i : Int)
    · rw [if_pos q2, if_pos q2]
    · rw [if_neg q2, if_neg q2]
      by_cases q3 : i' = i ∧ i' ≠ k'
      · rw [if_pos q3, if_pos (by omega)]
      · rw [if_neg q3, if_neg (by omega)]
  · obtain ⟨hl, hI⟩ := hJ
    simp only [Option.bind_some, g1, g0, mb_idx (b := c) (i := (i : Int)) (k := 0) hl (by omega) (by omega) (by omega) (by omega)]
    refine tot_some ⟨by rw [setI_length]; exact hl, fun i' k' i0 i1 k0 k1 => ?_⟩
    rw [mb_set hl (by omega) (by omega) (by omega) (by omega) i0 (by omega) k0 (by omega)]
    by_cases e : i' = i ∧ k' = 0
    · obtain ⟨rfl, rfl⟩ := e
      rw [if_pos ⟨rfl, rfl⟩, if_pos (by omega)]
      unfold sv; rw [if_pos (.inl rfl)]
    · rw [if_neg e, hI i' k' i0 i1 k0 k1]
      by_cases q2 : i' < (i : Int)
      · rw [if_pos q2, if_pos (by omega)]
      · rw [if_neg q2]
        by_cases q4 : i' = i
        · rw [if_pos (show i' < ((i + 1 : Nat) : Int) by omega)]
          unfold sv
          by_cases q5 : i' = k'
          · rw [if_neg (show ¬ (i' = (i : Int) ∧ i' ≠ k') from fun h => h.2 q5), if_pos (show k' = 0 ∨ i' = k' from .inr q5)]
          · rw [if_pos (show i' = (i : Int) ∧ i' ≠ k' from ⟨q4, q5⟩), if_neg (show ¬ (k' = 0 ∨ i' = k') by omega)]
        · rw [if_neg (show ¬ (i' = (i : Int) ∧ i' ≠ k') from fun h => q4 h.1), if_neg (show ¬ i' < ((i + 1 : Nat) : Int) by omega)]
theorem St0.cl {b : List Int} (h : St0 T n b) (hp : POk T n rules) : Cl n b := by
  have T0 := hp.T0; have T1 := hp.T1
  refine ⟨h.len, fun i i0 i1 => by rw [h.v i i i0 i1 i0 i1]; unfold sv; rw [if_pos (.inr rfl)], fun i j k i0 i1 j0 j1 k0 k1 => ?_, fun i k i0 i1 k0 k1 => ?_⟩
  · rw [h.v i k i0 i1 k0 k1, h.v i j i0 i1 j0 j1, h.v j k j0 j1 k0 k1]
    unfold sv
    by_cases a : k = 0 ∨ i = k <;> by_cases c : j = 0 ∨ i = j <;> by_cases d : k = 0 ∨ j = k <;> simp only [a, c, d, if_true, if_false] <;> omega
  · rw [h.v i k i0 i1 k0 k1]; unfold sv; split <;> omega
theorem St0.sol {b : List Int} (h : St0 T n b) (hp : POk T n rules) (t : Int → Int) : Sol n b t ↔ t 0 = 0 ∧ ∀ i, 0 ≤ i → i < n → 0 ≤ t i ∧ t i ≤ T - 1 := by
  have n0 := hp.n0; have T0 := hp.T0
  constructor
  · refine fun ht => ⟨ht.z, fun i i0 i1 => ?_⟩
    have a1 := ht.le i 0 i0 i1 (by omega) (by omega)
    have a2 := ht.le 0 i (by omega) (by omega) i0 i1
    rw [h.v i 0 i0 i1 (by omega) (by omega)] at a1
    rw [h.v 0 i (by omega) (by omega) i0 i1] at a2
    have := ht.z
    unfold sv at a1 a2
    rw [if_pos (.inl rfl)] at a1
    split at a2 <;> omega
  · rintro ⟨hz, hb⟩
    refine ⟨hz, fun i k i0 i1 k0 k1 => ?_⟩
    rw [h.v i k i0 i1 k0 k1]
    have a1 := hb i i0 i1
    have a2 := hb k k0 k1
    unfold sv
    by_cases q : k = 0 ∨ i = k
    · rw [if_pos q]
      rcases q with rfl | rfl <;> omega
    · rw [if_neg q]; omega
end
end Pt

/- solve: it finds times just if there are some, and the least ones. -/
set_option linter.unusedVariables false
set_option linter.unusedSimpArgs false
set_option maxRecDepth 100000
namespace Pt
open Go Hk Hd Pl

/-- times of a period -/
def Ok0 (T n : Int) (t : Int → Int) : Prop := t 0 = 0 ∧ ∀ i, 0 ≤ i → i < n → 0 ≤ t i ∧ t i ≤ T - 1
/-- greater than a list, within its first numbers -/
def Above (ev : Int) (times : List Int) (t : Int → Int) : Prop := ∃ j, 0 ≤ j ∧ j < ev ∧ (∀ i, 0 ≤ i → i < j → t i = nth 0 times i) ∧ nth 0 times j < t j
theorem nth_app {times : List Int} {x i : Int} (h0 : 0 ≤ i) (h : i < times.length) : nth 0 (times ++ [x]) i = nth 0 times i := by
  unfold nth
  rw [List.getElem?_append_left (by omega)]
theorem nth_last {times : List Int} {x i : Int} (h : i = times.length) : nth 0 (times ++ [x]) i = x := by
  unfold nth
  rw [List.getElem?_append_right (by omega), show i.toNat - times.length = 0 by omega]; rfl
section
variable {T n : Int} {rules : List S_plan_Rule}
structure SI (T n : Int) (rules : List S_plan_Rule) (fixed times : List Int) (ev : Int) : Prop where
  cl : Cl n fixed
  e0 : 1 ≤ ev
  e1 : ev ≤ n
  tl : (times.length : Int) = ev
  sub : ∀ t, Sol n fixed t → Ok0 T n t ∧ ∀ i, 0 ≤ i → i < ev → t i = nth 0 times i
  ex : (ev = 1 ∧ ∀ t, Ok0 T n t → Sol n fixed t) ∨ ∃ t, Sol n fixed t ∧ All T rules t
  lex : ∀ t, Ok0 T n t → All T rules t → Sol n fixed t ∨ Above ev times t
theorem solve_ok (p : S_plan_Periodic) (hp : POk p.Period p.Events p.Rules) : Tot (plan_solve p) fun r => (r = none ∧ ∀ t, Ok0 p.Period p.Events t → ¬ All p.Period p.Rules t) ∨
    ∃ l, r = some l ∧ (l.length : Int) = p.Events ∧ (∃ t, Ok0 p.Period p.Events t ∧ All p.Period p.Rules t ∧ ∀ i, 0 ≤ i → i < p.Events → t i = nth 0 l i) ∧
      ∀ t, Ok0 p.Period p.Events t → All p.Period p.Rules t → (∀ i, 0 ≤ i → i < p.Events → t i = nth 0 l i) ∨ Above p.Events l t := by
  obtain ⟨T, n, rules⟩ := p
  simp only at hp ⊢
  have n0 := hp.n0; have n1 := hp.n1; have T0 := hp.T0; have T1 := hp.T1; have hll := hp.len
  unfold plan_solve
  refine tot_bind' (x := (T, n, rules, List.replicate rules.length 0, List.replicate rules.length true)) ?_ ?_
  · unfold plan_newSearch
    dsimp only
    rw [gmake_eq (by omega) (by have : (1000 : Nat) ≤ mkRoom := (by decide); omega) (by have : (1000 : Nat) ≤ maxLen := (by decide); omega), show ((rules.length : Int)).toNat = rules.length by omega]
    simp only [Option.bind_some]
    rw [repeat_eq _ hll]
    rfl
  refine tot_bind (start_ok hp _ _) fun r _ hr => ?_
  obtain ⟨b0, rfl, hb0⟩ := hr
  dsimp only
  have hs0 := hb0.sol hp
  refine tot_bind (P := fun c => match c with
    | .go s => ∃ taken times t, s = (taken, List.replicate rules.length true, b0, rules, times) ∧ (times.length : Int) = n ∧ (Ok0 T n t ∧ All T rules t ∧ ∀ i, 0 ≤ i → i < n → t i = nth 0 times i) ∧ ∀ t, Ok0 T n t → All T rules t → (∀ i, 0 ≤ i → i < n → t i = nth 0 times i) ∨ Above n times t
    | .out r => r = none ∧ ∀ t, Ok0 T n t → ¬ All T rules t) ?_ fun c _ hc => ?_
  · refine tot_iter (I := fun s => ∃ fixed taken times ev, s = (some fixed, taken, List.replicate rules.length true, b0, rules, times, ev) ∧ taken.length = rules.length ∧ SI T n rules fixed times ev) (μ := fun s => (n - s.2.2.2.2.2.2).toNat)
      ⟨b0, _, [0], 1, rfl, by simp, hb0.cl hp, by omega, n0, rfl, fun t ht => ⟨(hs0 t).1 ht, fun i i0 i1 => ?_⟩, .inl ⟨rfl, fun t ht => (hs0 t).2 ht⟩, fun t ht _ => .inl ((hs0 t).2 ht)⟩ (by have : 1000 < bigN := (by decide); simp only; omega) ?_
    · have : i = 0 := by omega
      subst this
      rw [((hs0 t).1 ht).1]; rfl
    · rintro s ⟨fixed, taken, times, ev, rfl, htk, hI⟩
      have e0 := hI.e0; have e1 := hI.e1; have tl := hI.tl
      unfold plan_solve_b1
      dsimp only
      refine tot_ifb (fun q => ?_) fun q => ?_
      · have q : ev < n := of_decide_eq_true q
        refine tot_bind (run_ok hp (by omega) q bigN fixed taken (List.replicate rules.length true) T hI.cl htk (by simp) (fun i r hr hi => ?_) (by have : 1000 < bigN := (by decide); simp; omega)) fun r _ hr => ?_
        · have hlt := (List.getElem?_eq_some_iff.1 hr).1
          rw [nth_replicate (by omega) (by omega)] at hi
          cases hi
        obtain ⟨tk, best, rfl, htk', hF⟩ := hr
        dsimp only
        refine tot_ifb (fun q2 => ?_) fun q2 => ?_
        · have q2 : best = T := by simpa using q2
          have hno : ∀ t, Sol n fixed t → ¬ All T rules t := fun t ht ha => by
            have := hF.no t ht ha trivial
            have := ((hI.sub t ht).1.2 ev (by omega) q).2
            omega
          refine tot_some ⟨rfl, fun t ht ha => ?_⟩
          rcases hI.ex with ⟨_, h⟩ | ⟨t', ht', ha'⟩
          · exact hno t (h t ht) ha
          · exact hno t' ht' ha'
        · have q2 : best ≠ T := by simpa using q2
          rcases hF.is with h | ⟨t, ht, ha, hte⟩
          · exact absurd h q2
          have hok := hI.sub t ht
          have hbd := hok.1.2 ev (by omega) q
          refine tot_bind' (gapp_eq (by simp; have : (1000 : Nat) ≤ apRoom := (by decide); omega) (by simp; have : (1000 : Nat) ≤ maxLen := (by decide); omega)) ?_
          refine tot_bind (between_ok hI.cl (by omega) n1 (from_ := 0) (to_ := ev) (low := best) (high := best) (by omega) (by omega) (by omega) q (by omega) (by omega) (by omega) (by omega)) fun r _ hr => ?_
          rcases hr with ⟨_, g2⟩ | ⟨c, rfl, hc, g2⟩
          · exact absurd ⟨by have := ht.z; omega, by have := ht.z; omega⟩ (g2 t ht)
          rw [w64_id (x := ev + 1) (by omega) (by omega)]
          refine tot_some ⟨⟨c, tk, times ++ [best], ev + 1, rfl, htk', hc, by omega, by omega, by simp; omega, fun t' ht' => ?_, .inr ⟨t, (g2 t).2 ⟨ht, by have := ht.z; omega, by have := ht.z; omega⟩, ha⟩, fun t' h1 h2 => ?_⟩, by show (n - (ev + 1)).toNat < (n - ev).toNat; omega⟩
          rotate_left
          · rcases hI.lex t' h1 h2 with h3 | ⟨j, j0, j1, j2, j3⟩
            · have hge := hF.no t' h3 h2 trivial
              have hz := h1.1
              by_cases e : t' ev = best
              · exact .inl ((g2 t').2 ⟨h3, by omega, by omega⟩)
              · refine .inr ⟨ev, by omega, by omega, fun i i0 i1 => ?_, ?_⟩
                · rw [(hI.sub t' h3).2 i i0 i1, nth_app i0 (by omega)]
                · rw [nth_last (by omega)]; omega
            · refine .inr ⟨j, j0, by omega, fun i i0 i1 => ?_, ?_⟩
              · rw [j2 i i0 i1, nth_app i0 (by omega)]
              · rw [nth_app j0 (by omega)]; exact j3
          obtain ⟨h1, h2, h3⟩ := (g2 t').1 ht'
          have hz := h1.z
          refine ⟨(hI.sub t' h1).1, fun i i0 i1 => ?_⟩
          by_cases e : i < ev
          · rw [(hI.sub t' h1).2 i i0 e]
            unfold nth
            rw [List.getElem?_append_left (by omega)]
          · have : i = ev := by omega
            subst this
            unfold nth
            rw [List.getElem?_append_right (by omega), show i.toNat - times.length = 0 by omega]
            show t' i = best
            omega
      · have q : ¬ ev < n := of_decide_eq_false q
        have hev : ev = n := by omega
        subst hev
        have hex : ∃ t, Sol ev fixed t ∧ All T rules t := by
          rcases hI.ex with ⟨h1, _⟩ | h
          · refine ⟨_, hI.cl.least (by omega), fun r hr => ?_⟩
            have := hp.all r hr
            have a1 := this.f0; have a2 := this.f1; have a3 := this.t0; have a4 := this.t1; have a5 := this.ne
            omega
          · exact h
        obtain ⟨t, ht, ha⟩ := hex
        have := hI.sub t ht
        refine tot_some ⟨taken, times, t, rfl, tl, ⟨this.1, ha, this.2⟩, fun t' h1 h2 => ?_⟩
        rcases hI.lex t' h1 h2 with h3 | h3
        · exact .inl (hI.sub t' h3).2
        · exact .inr h3
  · cases c with
    | go s =>
      obtain ⟨taken, times, t, rfl, h1, h2, h3⟩ := hc
      exact tot_some (.inr ⟨times, rfl, h1, ⟨t, h2⟩, h3⟩)
    | out r =>
      obtain ⟨rfl, h⟩ := hc
      exact tot_some (.inl ⟨rfl, h⟩)
end
end Pt
