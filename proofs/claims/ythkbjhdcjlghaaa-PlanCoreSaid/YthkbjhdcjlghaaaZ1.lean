/- Bounds: of each two events how much later the second one is at most. -/
import Derived.Test.YthkbjhdcjlghaaaZP
import Derived.Test.YthkbjhdcjlghaaaK5
set_option linter.unusedVariables false
set_option linter.unusedSimpArgs false
set_option maxRecDepth 100000
namespace Pt
open Go Hk Hd Pl
def mb (b : List Int) (i k : Int) : Int := nth 0 b ((0 + i * 8) + k * 1)
structure Cl (n : Int) (b : List Int) : Prop where
  len : b.length = 64
  dg : ∀ i, 0 ≤ i → i < n → mb b i i = 0
  tri : ∀ i j k, 0 ≤ i → i < n → 0 ≤ j → j < n → 0 ≤ k → k < n → mb b i k ≤ mb b i j + mb b j k
  up : ∀ i k, 0 ≤ i → i < n → 0 ≤ k → k < n → mb b i k ≤ 3600
structure Sol (n : Int) (b : List Int) (t : Int → Int) : Prop where
  z : t 0 = 0
  le : ∀ i k, 0 ≤ i → i < n → 0 ≤ k → k < n → t k - t i ≤ mb b i k
theorem Cl.lo {n : Int} {b : List Int} (h : Cl n b) {i k : Int} (i0 : 0 ≤ i) (i1 : i < n) (k0 : 0 ≤ k) (k1 : k < n) : -3600 ≤ mb b i k := by
  have := h.tri i k i i0 i1 k0 k1 i0 i1
  have := h.dg i i0 i1
  have := h.up k i k0 k1 i0 i1
  omega
theorem Cl.least {n : Int} {b : List Int} (h : Cl n b) (hn : 0 < n) : Sol n b fun i => - mb b i 0 := by
  refine ⟨by show - mb b 0 0 = 0; rw [h.dg 0 (by omega) hn]; rfl, fun i k i0 i1 k0 k1 => ?_⟩
  have := h.tri i k 0 i0 i1 k0 k1 (by omega) hn
  show - mb b k 0 - - mb b i 0 ≤ mb b i k
  omega
theorem Sol.low {n : Int} {b : List Int} {t : Int → Int} (h : Sol n b t) (hn : 0 < n) {i : Int} (i0 : 0 ≤ i) (i1 : i < n) : - mb b i 0 ≤ t i := by
  have := h.le i 0 i0 i1 (by omega) hn
  have := h.z
  omega
theorem mb_idx {b : List Int} {i k : Int} (h : b.length = 64) (i0 : 0 ≤ i) (i1 : i < 8) (k0 : 0 ≤ k) (k1 : k < 8) : idx b ((0 + i * 8) + k * 1) = some (mb b i k) := idx_nth 0 (by omega) (by omega)
theorem gix_eq {m : Nat} {i : Int} (h0 : 0 ≤ i) (h1 : i < m) : gix m i = some () := by unfold gix; rw [if_pos ⟨h0, h1⟩]
theorem glen_eq {α : Type} {xs : List α} {n : Nat} (h : xs.length = n) : glen xs n = some () := by unfold glen; rw [if_pos h]
theorem mb_set {b : List Int} {i k i' k' v : Int} (h : b.length = 64) (i0 : 0 ≤ i) (i1 : i < 8) (k0 : 0 ≤ k) (k1 : k < 8) (i0' : 0 ≤ i') (i1' : i' < 8) (k0' : 0 ≤ k') (k1' : k' < 8) :
    mb (setI b ((0 + i * 8) + k * 1) v) i' k' = if i' = i ∧ k' = k then v else mb b i' k' := by
  unfold mb
  rw [nth_setI 0 (by omega) (by omega) (by omega)]
  by_cases q : i' = i ∧ k' = k
  · rw [if_pos q, if_pos (by omega)]
  · rw [if_neg q, if_neg (by omega)]
def add (b : List Int) (from_ to_ most i k : Int) : Int := min (mb b i k) (mb b i from_ + most + mb b to_ k)
section
variable {n from_ to_ most : Int} {b : List Int}
theorem closed_loop (h : Cl n b) (hn0 : 0 < n) (hn : n ≤ 8) (f0 : 0 ≤ from_) (f1 : from_ < n) (t0 : 0 ≤ to_) (t1 : to_ < n) (m0 : -100000 ≤ most) (m1 : most ≤ 100000) {β : Type} {F : List Int → Option β} {H : Empty → Option β} {Q : β → Prop}
    (hF : ∀ c, c.length = 64 → (∀ i k, 0 ≤ i → i < n → 0 ≤ k → k < n → mb c i k = add b from_ to_ most i k) → Tot (F c) Q) :
    Tot ((forN (plan_bounds_closed_b1 (some b) n from_ to_ most) n.toNat b).bind fun c => Ctl.on c F H) Q := by
  refine tot_loopN (I := fun i c => c.length = 64 ∧ ∀ i' k', 0 ≤ i' → i' < n → 0 ≤ k' → k' < n → mb c i' k' = if i' < (i : Int) then add b from_ to_ most i' k' else mb b i' k') (J := fun c => c.length = 64 ∧ ∀ i k, 0 ≤ i → i < n → 0 ≤ k → k < n → mb c i k = add b from_ to_ most i k) (E := fun _ => False)
    ⟨h.len, fun i' k' i0 _ _ _ => by rw [if_neg (by omega)]⟩ (fun i c hi hI => ?_) (fun c hI => ⟨hI.1, fun i k i0 i1 k0 k1 => by rw [hI.2 i k i0 i1 k0 k1, if_pos (by omega)]⟩) (fun c hJ => hF c hJ.1 hJ.2) (fun _ h => h.elim)
  obtain ⟨hl, hI⟩ := hI
  unfold plan_bounds_closed_b1
  refine tot_bind' (glim_eq (by omega)) ?_
  refine tot_loopN (I := fun k c => c.length = 64 ∧ ∀ i' k', 0 ≤ i' → i' < n → 0 ≤ k' → k' < n → mb c i' k' = if i' < (i : Int) ∨ i' = i ∧ k' < (k : Int) then add b from_ to_ most i' k' else mb b i' k') (J := fun c => c.length = 64 ∧ ∀ i' k', 0 ≤ i' → i' < n → 0 ≤ k' → k' < n → mb c i' k' = if i' < ((i + 1 : Nat) : Int) then add b from_ to_ most i' k' else mb b i' k') (E := fun _ => False)
    ⟨hl, fun i' k' i0 i1 k0 k1 => by rw [hI i' k' i0 i1 k0 k1]; by_cases q : i' < (i : Int) <;> simp [q] <;> omega⟩ (fun k c hk hI => ?_) (fun c hI => ⟨hI.1, fun i' k' i0 i1 k0 k1 => ?_⟩) (fun c hJ => tot_some hJ) (fun _ h => h.elim)
  · obtain ⟨hl, hI⟩ := hI
    have b1 := h.up i from_ (by omega) (by omega) f0 f1
    have b2 := h.lo (i := (i : Int)) (k := from_) (by omega) (by omega) f0 f1
    have b3 := h.up to_ k t0 t1 (by omega) (by omega)
    have b4 := h.lo (i := to_) (k := (k : Int)) t0 t1 (by omega) (by omega)
    unfold plan_bounds_closed_b2
    have g1 := gix_eq (m := 8) (i := (i : Int)) (by omega) (by omega)
    have g2 := gix_eq (m := 8) (i := (k : Int)) (by omega) (by omega)
    have g3 := gix_eq (m := 8) (i := from_) (by omega) (by omega)
    have g4 := gix_eq (m := 8) (i := to_) (by omega) (by omega)
    have e1 := mb_idx (b := c) (i := (i : Int)) (k := (k : Int)) hl (by omega) (by omega) (by omega) (by omega)
    have e2 := mb_idx (b := b) (i := (i : Int)) (k := from_) h.len (by omega) (by omega) (by omega) (by omega)
    have e3 := mb_idx (b := b) (i := to_) (k := (k : Int)) h.len (by omega) (by omega) (by omega) (by omega)
    simp only [Option.bind_some, g1, g2, g3, g4, e1, e2, e3]
    rw [w64_id (x := mb b i from_ + most) (by omega) (by omega), w64_id (by omega) (by omega), gmin_eq]
    refine tot_some ⟨by rw [setI_length]; exact hl, fun i' k' i0 i1 k0 k1 => ?_⟩
    rw [mb_set hl (by omega) (by omega) (by omega) (by omega) i0 (by omega) k0 (by omega)]
    have hc := hI i k (by omega) (by omega) (by omega) (by omega)
    rw [if_neg (by omega)] at hc
    by_cases q : i' = i ∧ k' = k
    · obtain ⟨rfl, rfl⟩ := q
      rw [if_pos ⟨rfl, rfl⟩, if_pos (by omega), hc]
      rfl
    · rw [if_neg q, hI i' k' i0 i1 k0 k1]
      by_cases q2 : i' < (i : Int) ∨ i' = i ∧ k' < (k : Int)
      · rw [if_pos q2, if_pos (by omega)]
      · rw [if_neg q2, if_neg (by omega)]
  · rw [hI.2 i' k' i0 i1 k0 k1]
    by_cases q : i' < ((i + 1 : Nat) : Int)
    · rw [if_pos (by omega), if_pos q]
    · rw [if_neg (by omega), if_neg q]
theorem closed_ok (h : Cl n b) (hn0 : 0 < n) (hn : n ≤ 8) (f0 : 0 ≤ from_) (f1 : from_ < n) (t0 : 0 ≤ to_) (t1 : to_ < n) (m0 : -100000 ≤ most) (m1 : most ≤ 100000) :
    Tot (plan_bounds_closed (some b) n from_ to_ most) fun r => (r.2 = false ∧ ∀ t, Sol n b t → ¬ (t to_ - t from_ ≤ most)) ∨ ∃ c, r = (some c, true) ∧ Cl n c ∧ ∀ t, Sol n c t ↔ Sol n b t ∧ t to_ - t from_ ≤ most := by
  unfold plan_bounds_closed
  have g3 := gix_eq (m := 8) (i := from_) (by omega) (by omega)
  have g4 := gix_eq (m := 8) (i := to_) (by omega) (by omega)
  have e1 := mb_idx (b := b) (i := from_) (k := to_) h.len (by omega) (by omega) (by omega) (by omega)
  have e2 := mb_idx (b := b) (i := to_) (k := from_) h.len (by omega) (by omega) (by omega) (by omega)
  have b3 := h.up to_ from_ t0 t1 f0 f1
  have b4 := h.lo t0 t1 f0 f1
  simp only [Option.bind_some, g3, g4, e1, e2]
  refine tot_ifb (fun q => ?_) fun q => ?_
  · have q := of_decide_eq_true q
    refine tot_some (.inr ⟨b, rfl, h, fun t => ⟨fun ht => ⟨ht, ?_⟩, fun ht => ht.1⟩⟩)
    have := ht.le from_ to_ f0 f1 t0 t1
    omega
  have q := of_decide_eq_false q
  rw [w64_id (x := mb b to_ from_ + most) (by omega) (by omega)]
  refine tot_ifb (fun q2 => ?_) fun q2 => ?_
  · have q2 := of_decide_eq_true q2
    refine tot_some (.inl ⟨rfl, fun t ht hm => ?_⟩)
    have := ht.le to_ from_ t0 t1 f0 f1
    omega
  have q2 := of_decide_eq_false q2
  refine tot_bind' (glen_eq h.len) ?_
  refine tot_bind' (glen_eq (by simp)) ?_
  refine tot_bind' (glen_eq h.len) ?_
  refine tot_bind' (glim_eq (by omega)) ?_
  refine closed_loop h hn0 hn f0 f1 t0 t1 m0 m1 fun c hl hc => tot_some (.inr ⟨c, rfl, ⟨hl, fun i i0 i1 => ?_, fun i j k i0 i1 j0 j1 k0 k1 => ?_, fun i k i0 i1 k0 k1 => ?_⟩, fun t => ⟨fun ht => ?_, fun ht => ⟨ht.1.z, fun i k i0 i1 k0 k1 => ?_⟩⟩⟩)
  · rw [hc i i i0 i1 i0 i1]
    unfold add
    have := h.dg i i0 i1
    have := h.tri to_ i from_ t0 t1 i0 i1 f0 f1
    omega
  · rw [hc i k i0 i1 k0 k1, hc i j i0 i1 j0 j1, hc j k j0 j1 k0 k1]
    unfold add
    have a1 := h.tri i j k i0 i1 j0 j1 k0 k1
    have a2 := h.tri i j from_ i0 i1 j0 j1 f0 f1
    have a3 := h.tri to_ j k t0 t1 j0 j1 k0 k1
    have a4 := h.tri to_ j from_ t0 t1 j0 j1 f0 f1
    omega
  · rw [hc i k i0 i1 k0 k1]
    unfold add
    have := h.up i k i0 i1 k0 k1
    omega
  · have e := hc from_ to_ f0 f1 t0 t1
    have d1 := h.dg from_ f0 f1
    have d2 := h.dg to_ t0 t1
    have := ht.le from_ to_ f0 f1 t0 t1
    unfold add at e
    refine ⟨⟨ht.z, fun i k i0 i1 k0 k1 => ?_⟩, by omega⟩
    have a1 := ht.le i k i0 i1 k0 k1
    rw [hc i k i0 i1 k0 k1] at a1
    unfold add at a1
    omega
  · rw [hc i k i0 i1 k0 k1]
    unfold add
    have a1 := ht.1.le i k i0 i1 k0 k1
    have a2 := ht.1.le i from_ i0 i1 f0 f1
    have a3 := ht.1.le to_ k t0 t1 k0 k1
    have := ht.2
    omega
theorem between_ok {low high : Int} (h : Cl n b) (hn0 : 0 < n) (hn : n ≤ 8) (f0 : 0 ≤ from_) (f1 : from_ < n) (t0 : 0 ≤ to_) (t1 : to_ < n) (l0 : -100000 ≤ low) (l1 : low ≤ 100000) (m0 : -100000 ≤ high) (m1 : high ≤ 100000) :
    Tot (plan_bounds_between (some b) n from_ to_ low high) fun r => (r.2 = false ∧ ∀ t, Sol n b t → ¬ (low ≤ t to_ - t from_ ∧ t to_ - t from_ ≤ high)) ∨ ∃ c, r = (some c, true) ∧ Cl n c ∧ ∀ t, Sol n c t ↔ Sol n b t ∧ low ≤ t to_ - t from_ ∧ t to_ - t from_ ≤ high := by
  unfold plan_bounds_between
  refine tot_bind (closed_ok h hn0 hn f0 f1 t0 t1 m0 m1) fun r _ hr => ?_
  rcases hr with ⟨h1, h2⟩ | ⟨c, rfl, hc, h2⟩
  · rw [h1]
    exact tot_some (.inl ⟨rfl, fun t ht hb => h2 t ht hb.2⟩)
  · simp only [Bool.not_true, ifb_false]
    rw [w64_id (x := 0 - low) (by omega) (by omega)]
    refine tot_bind (closed_ok hc hn0 hn t0 t1 f0 f1 (most := 0 - low) (by omega) (by omega)) fun r _ hr => ?_
    rcases hr with ⟨h3, h4⟩ | ⟨d, rfl, hd, h4⟩
    · exact tot_some (.inl ⟨h3, fun t ht hb => h4 t ((h2 t).2 ⟨ht, hb.2⟩) (by omega)⟩)
    · refine tot_some (.inr ⟨d, rfl, hd, fun t => ?_⟩)
      rw [h4 t, h2 t]
      constructor
      · rintro ⟨⟨a, b⟩, c⟩; exact ⟨a, by omega, b⟩
      · rintro ⟨a, b, c⟩; exact ⟨⟨a, c⟩, by omega⟩
end
end Pt
set_option linter.unusedVariables false
set_option linter.unusedSimpArgs false
set_option maxRecDepth 100000
namespace Pt
open Go Hk Hd Pl
structure ROk (T n : Int) (r : S_plan_Rule) : Prop where
  f0 : 0 ≤ r.From
  f1 : r.From < n
  t0 : 0 ≤ r.To
  t1 : r.To < n
  ne : r.From ≠ r.To
  m0 : 0 ≤ r.Min
  m1 : r.Min ≤ 3600
  x0 : r.Min ≤ r.Max
  x1 : r.Max ≤ r.Min + T - 1
  w0 : 0 ≤ r.Weight
  w1 : r.Weight ≤ 1000
def In (T : Int) (r : S_plan_Rule) (k d : Int) : Prop := r.Min - k * T ≤ d ∧ d ≤ r.Max - k * T
theorem mul_mono {a b T : Int} (h : a ≤ b) (hT : 0 ≤ T) : a * T ≤ b * T := Int.mul_le_mul_of_nonneg_right h hT
theorem floor_ok {a T : Int} (hT : 1 ≤ T) (hT2 : T ≤ 100000) (a0 : -100000 ≤ a) (a1 : a ≤ 100000) : Tot (plan_floor a T) fun f => f * T ≤ a ∧ a < (f + 1) * T ∧ -200000 ≤ f ∧ f ≤ 200000 := by
  have e : T * a.tdiv T + a.tmod T = a := Int.mul_tdiv_add_tmod a T
  have m1 : a.tmod T < T := Int.tmod_lt_of_pos a (by omega)
  have m0 : -T < a.tmod T := by
    have := Int.tmod_lt_of_pos (-a) (b := T) (by omega)
    rw [Int.neg_tmod] at this
    omega
  have hq : T * a.tdiv T = a.tdiv T * T := Int.mul_comm _ _
  have q0 : -150000 ≤ a.tdiv T := by
    rcases Int.lt_or_le (a.tdiv T) (-150000) with h | h
    · have := mul_mono (T := T) (show a.tdiv T ≤ -150001 by omega) (by omega)
      have h2 : (-150001 : Int) * T ≤ -150001 * 1 := by omega
      omega
    · exact h
  have q1 : a.tdiv T ≤ 150000 := by
    rcases Int.lt_or_le 150000 (a.tdiv T) with h | h
    · have := mul_mono (T := T) (show 150001 ≤ a.tdiv T by omega) (by omega)
      omega
    · exact h
  have s1 : (a.tdiv T - 1) * T = a.tdiv T * T - T := by rw [Int.sub_mul, Int.one_mul]
  have s2 : (a.tdiv T + 1) * T = a.tdiv T * T + T := by rw [Int.add_mul, Int.one_mul]
  unfold plan_floor gquoK gremK
  rw [if_neg (by omega), if_neg (by omega)]
  simp only [Option.bind_some]
  have ew : IntKind.i64.wrap (a.tdiv T) = a.tdiv T := w64_id (by omega) (by omega)
  rw [ew]
  refine tot_bind (P := fun f => f * T ≤ a ∧ a < (f + 1) * T ∧ -200000 ≤ f ∧ f ≤ 200000) ?_ fun f _ hf => tot_some hf
  refine tot_ifb (fun q => ?_) fun q => ?_
  · have q := of_decide_eq_true q
    rw [w64_id (by omega) (by omega)]
    refine tot_some ⟨by omega, ?_, by omega, by omega⟩
    rw [show a.tdiv T - 1 + 1 = a.tdiv T by omega]
    omega
  · have q := of_decide_eq_false q
    exact tot_some ⟨by omega, by omega, by omega, by omega⟩
theorem small_of_mul {k T c : Int} (hT : 1 ≤ T) (h0 : -c ≤ k * T) (h1 : k * T ≤ c) : -c ≤ k ∧ k ≤ c := by
  constructor
  · rcases Int.lt_or_le k (-c) with h | h
    · have hc : 0 ≤ c := by omega
      have := Int.mul_le_mul_of_nonneg_right (show k ≤ -c - 1 by omega) (show 0 ≤ T by omega)
      have h2 : (-c - 1) * T ≤ (-c - 1) * 1 := Int.mul_le_mul_of_nonpos_left (by omega) hT
      omega
    · exact h
  · rcases Int.lt_or_le c k with h | h
    · have hc : 0 ≤ c := by omega
      have := Int.mul_le_mul_of_nonneg_right (show c + 1 ≤ k by omega) (show 0 ≤ T by omega)
      have h2 : (c + 1) * 1 ≤ (c + 1) * T := Int.mul_le_mul_of_nonneg_left hT (by omega)
      omega
    · exact h
theorem choices_ok {T n : Int} {b : List Int} {r : S_plan_Rule} {rules : List S_plan_Rule} {taken : List Int} {op : List Bool} {ev best : Int} (h : Cl n b) (hn0 : 0 < n) (hn : n ≤ 8) (hT : 2 ≤ T) (hT2 : T ≤ 3600) (hr : ROk T n r) :
    Tot (plan_search_choices_v4 (some b) r T n rules taken op ev best) fun x => ∃ l, x = (rules, l) ∧ l.length ≤ 60000 ∧ (∀ k ∈ l, -20000 ≤ k * T ∧ k * T ≤ 20000) ∧ ∀ t, Sol n b t → ∀ k, In T r k (t r.To - t r.From) → k ∈ l := by
  have r1 := hr.f0; have r2 := hr.f1; have r3 := hr.t0; have r4 := hr.t1; have r5 := hr.m0; have r6 := hr.m1; have r7 := hr.x0; have r8 := hr.x1
  have b1 := h.up r.From r.To r1 r2 r3 r4
  have b2 := h.lo (i := r.From) (k := r.To) r1 r2 r3 r4
  have b3 := h.up r.To r.From r3 r4 r1 r2
  have b4 := h.lo (i := r.To) (k := r.From) r3 r4 r1 r2
  have g1 := gix_eq (m := 8) (i := r.From) (by omega) (by omega)
  have g2 := gix_eq (m := 8) (i := r.To) (by omega) (by omega)
  have e1 := mb_idx (b := b) (i := r.From) (k := r.To) h.len (by omega) (by omega) (by omega) (by omega)
  have e2 := mb_idx (b := b) (i := r.To) (k := r.From) h.len (by omega) (by omega) (by omega) (by omega)
  unfold plan_search_choices_v4
  simp only [Option.bind_some, g1, g2, e1]
  rw [w64_id (x := mb b r.From r.To - r.Min) (by omega) (by omega)]
  refine tot_bind (floor_ok (by omega) (by omega) (by omega) (by omega)) fun f _ hf => ?_
  obtain ⟨f1, f2, f3, f4⟩ := hf
  rw [w64_id (x := 0 - f) (by omega) (by omega)]
  have fs : (f + 1) * T = f * T + T := by rw [Int.add_mul, Int.one_mul]
  refine tot_bind (P := fun c => match c with | .go l => l.length ≤ 60000 ∧ (∀ k ∈ l, -20000 ≤ k * T ∧ k * T ≤ 20000) ∧ ∀ k, -f ≤ k → - mb b r.To r.From ≤ r.Max - k * T → k ∈ l | .out e => False) ?_ fun c _ hc => ?_
  · refine tot_iter (I := fun s => -f ≤ s.1 ∧ s.1 * T ≤ 20000 ∧ (s.2.length : Int) + (r.Max + mb b r.To r.From - s.1 * T) ≤ 25000 ∧ (∀ k ∈ s.2, -20000 ≤ k * T ∧ k * T ≤ 20000) ∧ ∀ k, -f ≤ k → k < s.1 → k ∈ s.2) (μ := fun s => (r.Max + mb b r.To r.From - s.1 * T + 10000).toNat) ⟨by show -f ≤ 0 - f; omega, ?_, ?_, by simp, fun k k0 k1 => by have : k < 0 - f := k1; omega⟩ ?_ ?_
    · show (0 - f) * T ≤ 20000
      rw [Int.sub_mul, Int.zero_mul]; omega
    · show (([] : List Int).length : Int) + (r.Max + mb b r.To r.From - (0 - f) * T) ≤ 25000
      rw [Int.sub_mul, Int.zero_mul]; simp; omega
    · show (r.Max + mb b r.To r.From - (0 - f) * T + 10000).toNat < bigN
      rw [Int.sub_mul, Int.zero_mul]
      have : 100000 < bigN := by decide
      omega
    · rintro ⟨k, l⟩ ⟨k0, k1, k2, k3, k4⟩
      simp only at k0 k1 k2 k3 k4
      have kT : -f * T ≤ k * T := mul_mono k0 (by omega)
      rw [Int.neg_mul] at kT
      have ks := small_of_mul (k := k) (T := T) (c := 20000) (by omega) (by omega) k1
      have ks1 : (k + 1) * T = k * T + T := by rw [Int.add_mul, Int.one_mul]
      unfold plan_search_choices_v4_b1
      simp only [Option.bind_some, g1, g2, e2]
      rw [w64_id (x := k * T) (by omega) (by omega), w64_id (x := r.Max - k * T) (by omega) (by omega), w64_id (x := 0 - mb b r.To r.From) (by omega) (by omega)]
      refine tot_ifb (fun q => ?_) fun q => ?_
      · have q := of_decide_eq_true q
        refine tot_bind' (gapp_eq (by simp; have : (1000000 : Nat) ≤ apRoom := (by decide); omega) (by simp; have : (1000000 : Nat) ≤ maxLen := (by decide); omega)) ?_
        rw [w64_id (x := k + 1) (by omega) (by omega)]
        refine tot_some ⟨⟨by show -f ≤ k + 1; omega, by show (k + 1) * T ≤ 20000; omega, ?_, fun j hj => ?_, fun j j0 j1 => ?_⟩, ?_⟩
        · show ((l ++ [k]).length : Int) + (r.Max + mb b r.To r.From - (k + 1) * T) ≤ 25000
          rw [List.length_append, List.length_singleton, ks1]; omega
        · rcases List.mem_append.1 hj with hj | hj
          · exact k3 j hj
          · rw [List.mem_singleton.1 hj]; omega
        · have j1 : j < k + 1 := j1
          by_cases e : j = k
          · subst e; exact List.mem_append_right _ (List.mem_singleton.2 rfl)
          · exact List.mem_append_left _ (k4 j j0 (by omega))
        · show (r.Max + mb b r.To r.From - (k + 1) * T + 10000).toNat < (r.Max + mb b r.To r.From - k * T + 10000).toNat
          rw [ks1]; omega
      · have q := of_decide_eq_false q
        refine tot_some ⟨by omega, k3, fun j j0 j1 => ?_⟩
        by_cases e : j < k
        · exact k4 j j0 e
        · have := mul_mono (show k ≤ j by omega) (show 0 ≤ T by omega)
          omega
  · cases c with
    | out e => exact hc.elim
    | go l =>
      obtain ⟨c1, c2, c3⟩ := hc
      refine tot_some ⟨l, rfl, c1, c2, fun t ht k hk => ?_⟩
      have a1 := ht.le r.From r.To r1 r2 r3 r4
      have a2 := ht.le r.To r.From r3 r4 r1 r2
      obtain ⟨i1, i2⟩ := hk
      refine c3 k ?_ (by omega)
      rcases Int.lt_or_le k (-f) with g | g
      · have := mul_mono (show k ≤ -(f + 1) by omega) (show 0 ≤ T by omega)
        rw [Int.neg_mul] at this
        omega
      · exact g
end Pt
set_option linter.unusedVariables false
set_option linter.unusedSimpArgs false
set_option maxRecDepth 100000
namespace Pt
open Go Hk Hd Pl
structure POk (T n : Int) (rules : List S_plan_Rule) : Prop where
  T0 : 2 ≤ T
  T1 : T ≤ 3600
  n0 : 1 ≤ n
  n1 : n ≤ 8
  len : rules.length ≤ 40
  all : ∀ r ∈ rules, ROk T n r
def Keeps (T : Int) (r : S_plan_Rule) (t : Int → Int) : Prop := ∃ k, In T r k (t r.To - t r.From)
def All (T : Int) (rules : List S_plan_Rule) (t : Int → Int) : Prop := ∀ r ∈ rules, Keeps T r t
abbrev Rs := List Int × List Bool × List S_plan_Rule × Int
abbrev Rc := Option (List Int) → Int → Int → List S_plan_Rule → List Int → List Bool → Int → Int → Option Rs
def Done (T n : Int) (rules : List S_plan_Rule) (b : List Int) (op : List Bool) : Prop := ∀ (i : Nat) r, rules[i]? = some r → nth true op i = false → ∀ t, Sol n b t → Keeps T r t
structure Fd (T n : Int) (rules : List S_plan_Rule) (b : List Int) (ev best best' : Int) (P : (Int → Int) → Prop) : Prop where
  le : best' ≤ best
  is : best' = best ∨ ∃ t, Sol n b t ∧ All T rules t ∧ t ev = best'
  no : ∀ t, Sol n b t → All T rules t → P t → best' ≤ t ev
def Ans (T n : Int) (rules : List S_plan_Rule) (b : List Int) (op : List Bool) (ev best : Int) (r : Rs) : Prop := ∃ tk best', r = (tk, op, rules, best') ∧ tk.length = rules.length ∧ Fd T n rules b ev best best' fun _ => True
def zr : S_plan_Rule := ⟨0, 0, 0, 0, 0⟩
section
variable {T n ev best : Int} {rules : List S_plan_Rule} {b taken : List Int} {op : List Bool}
theorem prune_ok (h : Cl n b) (hp : POk T n rules) (e0 : 0 ≤ ev) (e1 : ev < n) : plan_solve_1_v3 (some b) ev best = some (decide (- mb b ev 0 ≥ best)) := by
  have n1 := hp.n1; have n0 := hp.n0
  have b1 := h.up ev 0 e0 e1 (by omega) (by omega)
  have b2 := h.lo (i := ev) (k := 0) e0 e1 (by omega) (by omega)
  unfold plan_solve_1_v3
  simp only [Option.bind_some, gix_eq (m := 8) (i := ev) (by omega) (by omega), gix_eq (m := 8) (i := 0) (by omega) (by omega), mb_idx (b := b) (i := ev) (k := 0) h.len (by omega) (by omega) (by omega) (by omega)]
  rw [w64_id (by omega) (by omega), show (0 : Int) - mb b ev 0 = - mb b ev 0 by omega]
theorem leaf_ok (h : Cl n b) (hp : POk T n rules) (e0 : 0 ≤ ev) (e1 : ev < n) : plan_solve_2 (some b) taken ev best = some (- mb b ev 0) := by
  have n1 := hp.n1; have n0 := hp.n0
  have b1 := h.up ev 0 e0 e1 (by omega) (by omega)
  have b2 := h.lo (i := ev) (k := 0) e0 e1 (by omega) (by omega)
  unfold plan_solve_2
  simp only [Option.bind_some, gix_eq (m := 8) (i := ev) (by omega) (by omega), gix_eq (m := 8) (i := 0) (by omega) (by omega), mb_idx (b := b) (i := ev) (k := 0) h.len (by omega) (by omega) (by omega) (by omega)]
  rw [w64_id (by omega) (by omega), show (0 : Int) - mb b ev 0 = - mb b ev 0 by omega]
structure Few (T n : Int) (b : List Int) (r : S_plan_Rule) (l : List Int) : Prop where
  len : l.length ≤ 60000
  bd : ∀ k ∈ l, -20000 ≤ k * T ∧ k * T ≤ 20000
  all : ∀ t, Sol n b t → ∀ k, In T r k (t r.To - t r.From) → k ∈ l
structure BI (T n : Int) (rules : List S_plan_Rule) (b : List Int) (op : List Bool) (i : Nat) (bi : Int) (few : List Int) : Prop where
  or : (bi = -1 ∧ ∀ j : Nat, j < i → nth true op j = false) ∨ 0 ≤ bi ∧ bi < i ∧ nth true op bi = true ∧ Few T n b (nth zr rules bi) few
  len : few.length ≤ 60000
theorem pick_b1 (h : Cl n b) (hp : POk T n rules) (hol : op.length = rules.length) {i : Nat} {r : S_plan_Rule} (hr : rules[i]? = some r) {bi : Int} {few : List Int} (hI : BI T n rules b op i bi few) :
    Tot (plan_search_run_b1 (some b) T n taken op ev best i r (bi, few, rules)) fun c => match c with
      | .go s => ∃ bi few, s = (bi, few, rules) ∧ BI T n rules b op (i + 1) bi few
      | .out (.go s) => False
      | .out (.out y) => y = (taken, op, rules, best) ∧ ∀ t, Sol n b t → ¬ All T rules t := by
  obtain ⟨hi, hre⟩ := List.getElem?_eq_some_iff.1 hr
  have hrm := List.mem_of_getElem? hr
  have er : nth zr rules (i : Int) = r := nth_nat zr hr
  have n0 := hp.n0
  unfold plan_search_run_b1
  dsimp only
  refine tot_bind' (idx_nth true (by omega) (by omega)) ?_
  refine tot_ifb (fun q => ?_) fun q => ?_
  · have q : nth true op (i : Int) = false := by simpa using q
    refine tot_some ⟨bi, few, rfl, ?_, hI.len⟩
    rcases hI.or with ⟨h1, h2⟩ | ⟨h1, h2, h3⟩
    · refine .inl ⟨h1, fun j hj => ?_⟩
      by_cases e : j = i
      · subst e; exact q
      · exact h2 j (by omega)
    · exact .inr ⟨h1, by omega, h3⟩
  have q : nth true op (i : Int) = true := by simpa using q
  refine tot_bind (choices_ok h (by omega) hp.n1 hp.T0 hp.T1 (hp.all r hrm)) fun x _ hx => ?_
  obtain ⟨l, rfl, c1, c2, c3⟩ := hx
  have hf : Few T n b (nth zr rules (i : Int)) l := by rw [er]; exact ⟨c1, c2, c3⟩
  refine tot_bind (P := fun s => ∃ bi few, s = (bi, few, l) ∧ BI T n rules b op (i + 1) bi few) ?_ fun s _ hs => ?_
  · refine tot_bind (P := fun c : Bool => c = false → ¬ bi < 0) ?_ fun c _ hc => ?_
    · refine tot_ifb (fun _ => tot_some fun e => (by cases e)) fun q => tot_some fun _ => of_decide_eq_false q
    refine tot_ifb (fun _ => tot_some ⟨_, _, rfl, .inr ⟨by omega, by omega, q, hf⟩, c1⟩) fun q2 => tot_some ⟨_, _, rfl, ?_, hI.len⟩
    rcases hI.or with ⟨h1, h2⟩ | ⟨h1, h2, h3⟩
    · exact absurd (by omega) (hc q2)
    · exact .inr ⟨h1, by omega, h3⟩
  · obtain ⟨bi', few', rfl, hB⟩ := hs
    refine tot_ifb (fun q2 => ?_) fun _ => tot_some ⟨bi', few', rfl, hB⟩
    have q2 : (l.length : Int) = 0 := by simpa using q2
    refine tot_some ⟨rfl, fun t ht ha => ?_⟩
    obtain ⟨k, hk⟩ := ha r hrm
    have := List.length_pos_of_mem (c3 t ht k hk)
    omega
theorem Done.set {c : List Int} {bi k : Int} (hd : Done T n rules b op) (hol : op.length = rules.length) (h0 : 0 ≤ bi) (h1 : bi < rules.length) (hc : ∀ t, Sol n c t → Sol n b t ∧ In T (nth zr rules bi) k (t (nth zr rules bi).To - t (nth zr rules bi).From)) : Done T n rules c (setI op bi false) := fun i r hr hi t ht => by
  have hlt := (List.getElem?_eq_some_iff.1 hr).1
  rw [nth_setI true h0 (by omega) (by omega)] at hi
  by_cases e : (i : Int) = bi
  · have := (hc t ht).2
    rw [← e, nth_nat zr hr] at this
    exact ⟨k, this⟩
  · rw [if_neg e] at hi
    exact hd i r hr hi t (hc t ht).1
theorem count_set {bi : Int} (h0 : 0 ≤ bi) (h1 : bi < op.length) (h : nth true op bi = true) : (setI op bi false).count true + 1 = op.count true := by
  have e : op[bi.toNat]'(by omega) = true := by
    unfold nth at h; rw [List.getElem?_eq_getElem (by omega)] at h; exact h
  unfold setI
  rw [List.count_set (by omega), e]
  have : 0 < op.count true := List.count_pos_iff.2 (e ▸ List.getElem_mem _)
  simp; omega
theorem set_back {bi : Int} (h0 : 0 ≤ bi) (h1 : bi < op.length) (h : nth true op bi = true) : setI (setI op bi false) bi true = op := by
  have e : op[bi.toNat]'(by omega) = true := by
    unfold nth at h; rw [List.getElem?_eq_getElem (by omega)] at h; exact h
  unfold setI
  rw [List.set_set]
  conv => lhs; rw [← e]
  exact List.set_getElem_self _
theorem step_ok {R : Rc} (hp : POk T n rules) (e0 : 0 ≤ ev) (e1 : ev < n) (h : Cl n b) (htl : taken.length = rules.length) (hol : op.length = rules.length) (hd : Done T n rules b op)
    (hR : ∀ c taken op' best, Cl n c → taken.length = rules.length → op'.length = rules.length → Done T n rules c op' → op'.count true < op.count true → Tot (R (some c) T n rules taken op' ev best) (Ans T n rules c op' ev best)) :
    Tot (plan_search_run_step R (some b) T n rules taken op ev best) (Ans T n rules b op ev best) := by
  have n0 := hp.n0; have n1 := hp.n1; have T0 := hp.T0; have T1 := hp.T1
  unfold plan_search_run_step
  refine tot_bind' (prune_ok h hp e0 e1) ?_
  refine tot_ifb (fun q => ?_) fun q => ?_
  · have q : - mb b ev 0 ≥ best := of_decide_eq_true q
    exact tot_some ⟨taken, best, rfl, htl, by omega, .inl rfl, fun t ht _ _ => by have := ht.low (by omega) e0 e1; omega⟩
  have q : ¬ - mb b ev 0 ≥ best := of_decide_eq_false q
  refine tot_loopX (I := fun i s => ∃ bi few, s = (bi, few, rules) ∧ BI T n rules b op i bi few) (J := fun s => ∃ bi few, s = (bi, few, rules) ∧ BI T n rules b op rules.length bi few) (E := fun y => y = (taken, op, rules, best) ∧ ∀ t, Sol n b t → ¬ All T rules t)
    ⟨-1, [], rfl, .inl ⟨rfl, fun j hj => by omega⟩, by simp⟩ ?_ (fun s hs => hs) ?_ ?_
  · rintro i r s hr ⟨bi, few, rfl, hI⟩
    refine tot_mono (pick_b1 h hp hol hr hI) fun c hc => ?_
    rcases c with s | (s | y)
    · exact hc
    · exact hc.elim
    · exact hc
  · rintro s ⟨bi, few, rfl, hI⟩
    refine tot_ifb (fun q2 => ?_) fun q2 => ?_
    · have q2 : bi < 0 := of_decide_eq_true q2
      refine tot_bind' (leaf_ok h hp e0 e1) ?_
      refine tot_some ⟨taken, - mb b ev 0, rfl, htl, by omega, .inr ⟨fun i => - mb b i 0, h.least (by omega), fun r hr => ?_, rfl⟩, fun t ht _ _ => ht.low (by omega) e0 e1⟩
      obtain ⟨i, hi⟩ := List.getElem?_of_mem hr
      have hlt := (List.getElem?_eq_some_iff.1 hi).1
      rcases hI.or with ⟨_, h2⟩ | ⟨h1, _⟩
      · exact hd i r hi (h2 i hlt) _ (h.least (by omega))
      · omega
    · have q2 : ¬ bi < 0 := of_decide_eq_false q2
      rcases hI.or with ⟨h1, _⟩ | ⟨h1, h2, h3, h4⟩
      · omega
      have hrm := nth_mem zr (xs := rules) (i := bi) h1 h2
      have hro := hp.all _ hrm
      have r5 := hro.m0; have r6 := hro.m1; have r7 := hro.x0; have r8 := hro.x1
      refine tot_bind' (idx_nth zr h1 h2) ?_
      refine tot_bind' (idx_nth true h1 (by omega)) ?_
      refine tot_loopX (I := fun i s => ∃ tk bs, s = (tk, setI op bi false, rules, bs) ∧ tk.length = rules.length ∧ Fd T n rules b ev best bs fun t => ∃ j : Nat, j < i ∧ ∃ k, few[j]? = some k ∧ In T (nth zr rules bi) k (t (nth zr rules bi).To - t (nth zr rules bi).From))
        (J := fun s => ∃ tk bs, s = (tk, setI op bi false, rules, bs) ∧ tk.length = rules.length ∧ Fd T n rules b ev best bs fun _ => True) (E := fun _ => False) ⟨taken, best, rfl, htl, by omega, .inl rfl, fun t _ _ ⟨j, hj, _⟩ => by omega⟩ ?_ ?_ ?_ (fun y _ => y.elim)
      · rintro i k s hk ⟨tk, bs, rfl, htk, hF⟩
        have hkb := h4.bd k (List.mem_of_getElem? hk)
        unfold plan_search_run_b2
        dsimp only
        rw [w64_id (x := k * T) (by omega) (by omega), w64_id (x := (nth zr rules bi).Min - k * T) (by omega) (by omega), w64_id (x := (nth zr rules bi).Max - k * T) (by omega) (by omega)]
        refine tot_bind (between_ok h (by omega) n1 hro.f0 hro.f1 hro.t0 hro.t1 (by omega) (by omega) (by omega) (by omega)) fun r _ hr => ?_
        rcases hr with ⟨g1, g2⟩ | ⟨c, rfl, hc, g2⟩
        · rw [g1]
          refine tot_some ⟨tk, bs, rfl, htk, hF.le, hF.is, fun t ht ha ⟨j, hj, k', hk', hin⟩ => ?_⟩
          by_cases e : j = i
          · subst e
            rw [hk] at hk'
            injection hk' with hk'
            subst hk'
            exact absurd hin (g2 t ht)
          · exact hF.no t ht ha ⟨j, by omega, k', hk', hin⟩
        · refine tot_bind' (idx_nth 0 h1 (by omega)) ?_
          have hcnt := count_set h1 (by omega) h3
          refine tot_bind (hR c (setI tk bi k) (setI op bi false) bs hc (by rw [setI_length]; exact htk) (by rw [setI_length]; exact hol) (hd.set hol h1 h2 fun t ht => (g2 t).1 ht) (by omega)) fun r _ hr => ?_
          obtain ⟨tk', bs', rfl, htk', hF'⟩ := hr
          refine tot_some ⟨tk', bs', rfl, htk', by have := hF'.le; have := hF.le; omega, ?_, fun t ht ha ⟨j, hj, k', hk', hin⟩ => ?_⟩
          · rcases hF'.is with e | ⟨t, ht, ha, e⟩
            · rw [e]; exact hF.is
            · exact .inr ⟨t, ((g2 t).1 ht).1, ha, e⟩
          · by_cases e : j = i
            · subst e
              rw [hk] at hk'
              injection hk' with hk'
              subst hk'
              exact hF'.no t ((g2 t).2 ⟨ht, hin⟩) ha trivial
            · have := hF.no t ht ha ⟨j, by omega, k', hk', hin⟩
              have := hF'.le
              omega
      · rintro s ⟨tk, bs, rfl, htk, hF⟩
        refine ⟨tk, bs, rfl, htk, hF.le, hF.is, fun t ht ha _ => ?_⟩
        obtain ⟨k, hk⟩ := ha _ hrm
        obtain ⟨j, hj⟩ := List.getElem?_of_mem (h4.all t ht k hk)
        exact hF.no t ht ha ⟨j, (List.getElem?_eq_some_iff.1 hj).1, k, hj, hk⟩
      · rintro s ⟨tk, bs, rfl, htk, hF⟩
        refine tot_bind' (idx_nth true h1 (by rw [setI_length]; omega)) ?_
        refine tot_some ⟨tk, bs, ?_, htk, hF⟩
        show (tk, setI (setI op bi false) bi true, _) = _
        rw [set_back h1 (by omega) h3]
  · rintro r ⟨rfl, hno⟩
    exact tot_some ⟨taken, best, rfl, htl, by omega, .inl rfl, fun t ht ha _ => absurd ha (hno t ht)⟩
theorem run_ok (hp : POk T n rules) (e0 : 0 ≤ ev) (e1 : ev < n) : ∀ (m : Nat) (b taken : List Int) (op : List Bool) (best : Int), Cl n b → taken.length = rules.length → op.length = rules.length → Done T n rules b op → op.count true < m →
    Tot (plan_search_run_n m (some b) T n rules taken op ev best) (Ans T n rules b op ev best)
  | 0, _, _, _, _, _, _, _, _, h => by omega
  | m + 1, b, taken, op, best, h, h1, h2, h3, h4 => step_ok hp e0 e1 h h1 h2 h3 fun c taken op' best k1 k2 k3 k4 k5 => run_ok hp e0 e1 m c taken op' best k1 k2 k3 k4 (by omega)
end
end Pt
set_option linter.unusedVariables false
set_option linter.unusedSimpArgs false
set_option maxRecDepth 100000
namespace Pt
open Go Hk Hd Pl
theorem repeat_eq : ∀ k : Nat, k ≤ 40 → slices_Repeat_bool_bool [true] (k : Int) = some (List.replicate k true) := by
  intro k hk
  rcases k with _ | _ | _ | _ | _ | _ | _ | _ | _ | _ | _ | _ | _ | _ | _ | _ | _ | _ | _ | _ | _ | _ | _ | _ | _ | _ | _ | _ | _ | _ | _ | _ | _ | _ | _ | _ | _ | _ | _ | _ | _ | k
  all_goals first | omega | kernel_rfl
def sv (T i k : Int) : Int := if k = 0 ∨ i = k then 0 else T - 1
structure St0 (T n : Int) (b : List Int) : Prop where
  len : b.length = 64
  v : ∀ i k, 0 ≤ i → i < n → 0 ≤ k → k < n → mb b i k = sv T i k
section
variable {T n : Int} {rules : List S_plan_Rule}
theorem start_ok (hp : POk T n rules) (tk : List Int) (op : List Bool) : Tot (plan_search_start_v2 T n rules tk op) fun r => ∃ b, r = (rules, b) ∧ St0 T n b := by
  have n0 := hp.n0; have n1 := hp.n1; have T0 := hp.T0; have T1 := hp.T1
  unfold plan_search_start_v2
  refine tot_bind' (glim_eq (by omega)) ?_
  refine tot_loopN (I := fun i c => c.length = 64 ∧ ∀ i' k', 0 ≤ i' → i' < n → 0 ≤ k' → k' < n → mb c i' k' = if i' < (i : Int) then sv T i' k' else 0) (J := St0 T n) (E := fun _ => False)
    ⟨by simp, fun i' k' i0 i1 k0 k1 => by rw [if_neg (by omega)]; unfold mb; exact nth_replicate (by omega) (by omega)⟩ (fun i c hi hI => ?_) (fun c hI => ⟨hI.1, fun i k i0 i1 k0 k1 => by rw [hI.2 i k i0 i1 k0 k1, if_pos (by omega)]⟩) (fun c hJ => tot_some ⟨c, rfl, hJ⟩) (fun y _ => y.elim)
  obtain ⟨hl, hI⟩ := hI
  have g1 := gix_eq (m := 8) (i := (i : Int)) (by omega) (by omega)
  have g0 := gix_eq (m := 8) (i := 0) (by omega) (by omega)
  unfold plan_search_start_v2_b1
  refine tot_bind' (glim_eq (by omega)) ?_
  refine tot_loopN (I := fun k c => c.length = 64 ∧ ∀ i' k', 0 ≤ i' → i' < n → 0 ≤ k' → k' < n → mb c i' k' = if i' < (i : Int) then sv T i' k' else if i' = i ∧ k' < (k : Int) ∧ i' ≠ k' then T - 1 else 0)
    (J := fun c => c.length = 64 ∧ ∀ i' k', 0 ≤ i' → i' < n → 0 ≤ k' → k' < n → mb c i' k' = if i' < (i : Int) then sv T i' k' else if i' = i ∧ i' ≠ k' then T - 1 else 0) (E := fun _ => False)
    ⟨hl, fun i' k' i0 i1 k0 k1 => by rw [hI i' k' i0 i1 k0 k1]; by_cases q : i' < (i : Int)
                                     · rw [if_pos q, if_pos q]
                                     · rw [if_neg q, if_neg q, if_neg (by omega)]⟩ (fun k c hk hI => ?_) (fun c hI => ⟨hI.1, fun i' k' i0 i1 k0 k1 => ?_⟩) (fun c hJ => ?_) (fun y _ => y.elim)
  · obtain ⟨hl, hI⟩ := hI
    unfold plan_search_start_v2_b2
    have g2 := gix_eq (m := 8) (i := (k : Int)) (by omega) (by omega)
    refine tot_ifb (fun q => ?_) fun q => ?_
    · have q : (i : Int) ≠ k := by simpa using q
      simp only [Option.bind_some, g1, g2, mb_idx (b := c) (i := (i : Int)) (k := (k : Int)) hl (by omega) (by omega) (by omega) (by omega)]
      rw [w64_id (x := T - 1) (by omega) (by omega)]
      refine tot_some ⟨by rw [setI_length]; exact hl, fun i' k' i0 i1 k0 k1 => ?_⟩
      rw [mb_set hl (by omega) (by omega) (by omega) (by omega) i0 (by omega) k0 (by omega)]
      by_cases e : i' = i ∧ k' = k
      · obtain ⟨rfl, rfl⟩ := e
        rw [if_pos ⟨rfl, rfl⟩, if_neg (by omega), if_pos ⟨rfl, by omega, q⟩]
      · rw [if_neg e, hI i' k' i0 i1 k0 k1]
        by_cases q2 : i' < (i : Int)
        · rw [if_pos q2, if_pos q2]
        · rw [if_neg q2, if_neg q2]
          by_cases q3 : i' = i ∧ k' < (k : Int) ∧ i' ≠ k'
          · rw [if_pos q3, if_pos (by omega)]
          · rw [if_neg q3, if_neg (by omega)]
    · have q : (i : Int) = k := by simpa using q
      refine tot_some ⟨hl, fun i' k' i0 i1 k0 k1 => ?_⟩
      rw [hI i' k' i0 i1 k0 k1]
      by_cases q2 : i' < (i : Int)
      · rw [if_pos q2, if_pos q2]
      · rw [if_neg q2, if_neg q2]
        by_cases q3 : i' = i ∧ k' < (k : Int) ∧ i' ≠ k'
        · rw [if_pos q3, if_pos (by omega)]
        · rw [if_neg q3, if_neg (by omega)]
  · rw [hI.2 i' k' i0 i1 k0 k1]
    by_cases q2 : i' < (i : Int)
    · rw [if_pos q2, if_pos q2]
    · rw [if_neg q2, if_neg q2]
      by_cases q3 : i' = i ∧ i' ≠ k'
      · rw [if_pos q3, if_pos (by omega)]
      · rw [if_neg q3, if_neg (by omega)]
  · obtain ⟨hl, hI⟩ := hJ
    simp only [Option.bind_some, g1, g0, mb_idx (b := c) (i := (i : Int)) (k := 0) hl (by omega) (by omega) (by omega) (by omega)]
    refine tot_some ⟨by rw [setI_length]; exact hl, fun i' k' i0 i1 k0 k1 => ?_⟩
    rw [mb_set hl (by omega) (by omega) (by omega) (by omega) i0 (by omega) k0 (by omega)]
    by_cases e : i' = i ∧ k' = 0
    · obtain ⟨rfl, rfl⟩ := e
      rw [if_pos ⟨rfl, rfl⟩, if_pos (by omega)]
      unfold sv; rw [if_pos (.inl rfl)]
    · rw [if_neg e, hI i' k' i0 i1 k0 k1]
      by_cases q2 : i' < (i : Int)
      · rw [if_pos q2, if_pos (by omega)]
      · rw [if_neg q2]
        by_cases q4 : i' = i
        · rw [if_pos (show i' < ((i + 1 : Nat) : Int) by omega)]
          unfold sv
          by_cases q5 : i' = k'
          · rw [if_neg (show ¬ (i' = (i : Int) ∧ i' ≠ k') from fun h => h.2 q5), if_pos (show k' = 0 ∨ i' = k' from .inr q5)]
          · rw [if_pos (show i' = (i : Int) ∧ i' ≠ k' from ⟨q4, q5⟩), if_neg (show ¬ (k' = 0 ∨ i' = k') by omega)]
        · rw [if_neg (show ¬ (i' = (i : Int) ∧ i' ≠ k') from fun h => q4 h.1), if_neg (show ¬ i' < ((i + 1 : Nat) : Int) by omega)]
theorem St0.cl {b : List Int} (h : St0 T n b) (hp : POk T n rules) : Cl n b := by
  have T0 := hp.T0; have T1 := hp.T1
  refine ⟨h.len, fun i i0 i1 => by rw [h.v i i i0 i1 i0 i1]; unfold sv; rw [if_pos (.inr rfl)], fun i j k i0 i1 j0 j1 k0 k1 => ?_, fun i k i0 i1 k0 k1 => ?_⟩
  · rw [h.v i k i0 i1 k0 k1, h.v i j i0 i1 j0 j1, h.v j k j0 j1 k0 k1]
    unfold sv
    by_cases a : k = 0 ∨ i = k <;> by_cases c : j = 0 ∨ i = j <;> by_cases d : k = 0 ∨ j = k <;> simp only [a, c, d, if_true, if_false] <;> omega
  · rw [h.v i k i0 i1 k0 k1]; unfold sv; split <;> omega
theorem St0.sol {b : List Int} (h : St0 T n b) (hp : POk T n rules) (t : Int → Int) : Sol n b t ↔ t 0 = 0 ∧ ∀ i, 0 ≤ i → i < n → 0 ≤ t i ∧ t i ≤ T - 1 := by
  have n0 := hp.n0; have T0 := hp.T0
  constructor
  · refine fun ht => ⟨ht.z, fun i i0 i1 => ?_⟩
    have a1 := ht.le i 0 i0 i1 (by omega) (by omega)
    have a2 := ht.le 0 i (by omega) (by omega) i0 i1
    rw [h.v i 0 i0 i1 (by omega) (by omega)] at a1
    rw [h.v 0 i (by omega) (by omega) i0 i1] at a2
    have := ht.z
    unfold sv at a1 a2
    rw [if_pos (.inl rfl)] at a1
    split at a2 <;> omega
  · rintro ⟨hz, hb⟩
    refine ⟨hz, fun i k i0 i1 k0 k1 => ?_⟩
    rw [h.v i k i0 i1 k0 k1]
    have a1 := hb i i0 i1
    have a2 := hb k k0 k1
    unfold sv
    by_cases q : k = 0 ∨ i = k
    · rw [if_pos q]
      rcases q with rfl | rfl <;> omega
    · rw [if_neg q]; omega
end
end Pt
set_option linter.unusedVariables false
set_option linter.unusedSimpArgs false
set_option maxRecDepth 100000
namespace Pt
open Go Hk Hd Pl
def Ok0 (T n : Int) (t : Int → Int) : Prop := t 0 = 0 ∧ ∀ i, 0 ≤ i → i < n → 0 ≤ t i ∧ t i ≤ T - 1
def Above (ev : Int) (times : List Int) (t : Int → Int) : Prop := ∃ j, 0 ≤ j ∧ j < ev ∧ (∀ i, 0 ≤ i → i < j → t i = nth 0 times i) ∧ nth 0 times j < t j
theorem nth_app {times : List Int} {x i : Int} (h0 : 0 ≤ i) (h : i < times.length) : nth 0 (times ++ [x]) i = nth 0 times i := by
  unfold nth
  rw [List.getElem?_append_left (by omega)]
theorem nth_last {times : List Int} {x i : Int} (h : i = times.length) : nth 0 (times ++ [x]) i = x := by
  unfold nth
  rw [List.getElem?_append_right (by omega), show i.toNat - times.length = 0 by omega]; rfl
section
variable {T n : Int} {rules : List S_plan_Rule}
structure SI (T n : Int) (rules : List S_plan_Rule) (fixed times : List Int) (ev : Int) : Prop where
  cl : Cl n fixed
  e0 : 1 ≤ ev
  e1 : ev ≤ n
  tl : (times.length : Int) = ev
  sub : ∀ t, Sol n fixed t → Ok0 T n t ∧ ∀ i, 0 ≤ i → i < ev → t i = nth 0 times i
  ex : (ev = 1 ∧ ∀ t, Ok0 T n t → Sol n fixed t) ∨ ∃ t, Sol n fixed t ∧ All T rules t
  lex : ∀ t, Ok0 T n t → All T rules t → Sol n fixed t ∨ Above ev times t
theorem solve_ok (p : S_plan_Periodic) (hp : POk p.Period p.Events p.Rules) : Tot (plan_solve p) fun r => (r = none ∧ ∀ t, Ok0 p.Period p.Events t → ¬ All p.Period p.Rules t) ∨
    ∃ l, r = some l ∧ (l.length : Int) = p.Events ∧ (∃ t, Ok0 p.Period p.Events t ∧ All p.Period p.Rules t ∧ ∀ i, 0 ≤ i → i < p.Events → t i = nth 0 l i) ∧
      ∀ t, Ok0 p.Period p.Events t → All p.Period p.Rules t → (∀ i, 0 ≤ i → i < p.Events → t i = nth 0 l i) ∨ Above p.Events l t := by
  obtain ⟨T, n, rules⟩ := p
  simp only at hp ⊢
  have n0 := hp.n0; have n1 := hp.n1; have T0 := hp.T0; have T1 := hp.T1; have hll := hp.len
  unfold plan_solve
  refine tot_bind' (x := (T, n, rules, List.replicate rules.length 0, List.replicate rules.length true)) ?_ ?_
  · unfold plan_newSearch
    dsimp only
    rw [gmake_eq (by omega) (by have : (1000 : Nat) ≤ mkRoom := (by decide); omega) (by have : (1000 : Nat) ≤ maxLen := (by decide); omega), show ((rules.length : Int)).toNat = rules.length by omega]
    simp only [Option.bind_some]
    rw [repeat_eq _ hll]
    rfl
  refine tot_bind (start_ok hp _ _) fun r _ hr => ?_
  obtain ⟨b0, rfl, hb0⟩ := hr
  dsimp only
  have hs0 := hb0.sol hp
  refine tot_bind (P := fun c => match c with
    | .go s => ∃ taken times t, s = (taken, List.replicate rules.length true, b0, rules, times) ∧ (times.length : Int) = n ∧ (Ok0 T n t ∧ All T rules t ∧ ∀ i, 0 ≤ i → i < n → t i = nth 0 times i) ∧ ∀ t, Ok0 T n t → All T rules t → (∀ i, 0 ≤ i → i < n → t i = nth 0 times i) ∨ Above n times t
    | .out r => r = none ∧ ∀ t, Ok0 T n t → ¬ All T rules t) ?_ fun c _ hc => ?_
  · refine tot_iter (I := fun s => ∃ fixed taken times ev, s = (some fixed, taken, List.replicate rules.length true, b0, rules, times, ev) ∧ taken.length = rules.length ∧ SI T n rules fixed times ev) (μ := fun s => (n - s.2.2.2.2.2.2).toNat)
      ⟨b0, _, [0], 1, rfl, by simp, hb0.cl hp, by omega, n0, rfl, fun t ht => ⟨(hs0 t).1 ht, fun i i0 i1 => ?_⟩, .inl ⟨rfl, fun t ht => (hs0 t).2 ht⟩, fun t ht _ => .inl ((hs0 t).2 ht)⟩ (by have : 1000 < bigN := (by decide); simp only; omega) ?_
    · have : i = 0 := by omega
      subst this
      rw [((hs0 t).1 ht).1]; rfl
    · rintro s ⟨fixed, taken, times, ev, rfl, htk, hI⟩
      have e0 := hI.e0; have e1 := hI.e1; have tl := hI.tl
      unfold plan_solve_b1
      dsimp only
      refine tot_ifb (fun q => ?_) fun q => ?_
      · have q : ev < n := of_decide_eq_true q
        refine tot_bind (run_ok hp (by omega) q bigN fixed taken (List.replicate rules.length true) T hI.cl htk (by simp) (fun i r hr hi => ?_) (by have : 1000 < bigN := (by decide); simp; omega)) fun r _ hr => ?_
        · have hlt := (List.getElem?_eq_some_iff.1 hr).1
          rw [nth_replicate (by omega) (by omega)] at hi
          cases hi
        obtain ⟨tk, best, rfl, htk', hF⟩ := hr
        dsimp only
        refine tot_ifb (fun q2 => ?_) fun q2 => ?_
        · have q2 : best = T := by simpa using q2
          have hno : ∀ t, Sol n fixed t → ¬ All T rules t := fun t ht ha => by
            have := hF.no t ht ha trivial
            have := ((hI.sub t ht).1.2 ev (by omega) q).2
            omega
          refine tot_some ⟨rfl, fun t ht ha => ?_⟩
          rcases hI.ex with ⟨_, h⟩ | ⟨t', ht', ha'⟩
          · exact hno t (h t ht) ha
          · exact hno t' ht' ha'
        · have q2 : best ≠ T := by simpa using q2
          rcases hF.is with h | ⟨t, ht, ha, hte⟩
          · exact absurd h q2
          have hok := hI.sub t ht
          have hbd := hok.1.2 ev (by omega) q
          refine tot_bind' (gapp_eq (by simp; have : (1000 : Nat) ≤ apRoom := (by decide); omega) (by simp; have : (1000 : Nat) ≤ maxLen := (by decide); omega)) ?_
          refine tot_bind (between_ok hI.cl (by omega) n1 (from_ := 0) (to_ := ev) (low := best) (high := best) (by omega) (by omega) (by omega) q (by omega) (by omega) (by omega) (by omega)) fun r _ hr => ?_
          rcases hr with ⟨_, g2⟩ | ⟨c, rfl, hc, g2⟩
          · exact absurd ⟨by have := ht.z; omega, by have := ht.z; omega⟩ (g2 t ht)
          rw [w64_id (x := ev + 1) (by omega) (by omega)]
          refine tot_some ⟨⟨c, tk, times ++ [best], ev + 1, rfl, htk', hc, by omega, by omega, by simp; omega, fun t' ht' => ?_, .inr ⟨t, (g2 t).2 ⟨ht, by have := ht.z; omega, by have := ht.z; omega⟩, ha⟩, fun t' h1 h2 => ?_⟩, by show (n - (ev + 1)).toNat < (n - ev).toNat; omega⟩
          rotate_left
          · rcases hI.lex t' h1 h2 with h3 | ⟨j, j0, j1, j2, j3⟩
            · have hge := hF.no t' h3 h2 trivial
              have hz := h1.1
              by_cases e : t' ev = best
              · exact .inl ((g2 t').2 ⟨h3, by omega, by omega⟩)
              · refine .inr ⟨ev, by omega, by omega, fun i i0 i1 => ?_, ?_⟩
                · rw [(hI.sub t' h3).2 i i0 i1, nth_app i0 (by omega)]
                · rw [nth_last (by omega)]; omega
            · refine .inr ⟨j, j0, by omega, fun i i0 i1 => ?_, ?_⟩
              · rw [j2 i i0 i1, nth_app i0 (by omega)]
              · rw [nth_app j0 (by omega)]; exact j3
          obtain ⟨h1, h2, h3⟩ := (g2 t').1 ht'
          have hz := h1.z
          refine ⟨(hI.sub t' h1).1, fun i i0 i1 => ?_⟩
          by_cases e : i < ev
          · rw [(hI.sub t' h1).2 i i0 e]
            unfold nth
            rw [List.getElem?_append_left (by omega)]
          · have : i = ev := by omega
            subst this
            unfold nth
            rw [List.getElem?_append_right (by omega), show i.toNat - times.length = 0 by omega]
            show t' i = best
            omega
      · have q : ¬ ev < n := of_decide_eq_false q
        have hev : ev = n := by omega
        subst hev
        have hex : ∃ t, Sol ev fixed t ∧ All T rules t := by
          rcases hI.ex with ⟨h1, _⟩ | h
          · refine ⟨_, hI.cl.least (by omega), fun r hr => ?_⟩
            have := hp.all r hr
            have a1 := this.f0; have a2 := this.f1; have a3 := this.t0; have a4 := this.t1; have a5 := this.ne
            omega
          · exact h
        obtain ⟨t, ht, ha⟩ := hex
        have := hI.sub t ht
        refine tot_some ⟨taken, times, t, rfl, tl, ⟨this.1, ha, this.2⟩, fun t' h1 h2 => ?_⟩
        rcases hI.lex t' h1 h2 with h3 | h3
        · exact .inl (hI.sub t' h3).2
        · exact .inr h3
  · cases c with
    | go s =>
      obtain ⟨taken, times, t, rfl, h1, h2, h3⟩ := hc
      exact tot_some (.inr ⟨times, rfl, h1, ⟨t, h2⟩, h3⟩)
    | out r =>
      obtain ⟨rfl, h⟩ := hc
      exact tot_some (.inl ⟨rfl, h⟩)
end
end Pt
set_option linter.unusedVariables false
set_option linter.unusedSimpArgs false
set_option maxRecDepth 100000
namespace Pt
open Go Hk Hd Pl
theorem within_eq (a b c : Int) : fishref2_within a b c = some (decide (b ≤ a ∧ a ≤ c)) := by
  unfold fishref2_within
  by_cases h : b ≤ a
  · rw [show decide (a ≥ b) = true from decide_eq_true h, ifb_true]; simp [h]
  · rw [show decide (a ≥ b) = false from decide_eq_false h, ifb_false]; simp [h]
theorem within_eq' (a b c : Int) : plan_within a b c = some (decide (b ≤ a ∧ a ≤ c)) := within_eq a b c
def Head (p : S_plan_Periodic) : Prop := (2 ≤ p.Period ∧ p.Period ≤ 3600) ∧ 1 ≤ p.Events ∧ p.Events ≤ 8
theorem rule_tot {p : S_plan_Periodic} (hp : Head p) (i : Nat) (r : S_plan_Rule) : Tot (fishref2_PeriodicFault_b1 p i r ()) (fun c => match c with | .go _ => ROk p.Period p.Events r | .out (.go _) => False | .out (.out y) => y ≠ 0 ∧ ¬ ROk p.Period p.Events r) := by
  obtain ⟨⟨T0, T1⟩, n0, n1⟩ := hp
  unfold fishref2_PeriodicFault_b1
  rw [w64_id (x := p.Events - 1) (by omega) (by omega)]
  simp only [within_eq, Option.bind_some]
  by_cases q1 : 0 ≤ r.From ∧ r.From ≤ p.Events - 1
  · rw [decide_eq_true q1]
    simp only [Bool.not_true, ifb_false, Option.bind_some]
    by_cases q2 : 0 ≤ r.To ∧ r.To ≤ p.Events - 1
    · rw [decide_eq_true q2]
      simp only [Bool.not_true, ifb_false]
      by_cases q3 : r.From = r.To
      · rw [show (r.From == r.To) = true by simpa using q3]
        exact tot_some ⟨by decide, fun h => h.ne q3⟩
      · rw [show (r.From == r.To) = false by simpa using q3]
        simp only [ifb_false]
        by_cases q4 : 0 ≤ r.Min ∧ r.Min ≤ 3600
        · rw [decide_eq_true q4]
          simp only [Bool.not_true, ifb_false]
          by_cases q5 : r.Max < r.Min
          · rw [decide_eq_true q5]
            exact tot_some ⟨by decide, fun h => by have := h.x0; omega⟩
          · rw [decide_eq_false q5]
            simp only [ifb_false]
            rw [w64_id (x := r.Min + p.Period) (by omega) (by omega), w64_id (x := r.Min + p.Period - 1) (by omega) (by omega)]
            by_cases q6 : r.Max > r.Min + p.Period - 1
            · rw [decide_eq_true q6]
              exact tot_some ⟨by decide, fun h => by have := h.x1; omega⟩
            · rw [decide_eq_false q6]
              simp only [ifb_false]
              by_cases q7 : 0 ≤ r.Weight ∧ r.Weight ≤ 1000
              · rw [decide_eq_true q7]
                exact tot_some ⟨q1.1, by omega, q2.1, by omega, q3, q4.1, q4.2, by omega, by omega, q7.1, q7.2⟩
              · rw [decide_eq_false q7]
                exact tot_some ⟨by decide, fun h => q7 ⟨h.w0, h.w1⟩⟩
        · rw [decide_eq_false q4]
          exact tot_some ⟨by decide, fun h => q4 ⟨h.m0, h.m1⟩⟩
    · rw [decide_eq_false q2]
      exact tot_some ⟨by decide, fun h => q2 ⟨h.t0, by have := h.t1; omega⟩⟩
  · rw [decide_eq_false q1]
    exact tot_some ⟨by decide, fun h => q1 ⟨h.f0, by have := h.f1; omega⟩⟩
theorem fault_tot (p : S_plan_Periodic) : Tot (fishref2_PeriodicFault p) fun e => e = 0 ↔ POk p.Period p.Events p.Rules := by
  unfold fishref2_PeriodicFault
  refine tot_bind (P := fun c : Bool => c = false ↔ Head p) ?_ fun c _ hc => ?_
  · rw [within_eq, within_eq]
    simp only [Option.bind_some]
    by_cases q1 : 2 ≤ p.Period ∧ p.Period ≤ 3600
    · rw [decide_eq_true q1]
      simp only [Bool.not_true, ifb_false]
      refine tot_some ?_
      by_cases q2 : 1 ≤ p.Events ∧ p.Events ≤ 8
      · rw [decide_eq_true q2]; exact ⟨fun _ => ⟨q1, q2⟩, fun _ => rfl⟩
      · rw [decide_eq_false q2]; exact ⟨fun e => (by cases e), fun h => absurd h.2 q2⟩
    · rw [decide_eq_false q1]; exact tot_some ⟨fun e => (by cases e), fun h => absurd h.1 q1⟩
  refine tot_ifb (fun q => ?_) fun q => ?_
  · exact tot_some ⟨fun e => (by cases e), fun h => by rw [hc.2 ⟨⟨h.T0, h.T1⟩, h.n0, h.n1⟩] at q; cases q⟩
  have hh := hc.1 q
  refine tot_ifb (fun q => ?_) fun q => ?_
  · have q := of_decide_eq_true q
    exact tot_some ⟨fun e => (by cases e), fun h => by have := h.len; omega⟩
  have q := of_decide_eq_false q
  refine tot_allX (P := fun _ r => ROk p.Period p.Events r) (E := fun y => y ≠ 0 ∧ ¬ POk p.Period p.Events p.Rules) (fun i r hr => ?_) (fun hall => ?_) fun y hy => tot_some ⟨fun e => absurd e hy.1, fun h => absurd h hy.2⟩
  · refine tot_mono (rule_tot hh i r) fun c hc => ?_
    rcases c with _ | (_ | y)
    · exact hc
    · exact hc.elim
    · exact ⟨hc.1, fun h => hc.2 (h.all r (List.mem_of_getElem? hr))⟩
  · exact tot_some ⟨fun _ => ⟨hh.1.1, hh.1.2, hh.2.1, hh.2.2, by omega, mem_of_all hall⟩, fun _ => rfl⟩
theorem fault_ok {p : S_plan_Periodic} (hp : POk p.Period p.Events p.Rules) : fishref2_PeriodicFault p = some 0 := by
  obtain ⟨e, h1, h2⟩ := fault_tot p
  rw [h1, h2.2 hp]
theorem check_ok {p : S_plan_Periodic} (hp : POk p.Period p.Events p.Rules) : plan_CheckPeriodic p = some 0 := by
  have T0 := hp.T0; have T1 := hp.T1; have n0 := hp.n0; have n1 := hp.n1; have hl := hp.len
  refine tot_eq (?_ : Tot _ (· = (0 : Int)))
  unfold plan_CheckPeriodic
  rw [within_eq', within_eq', decide_eq_true (⟨T0, T1⟩ : 2 ≤ p.Period ∧ p.Period ≤ 3600), decide_eq_true (⟨n0, n1⟩ : 1 ≤ p.Events ∧ p.Events ≤ 8)]
  simp only [Option.bind_some, Bool.not_true, ifb_false]
  refine tot_ifb (fun q => ?_) fun _ => ?_
  · have q := of_decide_eq_true q
    omega
  refine tot_allX (P := fun _ _ => True) (E := fun _ => False) (fun i r hr => ?_) (fun _ => tot_some rfl) fun y hy => hy.elim
  have h := hp.all r (List.mem_of_getElem? hr)
  have a1 := h.f0; have a2 := h.f1; have a3 := h.t0; have a4 := h.t1; have a5 := h.m0; have a6 := h.m1; have a7 := h.x0; have a8 := h.x1; have a9 := h.w0; have a10 := h.w1
  unfold plan_CheckPeriodic_b1
  rw [w64_id (x := p.Events - 1) (by omega) (by omega), w64_id (x := r.Min + p.Period) (by omega) (by omega), w64_id (x := r.Min + p.Period - 1) (by omega) (by omega)]
  simp only [within_eq', Option.bind_some]
  rw [decide_eq_true (by omega : 0 ≤ r.From ∧ r.From ≤ p.Events - 1), decide_eq_true (by omega : 0 ≤ r.To ∧ r.To ≤ p.Events - 1), decide_eq_true (by omega : 0 ≤ r.Min ∧ r.Min ≤ 3600), decide_eq_true (by omega : r.Min ≤ r.Max ∧ r.Max ≤ r.Min + p.Period - 1), decide_eq_true (by omega : 0 ≤ r.Weight ∧ r.Weight ≤ 1000)]
  simp only [Bool.not_true, ifb_false, Option.bind_some]
  rw [show (r.From == r.To) = false by simpa using h.ne]
  exact tot_some trivial
theorem emod_uniq {a T c x : Int} (h : a = c * T + x) (h0 : 0 ≤ x) (h1 : x < T) : a % T = x := by
  rw [h, Int.add_comm, Int.add_mul_emod_self_right, Int.emod_eq_of_lt h0 h1]
def gv (T : Int) (r : S_plan_Rule) (t : Int → Int) : Int := (t r.To - t r.From - r.Min) % T
theorem gv_bd {T : Int} (hT : 1 ≤ T) (r : S_plan_Rule) (t : Int → Int) : 0 ≤ gv T r t ∧ gv T r t < T := ⟨Int.emod_nonneg _ (by omega), Int.emod_lt_of_pos _ (by omega)⟩
theorem gv_in {T n k : Int} {r : S_plan_Rule} {t : Int → Int} (hr : ROk T n r) (h : In T r k (t r.To - t r.From)) : gv T r t = t r.To - t r.From + k * T - r.Min := by
  have x1 := hr.x1
  obtain ⟨h1, h2⟩ := h
  refine emod_uniq (c := -k) ?_ (by omega) (by omega)
  rw [Int.neg_mul]; omega
theorem gv_keeps {T n : Int} {r : S_plan_Rule} {t : Int → Int} (hT : 1 ≤ T) (hr : ROk T n r) : Keeps T r t ↔ r.Min + gv T r t ≤ r.Max := by
  constructor
  · rintro ⟨k, h⟩
    rw [gv_in hr h]
    have := h.2
    omega
  · intro h
    have e := Int.mul_ediv_add_emod (t r.To - t r.From - r.Min) T
    have b := gv_bd hT r t
    refine ⟨-((t r.To - t r.From - r.Min) / T), ?_⟩
    unfold gv at h b
    have c : -((t r.To - t r.From - r.Min) / T) * T = -(T * ((t r.To - t r.From - r.Min) / T)) := by rw [Int.neg_mul, Int.mul_comm]
    unfold In
    rw [c]
    constructor <;> omega
structure Good (p : S_plan_Periodic) (ts : List Int) : Prop where
  len : (ts.length : Int) = p.Events
  bd : ∀ i, 0 ≤ i → i < p.Events → 0 ≤ nth 0 ts i ∧ nth 0 ts i ≤ p.Period - 1
section
variable {p : S_plan_Periodic} {ts : List Int}
theorem gapOf_ok (hp : POk p.Period p.Events p.Rules) {r : S_plan_Rule} (hr : r ∈ p.Rules) (hg : Good p ts) : Tot (fishref2_GapOf p r ts) fun g => g = r.Min + gv p.Period r (nth 0 ts) := by
  have T0 := hp.T0; have T1 := hp.T1; have n0 := hp.n0; have n1 := hp.n1
  have h := hp.all r hr
  have hl := hg.len
  have a1 := h.f0; have a2 := h.f1; have a3 := h.t0; have a4 := h.t1; have a5 := h.m0; have a6 := h.m1; have a7 := h.x0; have a8 := h.x1
  have c1 := hg.bd r.To a3 a4
  have c2 := hg.bd r.From a1 a2
  unfold fishref2_GapOf
  refine tot_bind' (idx_nth 0 (by omega) (by omega)) ?_
  refine tot_bind' (idx_nth 0 (by omega) (by omega)) ?_
  rw [w64_id (x := nth 0 ts r.To - nth 0 ts r.From) (by omega) (by omega)]
  refine tot_bind (P := fun c => match c with | .go s => r.Min ≤ s ∧ s ≤ 100000 ∧ ∃ m, s = (nth 0 ts r.To - nth 0 ts r.From) + m * p.Period | .out e => False) ?_ fun c _ hc => ?_
  · refine tot_iter (I := fun s => -10000 ≤ s ∧ s ≤ 100000 ∧ ∃ m, s = (nth 0 ts r.To - nth 0 ts r.From) + m * p.Period) (μ := fun s => (100000 - s).toNat) ⟨by omega, by omega, 0, by omega⟩ (by have : 1000000 < bigN := (by decide); omega) ?_
    rintro s ⟨s0, s1, m, hm⟩
    unfold fishref2_GapOf_b1
    refine tot_ifb (fun q => ?_) fun q => ?_
    · have q := of_decide_eq_true q
      rw [w64_id (x := s + p.Period) (by omega) (by omega)]
      exact tot_some ⟨⟨by omega, by omega, m + 1, by rw [Int.add_mul, Int.one_mul]; omega⟩, by omega⟩
    · have q := of_decide_eq_false q
      exact tot_some ⟨by omega, s1, m, hm⟩
  · cases c with
    | out e => exact hc.elim
    | go s =>
      obtain ⟨s0, s1, m, hm⟩ := hc
      simp only [Ctl.on]
      refine tot_bind (P := fun c => match c with | .go s => r.Min ≤ s ∧ s < r.Min + p.Period ∧ ∃ m, s = (nth 0 ts r.To - nth 0 ts r.From) + m * p.Period | .out e => False) ?_ fun c _ hc => ?_
      · refine tot_iter (I := fun s => r.Min ≤ s ∧ s ≤ 100000 ∧ ∃ m, s = (nth 0 ts r.To - nth 0 ts r.From) + m * p.Period) (μ := fun s => s.toNat) ⟨s0, s1, m, hm⟩ (by have : 1000000 < bigN := (by decide); omega) ?_
        rintro s ⟨s0, s1, m, hm⟩
        unfold fishref2_GapOf_b2
        rw [w64_id (x := r.Min + p.Period) (by omega) (by omega)]
        refine tot_ifb (fun q => ?_) fun q => ?_
        · have q := of_decide_eq_true q
          rw [w64_id (x := s - p.Period) (by omega) (by omega)]
          exact tot_some ⟨⟨by omega, by omega, m - 1, by rw [Int.sub_mul, Int.one_mul]; omega⟩, by omega⟩
        · have q := of_decide_eq_false q
          exact tot_some ⟨s0, by omega, m, hm⟩
      · cases c with
        | out e => exact hc.elim
        | go s =>
          obtain ⟨s0, s1, m, hm⟩ := hc
          refine tot_some ?_
          have : gv p.Period r (nth 0 ts) = s - r.Min := emod_uniq (c := -m) (by rw [Int.neg_mul]; omega) (by omega) (by omega)
          omega
end
end Pt
set_option linter.unusedVariables false
set_option linter.unusedSimpArgs false
set_option maxRecDepth 100000
namespace Pt
open Go Hk Hd Pl
theorem solve2_eq (T n : Int) (rules : List S_plan_Rule) : plan_solve_v2 T n rules = plan_solve ⟨T, n, rules⟩ := rfl
theorem crule_tot {p : S_plan_Periodic} (hp : Head p) (i : Nat) (r : S_plan_Rule) : Tot (plan_CheckPeriodic_b1 p i r ()) (fun c => match c with | .go _ => ROk p.Period p.Events r | .out (.go _) => False | .out (.out y) => y ≠ 0) := by
  obtain ⟨⟨T0, T1⟩, n0, n1⟩ := hp
  unfold plan_CheckPeriodic_b1
  rw [w64_id (x := p.Events - 1) (by omega) (by omega)]
  simp only [within_eq', Option.bind_some]
  by_cases q1 : 0 ≤ r.From ∧ r.From ≤ p.Events - 1
  · rw [decide_eq_true q1]
    simp only [Bool.not_true, ifb_false, Option.bind_some]
    by_cases q2 : 0 ≤ r.To ∧ r.To ≤ p.Events - 1
    · rw [decide_eq_true q2]
      simp only [Bool.not_true, ifb_false]
      by_cases q3 : r.From = r.To
      · rw [show (r.From == r.To) = true by simpa using q3]
        exact tot_some (show (1 : Int) ≠ 0 by decide)
      · rw [show (r.From == r.To) = false by simpa using q3]
        simp only [ifb_false]
        by_cases q4 : 0 ≤ r.Min ∧ r.Min ≤ 3600
        · rw [decide_eq_true q4]
          simp only [Bool.not_true, ifb_false]
          rw [w64_id (x := r.Min + p.Period) (by omega) (by omega), w64_id (x := r.Min + p.Period - 1) (by omega) (by omega)]
          by_cases q5 : r.Min ≤ r.Max ∧ r.Max ≤ r.Min + p.Period - 1
          · rw [decide_eq_true q5]
            simp only [Bool.not_true, ifb_false]
            by_cases q7 : 0 ≤ r.Weight ∧ r.Weight ≤ 1000
            · rw [decide_eq_true q7]
              exact tot_some ⟨q1.1, by omega, q2.1, by omega, q3, q4.1, q4.2, by omega, by omega, q7.1, q7.2⟩
            · rw [decide_eq_false q7]
              exact tot_some (show (2 : Int) ≠ 0 by decide)
          · rw [decide_eq_false q5]
            exact tot_some (show (2 : Int) ≠ 0 by decide)
        · rw [decide_eq_false q4]
          exact tot_some (show (2 : Int) ≠ 0 by decide)
    · rw [decide_eq_false q2]
      exact tot_some (show (3 : Int) ≠ 0 by decide)
  · rw [decide_eq_false q1]
    exact tot_some (show (3 : Int) ≠ 0 by decide)
theorem check_tot (p : S_plan_Periodic) : Tot (plan_CheckPeriodic p) fun e => e = 0 → POk p.Period p.Events p.Rules := by
  unfold plan_CheckPeriodic
  refine tot_bind (P := fun c : Bool => c = false → Head p) ?_ fun c _ hc => ?_
  · rw [within_eq', within_eq']
    simp only [Option.bind_some]
    by_cases q1 : 2 ≤ p.Period ∧ p.Period ≤ 3600
    · rw [decide_eq_true q1]
      simp only [Bool.not_true, ifb_false]
      refine tot_some ?_
      by_cases q2 : 1 ≤ p.Events ∧ p.Events ≤ 8
      · rw [decide_eq_true q2]; exact fun _ => ⟨q1, q2⟩
      · rw [decide_eq_false q2]; exact fun e => (by cases e)
    · rw [decide_eq_false q1]; exact tot_some fun e => (by cases e)
  refine tot_ifb (fun q => tot_some fun e => (by cases e)) fun q => ?_
  have hh := hc q
  refine tot_ifb (fun q => tot_some fun e => (by cases e)) fun q => ?_
  have q := of_decide_eq_false q
  refine tot_allX (P := fun _ r => ROk p.Period p.Events r) (E := fun y => y ≠ 0) (fun i r hr => tot_mono (crule_tot hh i r) fun c hc => by rcases c with _ | (_ | _) <;> exact hc) (fun hall => ?_) fun y hy => tot_some fun e => absurd e hy
  exact tot_some fun _ => ⟨hh.1.1, hh.1.2, hh.2.1, hh.2.2, by omega, mem_of_all hall⟩
theorem grow_eq {n : Int} (h0 : 0 ≤ n) (h1 : n ≤ 1000) : slices_Grow_plan_Rule_plan_Rule n = some [] := by
  unfold slices_Grow_plan_Rule_plan_Rule
  rw [decide_eq_false (show ¬ n < 0 by omega), ifb_false, w64_id (x := (0 : Int) - 0) (by omega) (by omega), w64_id (x := n - (0 - 0)) (by omega) (by omega)]
  have hg : ∀ l : List S_plan_Rule, gcut l 0 0 = some [] := fun l => by
    rw [gcut_eq (by omega) (by omega) (by omega)]; simp
  by_cases h : n - (0 - 0) > 0
  · rw [decide_eq_true h, ifb_true, hg, Option.bind_some, gmake_eq (by omega) (by unfold mkRoom; omega) (by unfold maxLen; omega), Option.bind_some, hg]; rfl
  · rw [decide_eq_false h]; rfl
theorem concat_eq {a b : List S_plan_Rule} (ha : a.length ≤ 100) (hb : b.length ≤ 100) : slices_Concat_plan_Rule_plan_Rule [a, b] = some (a ++ b) := by
  refine tot_eq ?_
  unfold slices_Concat_plan_Rule_plan_Rule
  refine tot_loopX (I := fun i s => 0 ≤ s ∧ s ≤ 100 * i) (J := fun s => 0 ≤ s ∧ s ≤ 200) (E := fun _ => False) ⟨by omega, by omega⟩ ?_ (fun s h => by simpa using h) ?_ (fun x _ => x.elim)
  · intro i x s hx hI
    have hi := (List.getElem?_eq_some_iff.1 hx).1
    simp only [List.length_cons, List.length_nil] at hi
    have hxl : x.length ≤ 100 := by
      rcases List.mem_cons.1 (List.mem_of_getElem? hx) with rfl | h
      · exact ha
      · simp only [List.mem_singleton] at h; subst h; exact hb
    unfold slices_Concat_plan_Rule_plan_Rule_b1
    rw [w64_id (by omega) (by omega), decide_eq_false (by omega)]
    exact tot_some ⟨by omega, by omega⟩
  · intro s hs
    rw [grow_eq hs.1 (by omega), Option.bind_some]
    have h1 : forX slices_Concat_plan_Rule_plan_Rule_b2 [a, b] ([] : List S_plan_Rule) = some (.go (a ++ b)) := by
      rw [forX_eq]
      unfold forC
      have e1 : slices_Concat_plan_Rule_plan_Rule_b2 0 a [] = some (.go a) := by
        unfold slices_Concat_plan_Rule_plan_Rule_b2
        rw [gapp_eq (by unfold apRoom; simp; omega) (by unfold maxLen; simp; omega)]; rfl
      have e2 : slices_Concat_plan_Rule_plan_Rule_b2 1 b a = some (.go (a ++ b)) := by
        unfold slices_Concat_plan_Rule_plan_Rule_b2
        rw [gapp_eq (by unfold apRoom; omega) (by unfold maxLen; omega)]; rfl
      simp [forO, e1, e2, Ctl.on]
      rfl
    rw [h1]
    exact tot_some rfl
def Sat (T n : Int) (rules : List S_plan_Rule) : Prop := ∃ t, Ok0 T n t ∧ All T rules t
theorem Sat.sub {T n : Int} {a b : List S_plan_Rule} (h : Sat T n a) (hs : ∀ r ∈ b, r ∈ a) : Sat T n b := let ⟨t, h1, h2⟩ := h; ⟨t, h1, fun r hr => h2 r (hs r hr)⟩
theorem solve_sat (p : S_plan_Periodic) (hp : POk p.Period p.Events p.Rules) : Tot (plan_solve p) fun r => (r = none ∧ ¬ Sat p.Period p.Events p.Rules) ∨
    ∃ l, r = some l ∧ Sat p.Period p.Events p.Rules ∧ Good p l ∧ All p.Period p.Rules (nth 0 l) := by
  refine tot_mono (solve_ok p hp) fun r hr => ?_
  rcases hr with ⟨h1, h2⟩ | ⟨l, h1, h2, ⟨t, g1, g2, g3⟩, _⟩
  · exact .inl ⟨h1, fun ⟨t, k1, k2⟩ => h2 t k1 k2⟩
  · refine .inr ⟨l, h1, ⟨t, g1, g2⟩, ⟨h2, fun i i0 i1 => by rw [← g3 i i0 i1]; exact g1.2 i i0 i1⟩, fun r hr => ?_⟩
    obtain ⟨k, hk⟩ := g2 r hr
    have h := hp.all r hr
    refine ⟨k, ?_⟩
    rw [← g3 r.To h.t0 h.t1, ← g3 r.From h.f0 h.f1]
    exact hk
theorem POk.sub {T n : Int} {a b : List S_plan_Rule} (h : POk T n a) (hl : b.length ≤ 40) (hs : ∀ r ∈ b, r ∈ a) : POk T n b := ⟨h.T0, h.T1, h.n0, h.n1, hl, fun r hr => h.all r (hs r hr)⟩
def rl (rules : List S_plan_Rule) (out : List Int) : List S_plan_Rule := out.map (nth zr rules)
structure Co (T n : Int) (rules : List S_plan_Rule) (i : Nat) (rest : List S_plan_Rule) (out : List Int) (kept : List S_plan_Rule) : Prop where
  rest_ : rest = rules.drop i
  kept_ : kept = rl rules out
  bd : ∀ j ∈ out, 0 ≤ j ∧ j < i
  srt : out.Pairwise (· < ·)
  len : out.length ≤ i
  no : ¬ Sat T n (kept ++ rest)
  yes : ∀ j ∈ out, Sat T n (rl rules (out.filter (· != j)) ++ rest)
theorem rl_mem {rules : List S_plan_Rule} {out : List Int} (h : ∀ j ∈ out, 0 ≤ j ∧ j < rules.length) : ∀ r ∈ rl rules out, r ∈ rules := fun r hr => by
  obtain ⟨j, hj, rfl⟩ := List.mem_map.1 hr
  exact nth_mem zr (h j hj).1 (h j hj).2
theorem core_tot (p : S_plan_Periodic) : Tot (plan_Core p) fun r => (r.1 ≠ 0 ∧ r.2 = []) ∨ (r.1 = 0 ∧ POk p.Period p.Events p.Rules ∧ ∃ kept, Co p.Period p.Events p.Rules p.Rules.length [] r.2 kept) := by
  unfold plan_Core
  refine tot_bind (check_tot p) fun e _ he => ?_
  refine tot_ifb (fun q => tot_some (.inl ⟨by simpa using q, rfl⟩)) fun q => ?_
  have hp := he (by simpa using q)
  have hl := hp.len
  refine tot_bind (solve_sat p hp) fun r _ hr => ?_
  rcases hr with ⟨rfl, hno⟩ | ⟨l, rfl, _⟩
  · refine tot_ifb (fun q => by cases q) fun _ => ?_
    refine tot_loopX (I := fun i s => Co p.Period p.Events p.Rules i s.1 s.2.1 s.2.2) (J := fun s => Co p.Period p.Events p.Rules p.Rules.length [] s.2.1 s.2.2) (E := fun _ => False) ⟨by simp, rfl, by simp, by simp, by simp, hno, by simp⟩ ?_ (fun s h => ?_) ?_ (fun x _ => x.elim)
    · rintro i x ⟨rest, out, kept⟩ hx hI
      have hI : Co p.Period p.Events p.Rules i rest out kept := hI
      have hi := (List.getElem?_eq_some_iff.1 hx).1
      have hn : nth zr p.Rules (i : Int) = x := nth_nat zr hx
      have hrest : rest = x :: p.Rules.drop (i + 1) := by
        rw [hI.rest_, List.drop_eq_getElem_cons hi, (List.getElem?_eq_some_iff.1 hx).2]
      have hol := hI.len
      have hkl : kept.length = out.length := by rw [hI.kept_]; simp [rl]
      unfold plan_Core_b1
      dsimp only
      have hcut : gcut rest 1 (rest.length : Int) = some (p.Rules.drop (i + 1)) := by
        rw [hrest]; exact gcut_tail
      rw [hcut, Option.bind_some, concat_eq (by omega) (by rw [List.length_drop]; omega), Option.bind_some, Option.bind_some]
      dsimp only
      rw [solve2_eq]
      have hsub : ∀ r ∈ kept ++ p.Rules.drop (i + 1), r ∈ p.Rules := fun r hr => by
        rcases List.mem_append.1 hr with hr | hr
        · rw [hI.kept_] at hr; exact rl_mem (fun j hj => by have := hI.bd j hj; omega) r hr
        · exact List.mem_of_mem_drop hr
      have hq : POk p.Period p.Events (kept ++ p.Rules.drop (i + 1)) := hp.sub (by rw [List.length_append, List.length_drop]; omega) hsub
      refine tot_bind (solve_sat ⟨p.Period, p.Events, kept ++ p.Rules.drop (i + 1)⟩ hq) fun r _ hr => ?_
      rcases hr with ⟨rfl, hno⟩ | ⟨l, rfl, hsat, _⟩
      · refine tot_ifb (fun q => by cases q) fun _ => tot_some ?_
        show Co _ _ _ (i + 1) _ _ _
        refine ⟨rfl, hI.kept_, fun j hj => by have := hI.bd j hj; omega, hI.srt, Nat.le_succ_of_le hol, hno, fun j hj => (hI.yes j hj).sub fun r hr => ?_⟩
        rw [hrest]
        rcases List.mem_append.1 hr with hr | hr
        · exact List.mem_append.2 (.inl hr)
        · exact List.mem_append.2 (.inr (List.mem_cons_of_mem _ hr))
      · refine tot_ifb (fun _ => ?_) fun q => by cases q
        rw [gapp_eq (by unfold apRoom; simp; omega) (by unfold maxLen; simp; omega), Option.bind_some, gapp_eq (by unfold apRoom; simp; omega) (by unfold maxLen; simp; omega), Option.bind_some]
        refine tot_some ?_
        show Co _ _ _ (i + 1) _ _ _
        have hkx : kept ++ [x] = rl p.Rules (out ++ [(i : Int)]) := by
          rw [hI.kept_]; unfold rl; rw [List.map_append]; simp [hn]
        refine ⟨rfl, hkx, fun j hj => ?_, ?_, by simp; omega, ?_, fun j hj => ?_⟩
        · rcases List.mem_append.1 hj with hj | hj
          · have := hI.bd j hj; omega
          · simp only [List.mem_singleton] at hj; omega
        · refine List.pairwise_append.2 ⟨hI.srt, by simp, fun a ha b hb => ?_⟩
          simp only [List.mem_singleton] at hb
          have := hI.bd a ha; omega
        · have := hI.no
          rw [hrest] at this
          simpa using this
        · rcases List.mem_append.1 hj with hj | hj
          · have := hI.yes j hj
            have hb := hI.bd j hj
            rw [hrest] at this
            refine this.sub fun r hr => ?_
            have hne : ((i : Int) != j) = true := by simp; omega
            rw [List.filter_append, List.filter_cons, hne] at hr
            simp only [rl, List.map_append, if_true, List.filter_nil, List.map_cons, List.map_nil, hn] at hr
            simpa [rl] using hr
          · simp only [List.mem_singleton] at hj
            subst hj
            have h1 : (out ++ [(i : Int)]).filter (· != (i : Int)) = out := by
              rw [List.filter_append, List.filter_eq_self.2 fun a ha => by have := hI.bd a ha; simp; omega]
              simp
            rw [h1, ← hI.kept_]
            exact hsat
    · have h : Co p.Period p.Events p.Rules p.Rules.length s.1 s.2.1 s.2.2 := h
      have : s.1 = [] := by rw [h.rest_]; simp
      rw [this] at h; exact h
    · intro s hs
      exact tot_some (.inr ⟨rfl, hp, s.2.2, hs⟩)
  · refine tot_ifb (fun _ => tot_some (.inl ⟨(by decide : (9 : Int) ≠ 0), rfl⟩)) fun q => by cases q
theorem some_eq {p : S_plan_Periodic} {out : List Int} (hb : ∀ j ∈ out, 0 ≤ j ∧ j < p.Rules.length) (hl : out.length ≤ 100) (left : Int) : fishkeep2_PlanCore_2 left (some p) (some out) = some ⟨p.Period, p.Events, rl p.Rules (out.filter (· != left))⟩ := by
  refine tot_eq ?_
  unfold fishkeep2_PlanCore_2
  simp only [Option.bind_some]
  refine tot_loopX (I := fun i s => s = rl p.Rules ((out.take i).filter (· != left))) (J := fun s => s = rl p.Rules (out.filter (· != left))) (E := fun _ => False) (by simp [rl]) ?_ (fun s h => by rw [List.take_length] at h; exact h) (fun s h => tot_some (by rw [h])) (fun x _ => x.elim)
  rintro i x s hx rfl
  have hi := (List.getElem?_eq_some_iff.1 hx).1
  have hxb := hb x (List.mem_of_getElem? hx)
  have ht : out.take (i + 1) = out.take i ++ [x] := by rw [List.take_add_one, hx]; rfl
  have hlen : (rl p.Rules ((out.take i).filter (· != left))).length ≤ 100 := by
    unfold rl; rw [List.length_map]; refine Nat.le_trans (List.length_filter_le _ _) ?_; rw [List.length_take]; omega
  unfold fishkeep2_PlanCore_2_b1
  refine tot_ifb (fun q => ?_) fun q => tot_some ?_
  · rw [Option.bind_some, idx_nth zr hxb.1 hxb.2, Option.bind_some, gapp_eq (by unfold apRoom; simp; omega) (by unfold maxLen; simp; omega), Option.bind_some]
    refine tot_some ?_
    show _ = _
    rw [ht, List.filter_append, List.filter_cons, q]
    simp [rl]
  · show _ = _
    rw [ht, List.filter_append, List.filter_cons, q]
    simp
theorem timesFault_eq {p : S_plan_Periodic} {ts : List Int} (hp : POk p.Period p.Events p.Rules) (hg : Good p ts) : fishref2_TimesFault p ts = some 0 := by
  have T0 := hp.T0; have T1 := hp.T1
  have hl := hg.len
  refine tot_eq (?_ : Tot _ (· = (0 : Int)))
  unfold fishref2_TimesFault
  refine tot_bind' (fault_ok hp) ?_
  refine tot_ifb (fun q => absurd q (by decide)) fun _ => ?_
  refine tot_ifb (fun q => ?_) fun _ => ?_
  · have q : (ts.length : Int) ≠ p.Events := by simpa using q
    omega
  refine tot_allX (P := fun _ _ => True) (E := fun _ => False) (fun i v hv => ?_) (fun _ => tot_some rfl) (fun y hy => hy.elim)
  have hi := (List.getElem?_eq_some_iff.1 hv).1
  have hbv := hg.bd i (by omega) (by omega)
  rw [nth_nat 0 hv] at hbv
  unfold fishref2_TimesFault_b1
  rw [w64_id (x := p.Period - 1) (by omega) (by omega), within_eq, decide_eq_true hbv]
  exact tot_some trivial
theorem brokenOf_eq {p : S_plan_Periodic} {ts : List Int} (hp : POk p.Period p.Events p.Rules) (hg : Good p ts) (ha : All p.Period p.Rules (nth 0 ts)) : fishref2_BrokenOf p ts = some (-1) := by
  have T0 := hp.T0
  refine tot_eq (?_ : Tot _ (· = (-1 : Int)))
  unfold fishref2_BrokenOf slices_IndexFunc_plan_Rule_plan_Rule
  refine tot_bind (P := fun k => k = -1) ?_ fun k _ hk => by subst hk; exact tot_some rfl
  refine tot_allX (P := fun _ _ => True) (E := fun _ => False) (fun i r hr => ?_) (fun _ => tot_some rfl) (fun y hy => hy.elim)
  have hrm := List.mem_of_getElem? hr
  unfold slices_IndexFunc_plan_Rule_plan_Rule_b1 fishref2_BrokenOf_1
  simp only [Option.bind_some]
  refine tot_bind (P := fun b => b = false) ?_ fun b _ hb => ?_
  · refine tot_bind (gapOf_ok hp hrm hg) fun g _ hg' => tot_some ?_
    subst hg'
    have := (gv_keeps (by omega) (hp.all r hrm)).1 (ha r hrm)
    exact decide_eq_false (by omega)
  · subst hb
    exact tot_ifb (fun q => by cases q) fun _ => tot_some trivial
theorem law (p : S_plan_Periodic) : fishkeep2_PlanCore p = some true := by
  refine tot_eq ?_
  unfold fishkeep2_PlanCore
  rw [show fishkeep2_awakePlan = some true by kernel_rfl, show fishkeep2_periods = some true by kernel_rfl]
  simp only [Option.bind_some, Bool.not_true, ifb_false]
  refine tot_bind (core_tot p) ?_
  rintro ⟨e, out⟩ _ hr
  rcases hr with ⟨h1, h2⟩ | ⟨h1, hp, kept, hc⟩
  · dsimp only at h1 h2
    subst h2
    refine tot_ifb (fun _ => tot_some rfl) fun q => absurd (by simpa using q) h1
  dsimp only at h1 hc ⊢
  subst h1
  refine tot_ifb (fun q => absurd q (by decide)) fun _ => ?_
  have hl := hp.len
  have hol := hc.len
  have hb : ∀ j ∈ out, 0 ≤ j ∧ j < p.Rules.length := fun j hj => by have := hc.bd j hj; omega
  refine tot_bind (P := fun b => b = false) ?_ fun b _ hb' => ?_
  · unfold slices_ContainsFunc_int_int slices_IndexFunc_int_int
    refine tot_bind (P := fun k => k = -1) ?_ fun k _ hk => by subst hk; exact tot_some rfl
    refine tot_allX (P := fun _ _ => True) (E := fun _ => False) (fun i r hr => ?_) (fun _ => tot_some rfl) (fun y hy => hy.elim)
    have hrb := hb r (List.mem_of_getElem? hr)
    unfold slices_IndexFunc_int_int_b1 fishkeep2_PlanCore_1
    rw [decide_eq_false (by omega), ifb_false, Option.bind_some, decide_eq_false (by omega)]
    exact tot_ifb (fun q => by cases q) fun _ => tot_some trivial
  subst hb'
  refine tot_ifb (fun q => by cases q) fun _ => ?_
  have sub : ∀ left, POk p.Period p.Events (rl p.Rules (out.filter (· != left))) := fun left => hp.sub (by
      unfold rl; rw [List.length_map]; exact Nat.le_trans (List.length_filter_le _ _) (by omega)) (rl_mem fun j hj => hb j (List.mem_filter.1 hj).1)
  rw [some_eq hb (by omega), Option.bind_some]
  have hall : out.filter (· != (-1 : Int)) = out := List.filter_eq_self.2 fun a ha => by have := hb a ha; simp; omega
  have hno := hc.no
  rw [List.append_nil, hc.kept_] at hno
  have s1 : plan_Solve_v2 ⟨p.Period, p.Events, rl p.Rules (out.filter (· != (-1 : Int)))⟩ = some ([], 9) := by
    refine tot_eq ?_
    unfold plan_Solve_v2
    refine tot_bind' (check_ok (sub (-1))) ?_
    refine tot_ifb (fun q => absurd q (by decide)) fun _ => ?_
    refine tot_bind (solve_sat _ (sub (-1))) fun r _ hr => ?_
    rcases hr with ⟨rfl, _⟩ | ⟨l, rfl, hsat, _⟩
    · exact tot_ifb (fun _ => tot_some rfl) fun q => by cases q
    · exfalso
      dsimp only at hsat
      rw [hall] at hsat
      exact hno hsat
  rw [s1, Option.bind_some]
  refine tot_ifb (fun q => absurd q (by decide)) fun _ => ?_
  refine tot_allX (P := fun _ _ => True) (E := fun _ => False) (fun i j hj => ?_) (fun _ => tot_some rfl) (fun y hy => hy.elim)
  have hsat := hc.yes j (List.mem_of_getElem? hj)
  rw [List.append_nil] at hsat
  unfold fishkeep2_PlanCore_b1
  dsimp only
  rw [some_eq hb (by omega), Option.bind_some]
  refine tot_bind (P := fun r : List Int × Int => r.2 = 0 ∧ Good ⟨p.Period, p.Events, rl p.Rules (out.filter (· != j))⟩ r.1 ∧ All p.Period (rl p.Rules (out.filter (· != j))) (nth 0 r.1)) ?_ ?_
  · unfold plan_Solve_v2
    refine tot_bind' (check_ok (sub j)) ?_
    refine tot_ifb (fun q => absurd q (by decide)) fun _ => ?_
    refine tot_bind (solve_sat _ (sub j)) fun r _ hr => ?_
    rcases hr with ⟨rfl, hn⟩ | ⟨l, rfl, _, hg, ha⟩
    · exact absurd hsat hn
    · exact tot_ifb (fun q => by cases q) fun _ => tot_some ⟨rfl, hg, ha⟩
  rintro ⟨ts, e⟩ _ ⟨he, hg, ha⟩
  dsimp only at he hg ha ⊢
  subst he
  refine tot_bind (P := fun b => b = false) ?_ fun b _ hb' => ?_
  · refine tot_ifb (fun q => absurd q (by decide)) fun _ => ?_
    rw [Option.bind_some, timesFault_eq (sub j) hg, Option.bind_some]
    refine tot_ifb (fun q => absurd q (by decide)) fun _ => ?_
    rw [Option.bind_some, brokenOf_eq (sub j) hg ha, Option.bind_some]
    exact tot_some rfl
  · subst hb'
    exact tot_ifb (fun q => by cases q) fun _ => tot_some trivial
end Pt
