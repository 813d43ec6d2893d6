/- FarePacked: the sort; what PackOf refuses. -/
import Derived.Test.YtodbddhmfecbbaaGreatDoorZP
import Derived.Test.YtodbddhmfecbbaaGreatDoorK5
set_option linter.unusedVariables false
set_option linter.unusedSimpArgs false
set_option maxRecDepth 100000
namespace Wq
open Go Hk Hd Pl Hs

theorem awake : fishkeep2_awakeFare = some true := rfl
theorem fares : fishkeep2_fares = some true := by kernel_rfl
theorem fwithin_eq (a b c : Int) : fare_within a b c = some (decide (b ≤ a ∧ a ≤ c)) := by
  unfold fare_within
  by_cases h1 : a ≥ b <;> by_cases h2 : a ≤ c <;> simp [ifb, h1, h2]
theorem rwithin_eq (a b c : Int) : fishref2_within a b c = some (decide (b ≤ a ∧ a ≤ c)) := by
  unfold fishref2_within
  by_cases h1 : a ≥ b <;> by_cases h2 : a ≤ c <;> simp [ifb, h1, h2]
def repOk (k : Nat) : Bool := match slices_Repeat_int_int [(-1)] (k : Int) with | some l => l == List.replicate k (-1) | none => false
theorem repAll : (List.range 201).all repOk = true := by kernel_rfl
theorem repeat_eq {k : Nat} (h : k ≤ 200) : slices_Repeat_int_int [(-1)] (k : Int) = some (List.replicate k (-1)) := by
  have := List.all_eq_true.1 repAll k (List.mem_range.2 (by omega))
  unfold repOk at this
  split at this
  · rename_i l hl
    rw [hl, beq_iff_eq.1 this]
  · cases this
theorem nth_some {α : Type} {z : α} {l : List α} {i : Nat} {x : α} (h : l[i]? = some x) : nth z l (i : Int) = x := by
  unfold nth; rw [Int.toNat_natCast, h]; rfl
def sz : S_fare_Span := ⟨0, 0⟩
def sp (l : List S_fare_Span) (i : Int) : S_fare_Span := nth sz l i
theorem sp_idx {l : List S_fare_Span} {i : Int} (h0 : 0 ≤ i) (h1 : i < l.length) : idx l i = some (sp l i) := idx_nth sz h0 h1
/-- spans that may be packed -/
structure Valid (l : List S_fare_Span) (seats stops : Int) : Prop where
  len : l.length ≤ 200
  seatsB : 1 ≤ seats ∧ seats ≤ 80
  stopsB : 2 ≤ stops ∧ stops ≤ 12
  each : ∀ x ∈ l, 0 ≤ x.From ∧ x.From < x.To ∧ x.To < stops
theorem Valid.sp {l : List S_fare_Span} {seats stops : Int} (h : Valid l seats stops) {i : Int} (h0 : 0 ≤ i) (h1 : i < l.length) : 0 ≤ (sp l i).From ∧ (sp l i).From < (sp l i).To ∧ (sp l i).To < stops := h.each _ (nth_mem sz h0 h1)

/-! ### the sort -/
section sort
variable (p : Option (List S_fare_Span))
theorem symMn_eq : ∀ (n : Nat) (a m b : Int) (l : List Int), slices_symMergeCmpFunc_int_n n a m b l p = symM_n (fun x y => fare_Pack_1 x y p) n a m b l
  | 0, _, _, _, _ => rfl
  | n + 1, a, m, b, l => by
    have ih : (fun a m b l => slices_symMergeCmpFunc_int_n n a m b l p) = symM_n (fun x y => fare_Pack_1 x y p) n := by funext a m b l; exact symMn_eq n a m b l
    show slices_symMergeCmpFunc_int_step (slices_symMergeCmpFunc_int_n n) a m b l p = symM_step (fun x y => fare_Pack_1 x y p) (symM_n (fun x y => fare_Pack_1 x y p) n) a m b l
    rw [← ih]
    rfl
theorem symM_eq (a m b : Int) (l : List Int) : slices_symMergeCmpFunc_int a m b l p = symM (fun x y => fare_Pack_1 x y p) a m b l := symMn_eq p bigN a m b l
theorem sort_eq (l : List Int) : slices_SortStableFunc_int_int l p = sortStable (fun x y => fare_Pack_1 x y p) l := by
  have h3 : ∀ n s, slices_stableCmpFunc_int_b3 n p s = stab_b3 (fun x y => fare_Pack_1 x y p) n s := fun n s => by
    funext t; unfold slices_stableCmpFunc_int_b3 stab_b3; rw [symM_eq]
  have h2 : ∀ n, slices_stableCmpFunc_int_b2 n p = stab_b2 (fun x y => fare_Pack_1 x y p) n := fun n => by
    funext t; unfold slices_stableCmpFunc_int_b2 stab_b2; simp only [h3, symM_eq]
  unfold slices_SortStableFunc_int_int sortStable slices_stableCmpFunc_int stab
  simp only [h2]
  rfl
end sort
theorem compare_eq (a b : Int) : cmp_Compare_int a b = some (if a < b then -1 else if a > b then 1 else 0) := by
  unfold cmp_Compare_int cmp_isNaN_int
  simp only [bne_self_eq_false, Option.bind_some, ifb_false, ifb_dec]
  split
  · rfl
  · split <;> rfl
theorem cmp_ok (l : List S_fare_Span) : CmpOk (fun x y => fare_Pack_1 x y (some l)) (fun i => 0 ≤ i ∧ i < l.length) (fun x y => (sp l x).From ≤ (sp l y).From) where
  tot a b := Int.le_total _ _
  tr a b c h1 h2 := Int.le_trans h1 h2
  ok a b ha hb := by
    refine ⟨if (sp l a).From < (sp l b).From then -1 else if (sp l a).From > (sp l b).From then 1 else 0, ?_, ?_⟩
    · unfold fare_Pack_1
      simp only [Option.bind_some, sp_idx ha.1 ha.2, sp_idx hb.1 hb.2, compare_eq]
    · by_cases h : (sp l a).From < (sp l b).From
      · rw [if_pos h]; omega
      · rw [if_neg h]
        by_cases h2 : (sp l a).From > (sp l b).From
        · rw [if_pos h2]; omega
        · rw [if_neg h2]; omega
def ints (n : Nat) : List Int := (List.range n).map fun (i : Nat) => (i : Int)
theorem ints_len (n : Nat) : (ints n).length = n := by simp [ints]
theorem ints_mem {n : Nat} {x : Int} : x ∈ ints n ↔ 0 ≤ x ∧ x < n := by
  simp only [ints, List.mem_map, List.mem_range]
  constructor
  · rintro ⟨i, h, rfl⟩; omega
  · intro h; exact ⟨x.toNat, by omega, by omega⟩
theorem ints_nodup (n : Nat) : (ints n).Nodup := by
  unfold ints
  exact List.Pairwise.map _ (fun a b h e => h (by omega)) List.nodup_range

/-! ### what PackOf says of the input -/
theorem packOf_b4 {l : List S_fare_Span} {seats : Int} {x : S_fare_Span} {s : List Int} (hl : l.length ≤ 200) (hs : 1 ≤ seats ∧ seats ≤ 80) (h1 : s.length = l.length) (h2 : ∀ y ∈ s, y < seats) :
    Tot (iter (fishref2_PackOf_b4 l x s) (0, 0)) fun c => match c with | .go n => 0 ≤ n ∧ n ≤ seats | .out _ => False := by
  refine tot_iter (I := fun t => 0 ≤ t.1 ∧ t.1 ≤ seats ∧ 0 ≤ t.2 ∧ t.2 ≤ l.length) (μ := fun t => ((seats - t.1) * 201 + (l.length - t.2)).toNat) ⟨by omega, by omega, by simp, by simp⟩ (by unfold bigN; dsimp only; omega) ?_
  rintro ⟨n, k⟩ ⟨g1, g2, g3, g4⟩
  dsimp only at g1 g2 g3 g4
  unfold fishref2_PackOf_b4
  dsimp only
  refine tot_ifb (fun hk => ?_) fun hk => tot_some ⟨g1, g2⟩
  have hk : k < l.length := of_decide_eq_true hk
  refine tot_bind (P := fun t => (t = (n + 1, -1) ∧ n < seats) ∨ t = (n, k)) ?_ fun t _ ht => ?_
  · rw [idx_nth 0 g3 (by omega), Option.bind_some]
    refine tot_bind (P := fun b => b = true → n < seats) ?_ fun b _ hb => ?_
    · refine tot_ifb (fun he => ?_) fun _ => tot_some fun h => by cases h
      have hm := h2 _ (nth_mem 0 g3 (show k < s.length by omega))
      rw [beq_iff_eq.1 he] at hm
      rw [sp_idx g3 hk, Option.bind_some, Option.bind_some]
      exact tot_ifb (fun _ => tot_some fun _ => hm) fun _ => tot_some fun _ => hm
    · refine tot_ifb (fun he => tot_some (.inl ⟨?_, hb he⟩)) fun _ => tot_some (.inr rfl)
      rw [w64_id (by omega) (by omega)]
  · rcases ht with ⟨rfl, hn⟩ | rfl
    · refine tot_some ⟨⟨?_, ?_, ?_, ?_⟩, ?_⟩
      all_goals dsimp only
      all_goals first | omega | (rw [w64_id (by omega) (by omega)]; omega)
    · refine tot_some ⟨⟨?_, ?_, ?_, ?_⟩, ?_⟩
      all_goals dsimp only
      all_goals first | omega | (rw [w64_id (by omega) (by omega)]; omega)
theorem packOf_tot (l : List S_fare_Span) (seats stops : Int) : Tot (fishref2_PackOf l seats stops) fun r => r.1 = 4 ∨ r.1 = 2 ∨ Valid l seats stops := by
  unfold fishref2_PackOf
  refine tot_ifb (fun _ => tot_some (.inl rfl)) fun h0 => ?_
  have h0 : ¬ ((l.length : Int) > 200) := of_decide_eq_false h0
  refine tot_bind (P := fun b => b = false → (1 ≤ seats ∧ seats ≤ 80) ∧ (2 ≤ stops ∧ stops ≤ 12)) ?_ fun b _ hb => ?_
  · rw [rwithin_eq, Option.bind_some]
    refine tot_ifb (fun _ => tot_some fun h => by cases h) fun h1 => ?_
    simp only [Bool.not_eq_false', decide_eq_true_eq] at h1
    rw [rwithin_eq, Option.bind_some]
    refine tot_some fun h2 => ?_
    simp only [Bool.not_eq_false', decide_eq_true_eq] at h2
    exact ⟨h1, h2⟩
  refine tot_ifb (fun _ => tot_some (.inr (.inl rfl))) fun hf => ?_
  obtain ⟨h1, h2⟩ := hb hf
  refine tot_allX (P := fun _ x => 0 ≤ x.From ∧ x.From < x.To ∧ x.To < stops) (E := fun r => r.1 = 2) (fun i x hx => ?_) (fun h3 => ?_) (fun y hy => tot_some (.inr (.inl hy)))
  · unfold fishref2_PackOf_b1
    refine tot_bind (P := fun b => b = false → 0 ≤ x.From ∧ x.From < x.To ∧ x.To < stops) ?_ fun b _ hb => ?_
    · refine tot_ifb (fun _ => tot_some fun h => by cases h) fun k1 => tot_ifb (fun _ => tot_some fun h => by cases h) fun k2 => tot_some fun k3 => ?_
      have k1 : ¬ x.From < 0 := of_decide_eq_false k1
      have k2 : ¬ x.From ≥ x.To := of_decide_eq_false k2
      have k3 : ¬ x.To ≥ stops := of_decide_eq_false k3
      omega
    · exact tot_ifb (fun _ => tot_some rfl) fun hf => tot_some (hb hf)
  · have hv : Valid l seats stops := ⟨by omega, h1, h2, mem_of_all h3⟩
    rw [repeat_eq (by omega), Option.bind_some, glim_eq (by omega), Option.bind_some]
    refine tot_loopN (I := fun _ s => s.length = l.length ∧ ∀ y ∈ s, y < seats) (J := fun _ => True) (E := fun _ => True) ⟨by simp, fun y hy => ?_⟩ ?_ (fun _ _ => trivial) (fun s _ => tot_some (.inr (.inr hv))) (fun _ _ => tot_some (.inr (.inr hv)))
    · have := List.eq_of_mem_replicate hy; omega
    · intro i s hi hI
      unfold fishref2_PackOf_b2
      refine tot_loopX (I := fun _ s => s.length = l.length ∧ ∀ y ∈ s, y < seats) (J := fun s => s.length = l.length ∧ ∀ y ∈ s, y < seats) (E := fun _ => True) hI ?_ (fun s h => h) (fun s h => tot_some h) (fun _ _ => tot_some trivial)
      intro j x s hx hI
      unfold fishref2_PackOf_b3
      refine tot_ifb (fun _ => tot_some hI) fun _ => ?_
      refine tot_bind (packOf_b4 (by omega) h1 hI.1 hI.2) fun c _ hc => ?_
      cases c with
      | out _ => exact hc.elim
      | go n =>
        refine tot_ifb (fun _ => tot_some trivial) fun hn => ?_
        have hn : ¬ n ≥ seats := of_decide_eq_false hn
        have hj := (List.getElem?_eq_some_iff.1 hx).1
        rw [idx_nth 0 (by omega) (by rw [hI.1]; omega), Option.bind_some]
        refine tot_some ⟨by rw [setI_length]; exact hI.1, fun y hy => ?_⟩
        rcases List.mem_or_eq_of_mem_set hy with hy | hy
        · exact hI.2 y hy
        · omega
end Wq

/- FarePacked: what Pack gives. -/
set_option linter.unusedVariables false
set_option linter.unusedSimpArgs false
set_option maxRecDepth 100000
namespace Wq
open Go Hk Hd Pl Hs

/-- span j is on its way at k -/
def Cov (l : List S_fare_Span) (j k : Int) : Prop := (sp l j).From ≤ k ∧ k < (sp l j).To
/-- the seats of the spans of D: 'unt' tells when each is free -/
structure Pk (l : List S_fare_Span) (seats : Int) (D : List Int) (unt out : List Int) : Prop where
  ul : (unt.length : Int) = seats
  ol : out.length = l.length
  seat : ∀ j ∈ D, 0 ≤ nth 0 out j ∧ nth 0 out j < seats ∧ (sp l j).To ≤ nth 0 unt (nth 0 out j)
  busy : ∀ s, 0 ≤ s → s < seats → nth 0 unt s = 0 ∨ ∃ j ∈ D, nth 0 out j = s ∧ nth 0 unt s = (sp l j).To
  apart : ∀ j ∈ D, ∀ i ∈ D, j ≠ i → nth 0 out j = nth 0 out i → (sp l j).To ≤ (sp l i).From ∨ (sp l i).To ≤ (sp l j).From
  low : ∀ j ∈ D, ∀ s, 0 ≤ s → s < nth 0 out j → ∃ i ∈ D, nth 0 out i = s ∧ Cov l i (sp l j).From
theorem index_tot (l : List S_fare_Span) (unt : List Int) {x : Int} (h0 : 0 ≤ x) (h1 : x < l.length) : Tot (slices_IndexFunc_int_int unt (some l) (some x)) fun r => (r = -1 ∧ ∀ s : Int, 0 ≤ s → s < unt.length → (sp l x).From < nth 0 unt s) ∨
    (0 ≤ r ∧ r < unt.length ∧ nth 0 unt r ≤ (sp l x).From ∧ ∀ s, 0 ≤ s → s < r → (sp l x).From < nth 0 unt s) := by
  unfold slices_IndexFunc_int_int
  refine tot_loopX (I := fun i _ => ∀ s : Int, 0 ≤ s → s < i → (sp l x).From < nth 0 unt s) (J := fun _ => ∀ s : Int, 0 ≤ s → s < unt.length → (sp l x).From < nth 0 unt s)
    (E := fun r => 0 ≤ r ∧ r < unt.length ∧ nth 0 unt r ≤ (sp l x).From ∧ ∀ s, 0 ≤ s → s < r → (sp l x).From < nth 0 unt s) (fun s a b => by omega) ?_ (fun _ h => h) (fun _ h => tot_some (.inl ⟨rfl, h⟩)) (fun r h => tot_some (.inr h))
  intro i y s hy hI
  have hi := (List.getElem?_eq_some_iff.1 hy).1
  have hn : nth 0 unt (i : Int) = y := nth_some hy
  unfold slices_IndexFunc_int_int_b1 fare_Pack_2
  rw [Option.bind_some, Option.bind_some, sp_idx h0 h1, Option.bind_some, Option.bind_some]
  refine tot_ifb (fun h => tot_some ?_) fun h => tot_some ?_
  · have h : y ≤ (sp l x).From := of_decide_eq_true h
    exact ⟨by omega, by omega, by rw [hn]; exact h, hI⟩
  · have h : ¬ y ≤ (sp l x).From := of_decide_eq_false h
    intro t a b
    by_cases e : t = i
    · subst e; rw [hn]; omega
    · exact hI t a (by omega)
theorem Pk.step {l : List S_fare_Span} {seats stops : Int} {D unt out : List Int} (hv : Valid l seats stops) (h : Pk l seats D unt out) {x r : Int} (h0 : 0 ≤ x) (h1 : x < l.length) (hD : ∀ j ∈ D, 0 ≤ j ∧ j < l.length ∧ (sp l j).From ≤ (sp l x).From) (hx : x ∉ D)
    (r0 : 0 ≤ r) (r1 : r < seats) (hr : nth 0 unt r ≤ (sp l x).From) (hlow : ∀ s, 0 ≤ s → s < r → (sp l x).From < nth 0 unt s) : Pk l seats (D ++ [x]) (setI unt r (sp l x).To) (setI out x r) := by
  have ul := h.ul
  have ol := h.ol
  have vx := hv.sp h0 h1
  have ox : nth 0 (setI out x r) x = r := nth_setI_self 0 h0 (by omega)
  have oo : ∀ j ∈ D, nth 0 (setI out x r) j = nth 0 out j := fun j hj => nth_setI_ne 0 h0 (hD j hj).1 fun e => hx (e ▸ hj)
  have ur : nth 0 (setI unt r (sp l x).To) r = (sp l x).To := nth_setI_self 0 r0 (by omega)
  have uo : ∀ s, 0 ≤ s → s ≠ r → nth 0 (setI unt r (sp l x).To) s = nth 0 unt s := fun s a b => nth_setI_ne 0 r0 a b
  have mem : ∀ j, j ∈ D ++ [x] ↔ j ∈ D ∨ j = x := fun j => by simp
  refine ⟨by rw [setI_length]; exact ul, by rw [setI_length]; exact ol, fun j hj => ?_, fun s a b => ?_, fun j hj i hi hji he => ?_, fun j hj s a b => ?_⟩
  · rcases (mem j).1 hj with hj | rfl
    · obtain ⟨a, b, c⟩ := h.seat j hj
      rw [oo j hj]
      refine ⟨a, b, ?_⟩
      by_cases e : nth 0 out j = r
      · rw [e, ur]; rw [e] at c; omega
      · rw [uo _ a e]; exact c
    · rw [ox, ur]; exact ⟨r0, r1, by omega⟩
  · by_cases e : s = r
    · subst e; exact .inr ⟨x, by simp, ox, ur⟩
    · rw [uo s a e]
      rcases h.busy s a b with g | ⟨j, hj, g1, g2⟩
      · exact .inl g
      · exact .inr ⟨j, by simp [hj], by rw [oo j hj]; exact g1, g2⟩
  · rcases (mem j).1 hj with gj | gj <;> rcases (mem i).1 hi with gi | gi
    · rw [oo j gj, oo i gi] at he
      exact h.apart j gj i gi hji he
    · subst gi
      rw [oo j gj, ox] at he
      obtain ⟨a, b, c⟩ := h.seat j gj
      rw [he] at c
      exact .inl (by omega)
    · subst gj
      rw [oo i gi, ox] at he
      obtain ⟨a, b, c⟩ := h.seat i gi
      rw [← he] at c
      exact .inr (by omega)
    · exact absurd (gj.trans gi.symm) hji
  · rcases (mem j).1 hj with hj | rfl
    · rw [oo j hj] at b
      obtain ⟨i, hi, g1, g2⟩ := h.low j hj s a b
      exact ⟨i, by simp [hi], by rw [oo i hi]; exact g1, g2⟩
    · rw [ox] at b
      have hb := hlow s a b
      rcases h.busy s a (by omega) with g | ⟨i, hi, g1, g2⟩
      · omega
      · exact ⟨i, by simp [hi], by rw [oo i hi]; exact g1, (hD i hi).2.2, by omega⟩
theorem pick {p : Int → Prop} {R : Int → Int → Prop} (h : ∀ s, p s → ∃ j, R s j) : ∃ f : Int → Int, ∀ s, p s → R s (f s) := by
  classical
  refine ⟨fun s => if hs : p s then (h s hs).choose else 0, fun s hs => ?_⟩
  simp only [dif_pos hs]
  exact (h s hs).choose_spec
/-- each seat is taken at some time, and one more span comes -/
def Full (l : List S_fare_Span) (seats : Int) : Prop := ∃ x : Int, 0 ≤ x ∧ x < l.length ∧ ∃ f : Int → Int, ∀ s, 0 ≤ s → s < seats → 0 ≤ f s ∧ f s < l.length ∧ f s ≠ x ∧ Cov l (f s) (sp l x).From ∧ ∀ t, 0 ≤ t → t < seats → f s = f t → s = t
theorem pack_tot {l : List S_fare_Span} {seats stops : Int} (hv : Valid l seats stops) : Tot (fare_Pack l seats stops) fun r => (r = (14, []) ∧ Full l seats) ∨ (r.1 = 0 ∧ ∃ unt, Pk l seats (ints l.length) unt r.2) := by
  have hl := hv.len
  have hs := hv.seatsB
  have ht := hv.stopsB
  unfold fare_Pack
  refine tot_ifb (fun h => absurd (of_decide_eq_true h) (by omega)) fun _ => ?_
  refine tot_bind (P := fun b => b = false) ?_ fun b _ hb => ?_
  · rw [fwithin_eq, Option.bind_some, decide_eq_true hs]
    refine tot_ifb (fun hc => by cases hc) fun _ => ?_
    rw [fwithin_eq, Option.bind_some, decide_eq_true ht]
    exact tot_some rfl
  subst hb
  refine tot_ifb (fun hc => by cases hc) fun _ => ?_
  rw [gmake_eq (by omega) (by unfold mkRoom; omega) (by unfold maxLen; omega), Option.bind_some]
  refine tot_loopX (I := fun i s => s.length = l.length ∧ ∀ k : Nat, k < i → nth 0 s (k : Int) = k) (J := fun s => s = ints l.length) (E := fun _ => False) ⟨by simp, fun k h => by omega⟩ ?_ ?_ ?_ (fun _ h => h.elim)
  · intro i x s hx hI
    have hi := (List.getElem?_eq_some_iff.1 hx).1
    have hb := hv.each x (List.mem_of_getElem? hx)
    unfold fare_Pack_b1 fare_span
    rw [decide_eq_true (show x.From ≥ 0 from hb.1), ifb_true, decide_eq_true hb.2.1, ifb_true, Option.bind_some, Option.bind_some, decide_eq_true hb.2.2]
    refine tot_ifb (fun hc => by cases hc) fun _ => ?_
    rw [idx_nth 0 (by omega) (by rw [hI.1]; omega), Option.bind_some]
    refine tot_some ⟨by rw [setI_length]; exact hI.1, fun k hk => ?_⟩
    rw [nth_setI 0 (by omega) (by omega) (by rw [hI.1]; omega)]
    by_cases e : k = i
    · subst e; rw [if_pos rfl]
    · rw [if_neg (by omega)]; exact hI.2 k (by omega)
  · rintro s ⟨h1, h2⟩
    refine List.ext_getElem (by rw [ints_len, h1]) fun i a b => ?_
    have := h2 i (by omega)
    rw [nth_get 0 a] at this
    simp [ints, this]
  rintro s rfl
  rw [sort_eq]
  refine tot_bind (sortStable_ok (cmp_ok l) (l := ints l.length) (by rw [ints_len]; omega) (fun x hx => ints_mem.1 hx)) fun d _ ⟨hd1, hd2⟩ => ?_
  rw [gmake_eq (by omega) (by unfold mkRoom; omega) (by unfold maxLen; omega), Option.bind_some, Option.bind_some]
  have hdn : d.Nodup := hd1.nodup_iff.2 (ints_nodup _)
  have hdm : ∀ x, x ∈ d ↔ 0 ≤ x ∧ x < l.length := fun x => by rw [hd1.mem_iff, ints_mem]
  refine tot_loopX (I := fun i s => Pk l seats (d.take i) s.1 s.2) (J := fun s => Pk l seats d s.1 s.2) (E := fun r => r = (14, []) ∧ Full l seats) ?_ ?_ ?_ ?_ ?_
  · refine ⟨by simp; omega, by simp, by simp, fun s a b => .inl ?_, by simp, by simp⟩
    exact nth_replicate a (by omega)
  · rintro i x ⟨unt, out⟩ hx hI
    have hI : Pk l seats (d.take i) unt out := hI
    have hi := (List.getElem?_eq_some_iff.1 hx).1
    have hxe := (List.getElem?_eq_some_iff.1 hx).2
    obtain ⟨x0, x1⟩ := (hdm x).1 (List.mem_of_getElem? hx)
    have ul := hI.ul
    have before : ∀ j ∈ d.take i, 0 ≤ j ∧ j < l.length ∧ (sp l j).From ≤ (sp l x).From ∧ j ≠ x := fun j hj => by
      obtain ⟨k, hk⟩ := List.getElem?_of_mem hj
      rw [List.getElem?_take] at hk
      split at hk
      · rename_i hki
        obtain ⟨a1, a2⟩ := List.getElem?_eq_some_iff.1 hk
        have h1 := List.pairwise_iff_getElem.1 hd2 k i a1 hi hki
        have h2 := List.pairwise_iff_getElem.1 hdn k i a1 hi hki
        rw [a2, hxe] at h1 h2
        obtain ⟨c1, c2⟩ := (hdm j).1 (List.mem_of_getElem? hk)
        exact ⟨c1, c2, h1, h2⟩
      · cases hk
    unfold fare_Pack_b2
    dsimp only
    refine tot_bind (index_tot l unt x0 x1) fun r _ hr => ?_
    rcases hr with ⟨rfl, hr⟩ | ⟨r0, r1, r2, r3⟩
    · refine tot_ifb (fun _ => tot_some ?_) fun hc => absurd hc (by decide)
      refine ⟨rfl, x, x0, x1, ?_⟩
      have key : ∀ s, 0 ≤ s ∧ s < seats → ∃ j ∈ d.take i, nth 0 out j = s ∧ Cov l j (sp l x).From := fun s ⟨a, b⟩ => by
        have := hr s a (by omega)
        rcases hI.busy s a b with g | ⟨j, hj, g1, g2⟩
        · have := hv.sp x0 x1; omega
        · exact ⟨j, hj, g1, (before j hj).2.2.1, by omega⟩
      obtain ⟨f, hf⟩ := pick key
      refine ⟨f, fun s a b => ?_⟩
      obtain ⟨f1, f2, f3⟩ := hf s ⟨a, b⟩
      have bs := before _ f1
      refine ⟨bs.1, bs.2.1, bs.2.2.2, f3, fun t c e he => ?_⟩
      obtain ⟨_, g2, _⟩ := hf t ⟨c, e⟩
      rw [← f2, ← g2, he]
    · refine tot_ifb (fun hc => absurd (of_decide_eq_true hc) (by omega)) fun _ => ?_
      rw [sp_idx x0 x1, Option.bind_some, idx_nth 0 r0 r1, Option.bind_some, idx_nth 0 x0 (by rw [hI.ol]; exact x1), Option.bind_some]
      refine tot_some ?_
      show Pk l seats (d.take (i + 1)) _ _
      rw [List.take_add_one, hx]
      exact hI.step hv x0 x1 (fun j hj => ⟨(before j hj).1, (before j hj).2.1, (before j hj).2.2.1⟩) (fun hm => (before x hm).2.2.2 rfl) r0 (by omega) r2 r3
  · intro s hI; rw [List.take_length] at hI; exact hI
  · rintro ⟨unt, out⟩ h
    have h : Pk l seats d unt out := h
    refine tot_some (.inr ⟨rfl, unt, ?_⟩)
    have mem : ∀ x, x ∈ ints l.length ↔ x ∈ d := fun x => by rw [ints_mem, hdm]
    exact ⟨h.ul, h.ol, fun j hj => h.seat j ((mem j).1 hj), fun s a b => (h.busy s a b).imp id fun ⟨j, hj, g⟩ => ⟨j, (mem j).2 hj, g⟩,
      fun j hj i hi => h.apart j ((mem j).1 hj) i ((mem i).1 hi), fun j hj s a b => let ⟨i, hi, g⟩ := h.low j ((mem j).1 hj) s a b; ⟨i, (mem i).2 hi, g⟩⟩
  · rintro r ⟨rfl, h⟩
    exact tot_some (.inl ⟨rfl, h⟩)
end Wq

/- FarePacked: the law. -/
set_option linter.unusedVariables false
set_option linter.unusedSimpArgs false
set_option maxRecDepth 100000
namespace Wq
open Go Hk Hd Pl Hs

instance (l : List S_fare_Span) (j k : Int) : Decidable (Cov l j k) := by unfold Cov; infer_instance
/-- those that are on their way at k -/
def C (l : List S_fare_Span) (k : Int) : List Int := (ints l.length).filter fun j => decide (Cov l j k)
theorem mem_C {l : List S_fare_Span} {k j : Int} : j ∈ C l k ↔ (0 ≤ j ∧ j < l.length) ∧ Cov l j k := by
  unfold C; rw [List.mem_filter, ints_mem, decide_eq_true_eq]
theorem C_nodup (l : List S_fare_Span) (k : Int) : (C l k).Nodup := List.Pairwise.filter _ (ints_nodup _)
theorem sub_len {α : Type} [DecidableEq α] : ∀ {l m : List α}, l.Nodup → (∀ x ∈ l, x ∈ m) → l.length ≤ m.length
  | [], m, _, _ => Nat.zero_le _
  | x :: l, m, hn, h => by
    obtain ⟨h1, h2⟩ := List.nodup_cons.1 hn
    have hx := h x (by simp)
    have := sub_len (l := l) (m := m.erase x) h2 fun y hy => (List.mem_erase_of_ne (fun e : y = x => h1 (e ▸ hy))).2 (h y (by simp [hy]))
    rw [List.length_erase_of_mem hx] at this
    have := List.length_pos_of_mem hx
    simp only [List.length_cons]
    omega
theorem map_nodup {α β : Type} {f : α → β} : ∀ {l : List α}, l.Nodup → (∀ x ∈ l, ∀ y ∈ l, x ≠ y → f x ≠ f y) → (l.map f).Nodup
  | [], _, _ => by simp
  | a :: l, hn, h => by
    obtain ⟨h1, h2⟩ := List.nodup_cons.1 hn
    rw [List.map_cons, List.nodup_cons]
    refine ⟨fun hm => ?_, map_nodup h2 fun x hx y hy => h x (by simp [hx]) y (by simp [hy])⟩
    obtain ⟨y, hy, he⟩ := List.mem_map.1 hm
    exact h a (by simp) y (by simp [hy]) (fun e => h1 (e ▸ hy)) he.symm
/-- the spans at one time have seats of their own -/
theorem few {l : List S_fare_Span} {seats : Int} {unt out : List Int} (h : Pk l seats (ints l.length) unt out) {k : Int} {m : Nat} (hm : ∀ j ∈ C l k, nth 0 out j < m) : (C l k).length ≤ m := by
  have hn : ((C l k).map fun j => nth 0 out j).Nodup := map_nodup (C_nodup l k) fun x hx y hy hxy he => by
    obtain ⟨a, c⟩ := mem_C.1 hx
    obtain ⟨b, d⟩ := mem_C.1 hy
    have := h.apart x (ints_mem.2 a) y (ints_mem.2 b) hxy he
    unfold Cov at c d
    omega
  have := sub_len hn (m := ints m) fun s hs => by
    obtain ⟨j, hj, rfl⟩ := List.mem_map.1 hs
    exact ints_mem.2 ⟨(h.seat j (ints_mem.2 (mem_C.1 hj).1)).1, hm j hj⟩
  rw [ints_len, List.length_map] at this
  exact this
theorem many {l : List S_fare_Span} {k : Int} {m : Nat} {f : Int → Int} (hf : ∀ s : Int, 0 ≤ s → s < m → f s ∈ C l k) (hi : ∀ s t : Int, 0 ≤ s → s < m → 0 ≤ t → t < m → f s = f t → s = t) {x : Int} (hx : x ∈ C l k) (hxf : ∀ s : Int, 0 ≤ s → s < m → f s ≠ x) : m + 1 ≤ (C l k).length := by
  have hn : (x :: (ints m).map f).Nodup := by
    rw [List.nodup_cons]
    refine ⟨fun hm => ?_, map_nodup (ints_nodup m) fun a ha b hb hab he => hab (hi a b (ints_mem.1 ha).1 (ints_mem.1 ha).2 (ints_mem.1 hb).1 (ints_mem.1 hb).2 he)⟩
    obtain ⟨s, hs, he⟩ := List.mem_map.1 hm
    exact hxf s (ints_mem.1 hs).1 (ints_mem.1 hs).2 he
  have := sub_len hn (m := C l k) fun y hy => by
    rcases List.mem_cons.1 hy with rfl | hy
    · exact hx
    · obtain ⟨s, hs, rfl⟩ := List.mem_map.1 hy
      exact hf s (ints_mem.1 hs).1 (ints_mem.1 hs).2
  simpa [ints_len] using this
/-- the greatest load -/
structure Load (l : List S_fare_Span) (stops : Int) (m : Int) : Prop where
  nn : 0 ≤ m
  le : ∀ k : Int, 0 ≤ k → k < stops → ((C l k).length : Int) ≤ m
  is : m = 0 ∨ ∃ k : Int, 0 ≤ k ∧ k < stops ∧ ((C l k).length : Int) = m
theorem C_take (l : List S_fare_Span) (k : Int) {i : Nat} {x : S_fare_Span} (h : l[i]? = some x) :
    (((ints (i + 1)).filter fun j => decide (Cov l j k)).length : Int) = ((ints i).filter fun j => decide (Cov l j k)).length + if x.From ≤ k ∧ k < x.To then 1 else 0 := by
  have he : sp l (i : Int) = x := nth_some h
  have : ints (i + 1) = ints i ++ [(i : Int)] := by unfold ints; rw [List.range_succ]; simp
  rw [this, List.filter_append, List.length_append]
  unfold Cov
  by_cases hc : x.From ≤ k ∧ k < x.To
  · rw [if_pos hc]
    simp [he, hc]
  · rw [if_neg hc]
    have : ¬ ((sp l (i : Int)).From ≤ k ∧ k < (sp l (i : Int)).To) := by rw [he]; exact hc
    simp only [List.filter_cons, decide_eq_false this, Bool.false_eq_true, if_false, List.filter_nil, List.length_nil]
    omega
theorem count_tot {l : List S_fare_Span} (hl : l.length ≤ 200) (k : Nat) (s : Int) : Tot (fishkeep2_FarePacked_b1 l k s) fun c => c = .go (max s ((C l k).length : Int)) := by
  unfold fishkeep2_FarePacked_b1
  refine tot_loopX (I := fun i s => s = (((ints i).filter fun j => decide (Cov l j k)).length : Int)) (J := fun s => s = ((C l k).length : Int)) (E := fun _ => False) (by simp [ints]) ?_ (fun s h => h) (fun c hc => tot_some (by rw [hc, gmax_eq])) (fun _ h => h.elim)
  rintro i x s hx rfl
  have hi := (List.getElem?_eq_some_iff.1 hx).1
  have hc := C_take l k hx
  have hb : ((ints i).filter fun j => decide (Cov l j k)).length ≤ i := Nat.le_trans (List.length_filter_le _ _) (by rw [ints_len]; exact Nat.le_refl _)
  unfold fishkeep2_FarePacked_b2
  refine tot_bind (P := fun b => b = true ↔ (x.From ≤ k ∧ k < x.To)) ?_ fun b _ hb' => ?_
  · refine tot_ifb (fun h => tot_some ?_) fun h => tot_some ?_
    · have h := of_decide_eq_true h; simp [h]
    · have h := of_decide_eq_false h; simp; omega
  · refine tot_ifb (fun h => tot_some ?_) fun h => tot_some ?_
    · have h := hb'.1 h
      show _ = _
      rw [hc, if_pos h, w64_id (by omega) (by omega)]
    · have h : ¬ (x.From ≤ k ∧ k < x.To) := fun g => by rw [hb'.2 g] at h; cases h
      show _ = _
      rw [hc, if_neg h]; omega
theorem max_tot {xs : List Int} (h : 0 < xs.length) (h2 : xs.length ≤ 1000) : Tot (slices_Max_int_int xs) fun m => m ∈ xs ∧ ∀ x ∈ xs, x ≤ m := by
  unfold slices_Max_int_int
  refine tot_ifb (fun hc => absurd (of_decide_eq_true hc) (by omega)) fun _ => ?_
  rw [idx_nth 0 (by omega) (by omega), Option.bind_some]
  refine tot_bind (tot_iter (E := fun c => match c with | .go m => m ∈ xs ∧ ∀ x ∈ xs, x ≤ m | .out _ => False) (I := fun s => 1 ≤ s.2 ∧ s.2 ≤ xs.length ∧ s.1 ∈ xs ∧ ∀ x ∈ xs.take s.2.toNat, x ≤ s.1) (μ := fun s => (xs.length - s.2).toNat) ⟨by simp, by simp; omega, nth_mem 0 (by omega) (by omega), ?_⟩ (by unfold bigN; dsimp only; omega) ?_) fun c _ hc => ?_
  · intro x hx
    dsimp only at hx
    cases xs with
    | nil => simp at h
    | cons a xs => simp at hx; subst hx; simp [nth]
  · rintro ⟨m, k⟩ ⟨g1, g2, g3, g4⟩
    dsimp only at g1 g2 g3 g4
    unfold slices_Max_int_int_b1
    dsimp only
    refine tot_ifb (fun hk => ?_) fun hk => tot_some ⟨g3, fun x hx => g4 x ?_⟩
    · have hk : k < xs.length := of_decide_eq_true hk
      rw [idx_nth 0 (by omega) hk, Option.bind_some]
      have hw : w64 (k + 1) = k + 1 := w64_id (by omega) (by omega)
      refine tot_some ⟨⟨?_, ?_, ?_, ?_⟩, ?_⟩
      · dsimp only; rw [hw]; omega
      · dsimp only; rw [hw]; omega
      · show gmax m (nth 0 xs k) ∈ xs
        rw [gmax_eq]
        by_cases hmk : m ≤ nth 0 xs k
        · rw [Int.max_eq_right hmk]; exact nth_mem 0 (by omega) hk
        · rw [Int.max_eq_left (by omega)]; exact g3
      · show ∀ x ∈ xs.take (w64 (k + 1)).toNat, x ≤ gmax m (nth 0 xs k)
        intro x hx
        rw [hw, show (k + 1).toNat = k.toNat + 1 from by omega, List.take_add_one] at hx
        rw [gmax_eq]
        rcases List.mem_append.1 hx with hx | hx
        · have := g4 x hx; omega
        · have he : xs[k.toNat]? = some (nth 0 xs k) := by
            unfold nth; rw [List.getElem?_eq_getElem (by omega)]; rfl
          rw [he] at hx
          simp at hx
          omega
      · dsimp only; rw [hw]; omega
    · have hk : ¬ k < xs.length := of_decide_eq_false hk
      rw [List.take_of_length_le (by omega)]
      exact hx
  · cases c with
    | go m => exact tot_some hc
    | out _ => exact hc.elim
theorem law (l : List S_fare_Span) (seats stops : Int) : fishkeep2_FarePacked l seats stops = some true := by
  refine tot_eq ?_
  unfold fishkeep2_FarePacked
  rw [awake, Option.bind_some, fares, Option.bind_some]
  refine tot_ifb (fun hc => by cases hc) fun _ => tot_ifb (fun hc => by cases hc) fun _ => ?_
  refine tot_bind (packOf_tot l seats stops) fun r _ hr => ?_
  refine tot_bind (P := fun b => b = false → Valid l seats stops) ?_ fun b _ hb => ?_
  · refine tot_ifb (fun _ => tot_some fun h => by cases h) fun h4 => tot_some fun h2 => ?_
    rcases hr with h | h | h
    · rw [h] at h4; cases h4
    · rw [h] at h2; cases h2
    · exact h
  refine tot_ifb (fun _ => tot_some rfl) fun hf => ?_
  have hv := hb hf
  have hl := hv.len
  have hs := hv.seatsB
  have ht := hv.stopsB
  rw [glim_eq (by omega), Option.bind_some]
  refine tot_loopN (I := fun i s => Load l i s) (J := fun s => Load l stops s) (E := fun _ => False) ⟨by omega, fun k a b => by omega, .inl rfl⟩ ?_ (fun s h => by rw [Int.toNat_of_nonneg (by omega)] at h; exact h) ?_ (fun _ h => h.elim)
  · intro i s hi hI
    refine tot_mono (count_tot hl i s) fun c hc => ?_
    subst hc
    refine ⟨by have := hI.nn; omega, fun k a b => ?_, ?_⟩
    · by_cases e : k = i
      · subst e; omega
      · have := hI.le k a (by omega); omega
    · have hi0 := hI.nn
      by_cases hc : s ≤ ((C l i).length : Int)
      · exact .inr ⟨i, by omega, by omega, by omega⟩
      · rcases hI.is with h | ⟨k, a, b, c⟩
        · omega
        · exact .inr ⟨k, a, by omega, by omega⟩
  intro load hload
  have hnn := hload.nn
  refine tot_bind (pack_tot hv) fun r _ hr => ?_
  rcases hr with ⟨rfl, x, x0, x1, f, hf⟩ | ⟨hr0, unt, hp⟩
  · -- no seat is left
    have vx := hv.sp x0 x1
    have := many (l := l) (k := (sp l x).From) (m := seats.toNat) (f := f) (fun s a b => mem_C.2 ⟨⟨(hf s a (by omega)).1, (hf s a (by omega)).2.1⟩, (hf s a (by omega)).2.2.2.1⟩)
      (fun s t a b c d e => (hf s a (by omega)).2.2.2.2 t c (by omega) e) (mem_C.2 ⟨⟨x0, x1⟩, ⟨Int.le_refl _, vx.2.1⟩⟩) (fun s a b => (hf s a (by omega)).2.2.1)
    have hle := hload.le (sp l x).From vx.1 (by omega)
    refine tot_ifb (fun _ => ?_) fun hc => absurd (of_decide_eq_false hc) (by omega)
    exact tot_some rfl
  · obtain ⟨e, out⟩ := r
    dsimp only at hr0 hp
    subst hr0
    -- the spans at one time have seats of their own
    have hle : load ≤ seats := by
      rcases hload.is with h | ⟨k, a, b, c⟩
      · omega
      · have := few hp (k := k) (m := seats.toNat) fun j hj => by have := (hp.seat j (ints_mem.2 (mem_C.1 hj).1)).2.1; omega
        omega
    refine tot_ifb (fun hc => absurd (of_decide_eq_true hc) (by omega)) fun _ => ?_
    have hol := hp.ol
    refine tot_bind (P := fun b => b = false) ?_ fun b _ hb => ?_
    · refine tot_ifb (fun hc => absurd hc (by simp)) fun _ => ?_
      dsimp only
      refine tot_ifb (fun hc => absurd hc (by simp [hol])) fun _ => ?_
      refine tot_ifb (fun hc => ?_) fun _ => tot_some rfl
      have hlen : (0 : Int) < l.length := of_decide_eq_true hc
      refine tot_bind (max_tot (xs := out) (by omega) (by omega)) fun m _ ⟨hm1, hm2⟩ => tot_some ?_
      have up : ∀ j : Int, 0 ≤ j → j < l.length → nth 0 out j + 1 ≤ load := fun j j0 j1 => by
        have hjm := ints_mem.2 (show 0 ≤ j ∧ j < (l.length : Int) from ⟨j0, j1⟩)
        have vj := hv.sp j0 j1
        obtain ⟨s0, s1, s2⟩ := hp.seat j hjm
        have key : ∀ s, 0 ≤ s ∧ s < nth 0 out j → ∃ i ∈ ints l.length, nth 0 out i = s ∧ Cov l i (sp l j).From := fun s ⟨a, b⟩ => hp.low j hjm s a b
        obtain ⟨f, hf⟩ := pick key
        have := many (l := l) (k := (sp l j).From) (m := (nth 0 out j).toNat) (f := f)
          (fun s a b => mem_C.2 ⟨ints_mem.1 (hf s ⟨a, by omega⟩).1, (hf s ⟨a, by omega⟩).2.2⟩)
          (fun s t a b c d e => by rw [← (hf s ⟨a, by omega⟩).2.1, ← (hf t ⟨c, by omega⟩).2.1, e])
          (mem_C.2 ⟨⟨j0, j1⟩, ⟨Int.le_refl _, vj.2.1⟩⟩)
          (fun s a b e => by
            have hs := (hf s ⟨a, by omega⟩).2.1
            rw [e] at hs
            omega)
        have hle := hload.le (sp l j).From vj.1 (by omega)
        omega
      have hmle : m + 1 ≤ load := by
        obtain ⟨i, hi⟩ := List.getElem?_of_mem hm1
        have hil := (List.getElem?_eq_some_iff.1 hi).1
        have := up i (by omega) (by omega)
        rw [nth_some hi] at this
        exact this
      have hge : load ≤ m + 1 := by
        rcases hload.is with h | ⟨k, a, b, c⟩
        · have := up 0 (by omega) hlen
          have := (hp.seat 0 (ints_mem.2 ⟨by omega, hlen⟩)).1
          omega
        · have hm0 : 0 ≤ m + 1 := by
            have h1 := hm2 (nth 0 out 0) (nth_mem 0 (by omega) (by omega))
            have := (hp.seat 0 (ints_mem.2 ⟨by omega, hlen⟩)).1
            omega
          have := few hp (k := k) (m := (m + 1).toNat) fun j hj => by
            have hj := (mem_C.1 hj).1
            have := hm2 (nth 0 out j) (nth_mem 0 hj.1 (by omega))
            omega
          omega
      rw [w64_id (by omega) (by omega)]
      simp; omega
    subst hb
    refine tot_ifb (fun hc => by cases hc) fun _ => ?_
    refine tot_allX (P := fun _ _ => True) (E := fun b => b = true) (fun i x hx => ?_) (fun _ => tot_some rfl) (fun b hb => tot_some hb)
    have hi := (List.getElem?_eq_some_iff.1 hx).1
    unfold fishkeep2_FarePacked_b3
    rw [gcut_eq (by omega) (by omega) (by omega), Option.bind_some]
    refine tot_allX (P := fun _ _ => True) (E := fun b => False) (fun k y hy => ?_) (fun _ => tot_some trivial) (fun b hb => hb.elim)
    simp only [Int.toNat_natCast, Int.toNat_zero, List.drop_zero] at hy
    rw [List.getElem?_take] at hy
    split at hy
    · rename_i hki
      unfold fishkeep2_FarePacked_b4
      dsimp only
      rw [idx_nth 0 (by omega) (by omega), Option.bind_some, idx_nth 0 (by omega) (by omega), Option.bind_some]
      refine tot_bind (P := fun b => b = false) ?_ fun b _ hb => ?_
      · refine tot_ifb (fun he => ?_) fun _ => tot_some rfl
        have he := beq_iff_eq.1 he
        have hk := (List.getElem?_eq_some_iff.1 hy).1
        have := hp.apart i (ints_mem.2 ⟨by omega, by omega⟩) k (ints_mem.2 ⟨by omega, by omega⟩) (by omega) he
        rw [show sp l (i : Int) = x from nth_some hx, show sp l (k : Int) = y from nth_some hy] at this
        refine tot_ifb (fun h => tot_some ?_) fun _ => tot_some rfl
        have h := of_decide_eq_true h
        simp; omega
      · subst hb
        exact tot_ifb (fun hc => by cases hc) fun _ => tot_some trivial
    · cases hy
end Wq
