/- FareOnce: the sort of Pack. -/
import Derived.Test.YtodbddhmfecbbaaGreatDoorZP
import Derived.Test.YtodbddhmfecbbaaGreatDoorK5
set_option linter.unusedVariables false
set_option linter.unusedSimpArgs false
set_option maxRecDepth 100000
namespace Wo
open Go Hk Hd Pl Hs
theorem awake : fishkeep2_awakeFare = some true := rfl
theorem fares : fishkeep2_fares = some true := by kernel_rfl
theorem fwithin_eq (a b c : Int) : fare_within a b c = some (decide (b ≤ a ∧ a ≤ c)) := by
  unfold fare_within
  by_cases h1 : a ≥ b <;> by_cases h2 : a ≤ c <;> simp [ifb, h1, h2]
theorem nth_some {α : Type} {z : α} {l : List α} {i : Nat} {x : α} (h : l[i]? = some x) : nth z l (i : Int) = x := by
  unfold nth; rw [Int.toNat_natCast, h]; rfl
def sz : S_fare_Span := ⟨0, 0⟩
def sp (l : List S_fare_Span) (i : Int) : S_fare_Span := nth sz l i
theorem sp_idx {l : List S_fare_Span} {i : Int} (h0 : 0 ≤ i) (h1 : i < l.length) : idx l i = some (sp l i) := idx_nth sz h0 h1
structure Valid (l : List S_fare_Span) (seats stops : Int) : Prop where
  len : l.length ≤ 200
  seatsB : 1 ≤ seats ∧ seats ≤ 80
  stopsB : 2 ≤ stops ∧ stops ≤ 12
  each : ∀ x ∈ l, 0 ≤ x.From ∧ x.From < x.To ∧ x.To < stops
theorem Valid.sp {l : List S_fare_Span} {seats stops : Int} (h : Valid l seats stops) {i : Int} (h0 : 0 ≤ i) (h1 : i < l.length) : 0 ≤ (sp l i).From ∧ (sp l i).From < (sp l i).To ∧ (sp l i).To < stops := h.each _ (nth_mem sz h0 h1)
section sort
variable (p : Option (List S_fare_Span))
theorem symMn_eq : ∀ (n : Nat) (a m b : Int) (l : List Int), slices_symMergeCmpFunc_int_v4_n n a m b l p = symM_n (fun x y => fare_Pack_1 x y p) n a m b l
  | 0, _, _, _, _ => rfl
  | n + 1, a, m, b, l => by
    have ih : (fun a m b l => slices_symMergeCmpFunc_int_v4_n n a m b l p) = symM_n (fun x y => fare_Pack_1 x y p) n := by funext a m b l; exact symMn_eq n a m b l
    show slices_symMergeCmpFunc_int_v4_step (slices_symMergeCmpFunc_int_v4_n n) a m b l p = symM_step (fun x y => fare_Pack_1 x y p) (symM_n (fun x y => fare_Pack_1 x y p) n) a m b l
    rw [← ih]
    rfl
theorem symM_eq (a m b : Int) (l : List Int) : slices_symMergeCmpFunc_int_v4 a m b l p = symM (fun x y => fare_Pack_1 x y p) a m b l := symMn_eq p bigN a m b l
theorem sort_eq (l : List Int) : slices_SortStableFunc_int_int_v4 l p = sortStable (fun x y => fare_Pack_1 x y p) l := by
  have h3 : ∀ n s, slices_stableCmpFunc_int_v4_b3 n p s = stab_b3 (fun x y => fare_Pack_1 x y p) n s := fun n s => by
    funext t; unfold slices_stableCmpFunc_int_v4_b3 stab_b3; rw [symM_eq]
  have h2 : ∀ n, slices_stableCmpFunc_int_v4_b2 n p = stab_b2 (fun x y => fare_Pack_1 x y p) n := fun n => by
    funext t; unfold slices_stableCmpFunc_int_v4_b2 stab_b2; simp only [h3, symM_eq]
  unfold slices_SortStableFunc_int_int_v4 sortStable slices_stableCmpFunc_int_v4 stab
  simp only [h2]
  rfl
end sort
theorem compare_eq (a b : Int) : cmp_Compare_int a b = some (if a < b then -1 else if a > b then 1 else 0) := by
  unfold cmp_Compare_int cmp_isNaN_int
  simp only [bne_self_eq_false, Option.bind_some, ifb_false, ifb_dec]
  split
  · rfl
  · split <;> rfl
theorem cmp_ok (l : List S_fare_Span) : CmpOk (fun x y => fare_Pack_1 x y (some l)) (fun i => 0 ≤ i ∧ i < l.length) (fun x y => (sp l x).From ≤ (sp l y).From) where
  tot a b := Int.le_total _ _
  tr a b c h1 h2 := Int.le_trans h1 h2
  ok a b ha hb := by
    refine ⟨if (sp l a).From < (sp l b).From then -1 else if (sp l a).From > (sp l b).From then 1 else 0, ?_, ?_⟩
    · unfold fare_Pack_1
      simp only [Option.bind_some, sp_idx ha.1 ha.2, sp_idx hb.1 hb.2, compare_eq]
    · by_cases h : (sp l a).From < (sp l b).From
      · rw [if_pos h]; omega
      · rw [if_neg h]
        by_cases h2 : (sp l a).From > (sp l b).From
        · rw [if_pos h2]; omega
        · rw [if_neg h2]; omega
def ints (n : Nat) : List Int := (List.range n).map fun (i : Nat) => (i : Int)
theorem ints_len (n : Nat) : (ints n).length = n := by simp [ints]
theorem ints_mem {n : Nat} {x : Int} : x ∈ ints n ↔ 0 ≤ x ∧ x < n := by
  simp only [ints, List.mem_map, List.mem_range]
  constructor
  · rintro ⟨i, h, rfl⟩; omega
  · intro h; exact ⟨x.toNat, by omega, by omega⟩
theorem ints_nodup (n : Nat) : (ints n).Nodup := by
  unfold ints
  exact List.Pairwise.map _ (fun a b h e => h (by omega)) List.nodup_range
end Wo
set_option linter.unusedVariables false
set_option linter.unusedSimpArgs false
set_option maxRecDepth 100000
namespace Wo
open Go Hk Hd Pl Hs
def Cov (l : List S_fare_Span) (j k : Int) : Prop := (sp l j).From ≤ k ∧ k < (sp l j).To
structure Pk (l : List S_fare_Span) (seats : Int) (D : List Int) (unt out : List Int) : Prop where
  ul : (unt.length : Int) = seats
  ol : out.length = l.length
  seat : ∀ j ∈ D, 0 ≤ nth 0 out j ∧ nth 0 out j < seats ∧ (sp l j).To ≤ nth 0 unt (nth 0 out j)
  busy : ∀ s, 0 ≤ s → s < seats → nth 0 unt s = 0 ∨ ∃ j ∈ D, nth 0 out j = s ∧ nth 0 unt s = (sp l j).To
  apart : ∀ j ∈ D, ∀ i ∈ D, j ≠ i → nth 0 out j = nth 0 out i → (sp l j).To ≤ (sp l i).From ∨ (sp l i).To ≤ (sp l j).From
  low : ∀ j ∈ D, ∀ s, 0 ≤ s → s < nth 0 out j → ∃ i ∈ D, nth 0 out i = s ∧ Cov l i (sp l j).From
theorem index_tot (l : List S_fare_Span) (unt : List Int) {x : Int} (h0 : 0 ≤ x) (h1 : x < l.length) : Tot (slices_IndexFunc_int_int_v2 unt (some l) (some x)) fun r => (r = -1 ∧ ∀ s : Int, 0 ≤ s → s < unt.length → (sp l x).From < nth 0 unt s) ∨
    (0 ≤ r ∧ r < unt.length ∧ nth 0 unt r ≤ (sp l x).From ∧ ∀ s, 0 ≤ s → s < r → (sp l x).From < nth 0 unt s) := by
  unfold slices_IndexFunc_int_int_v2
  refine tot_loopX (I := fun i _ => ∀ s : Int, 0 ≤ s → s < i → (sp l x).From < nth 0 unt s) (J := fun _ => ∀ s : Int, 0 ≤ s → s < unt.length → (sp l x).From < nth 0 unt s)
    (E := fun r => 0 ≤ r ∧ r < unt.length ∧ nth 0 unt r ≤ (sp l x).From ∧ ∀ s, 0 ≤ s → s < r → (sp l x).From < nth 0 unt s) (fun s a b => by omega) ?_ (fun _ h => h) (fun _ h => tot_some (.inl ⟨rfl, h⟩)) (fun r h => tot_some (.inr h))
  intro i y s hy hI
  have hi := (List.getElem?_eq_some_iff.1 hy).1
  have hn : nth 0 unt (i : Int) = y := nth_some hy
  unfold slices_IndexFunc_int_int_v2_b1 fare_Pack_2
  rw [Option.bind_some, Option.bind_some, sp_idx h0 h1, Option.bind_some, Option.bind_some]
  refine tot_ifb (fun h => tot_some ?_) fun h => tot_some ?_
  · have h : y ≤ (sp l x).From := of_decide_eq_true h
    exact ⟨by omega, by omega, by rw [hn]; exact h, hI⟩
  · have h : ¬ y ≤ (sp l x).From := of_decide_eq_false h
    intro t a b
    by_cases e : t = i
    · subst e; rw [hn]; omega
    · exact hI t a (by omega)
theorem Pk.step {l : List S_fare_Span} {seats stops : Int} {D unt out : List Int} (hv : Valid l seats stops) (h : Pk l seats D unt out) {x r : Int} (h0 : 0 ≤ x) (h1 : x < l.length) (hD : ∀ j ∈ D, 0 ≤ j ∧ j < l.length ∧ (sp l j).From ≤ (sp l x).From) (hx : x ∉ D)
    (r0 : 0 ≤ r) (r1 : r < seats) (hr : nth 0 unt r ≤ (sp l x).From) (hlow : ∀ s, 0 ≤ s → s < r → (sp l x).From < nth 0 unt s) : Pk l seats (D ++ [x]) (setI unt r (sp l x).To) (setI out x r) := by
  have ul := h.ul
  have ol := h.ol
  have vx := hv.sp h0 h1
  have ox : nth 0 (setI out x r) x = r := nth_setI_self 0 h0 (by omega)
  have oo : ∀ j ∈ D, nth 0 (setI out x r) j = nth 0 out j := fun j hj => nth_setI_ne 0 h0 (hD j hj).1 fun e => hx (e ▸ hj)
  have ur : nth 0 (setI unt r (sp l x).To) r = (sp l x).To := nth_setI_self 0 r0 (by omega)
  have uo : ∀ s, 0 ≤ s → s ≠ r → nth 0 (setI unt r (sp l x).To) s = nth 0 unt s := fun s a b => nth_setI_ne 0 r0 a b
  have mem : ∀ j, j ∈ D ++ [x] ↔ j ∈ D ∨ j = x := fun j => by simp
  refine ⟨by rw [setI_length]; exact ul, by rw [setI_length]; exact ol, fun j hj => ?_, fun s a b => ?_, fun j hj i hi hji he => ?_, fun j hj s a b => ?_⟩
  · rcases (mem j).1 hj with hj | rfl
    · obtain ⟨a, b, c⟩ := h.seat j hj
      rw [oo j hj]
      refine ⟨a, b, ?_⟩
      by_cases e : nth 0 out j = r
      · rw [e, ur]; rw [e] at c; omega
      · rw [uo _ a e]; exact c
    · rw [ox, ur]; exact ⟨r0, r1, by omega⟩
  · by_cases e : s = r
    · subst e; exact .inr ⟨x, by simp, ox, ur⟩
    · rw [uo s a e]
      rcases h.busy s a b with g | ⟨j, hj, g1, g2⟩
      · exact .inl g
      · exact .inr ⟨j, by simp [hj], by rw [oo j hj]; exact g1, g2⟩
  · rcases (mem j).1 hj with gj | gj <;> rcases (mem i).1 hi with gi | gi
    · rw [oo j gj, oo i gi] at he
      exact h.apart j gj i gi hji he
    · subst gi
      rw [oo j gj, ox] at he
      obtain ⟨a, b, c⟩ := h.seat j gj
      rw [he] at c
      exact .inl (by omega)
    · subst gj
      rw [oo i gi, ox] at he
      obtain ⟨a, b, c⟩ := h.seat i gi
      rw [← he] at c
      exact .inr (by omega)
    · exact absurd (gj.trans gi.symm) hji
  · rcases (mem j).1 hj with hj | rfl
    · rw [oo j hj] at b
      obtain ⟨i, hi, g1, g2⟩ := h.low j hj s a b
      exact ⟨i, by simp [hi], by rw [oo i hi]; exact g1, g2⟩
    · rw [ox] at b
      have hb := hlow s a b
      rcases h.busy s a (by omega) with g | ⟨i, hi, g1, g2⟩
      · omega
      · exact ⟨i, by simp [hi], by rw [oo i hi]; exact g1, (hD i hi).2.2, by omega⟩
theorem pick {p : Int → Prop} {R : Int → Int → Prop} (h : ∀ s, p s → ∃ j, R s j) : ∃ f : Int → Int, ∀ s, p s → R s (f s) := by
  classical
  refine ⟨fun s => if hs : p s then (h s hs).choose else 0, fun s hs => ?_⟩
  simp only [dif_pos hs]
  exact (h s hs).choose_spec
def Full (l : List S_fare_Span) (seats : Int) : Prop := ∃ x : Int, 0 ≤ x ∧ x < l.length ∧ ∃ f : Int → Int, ∀ s, 0 ≤ s → s < seats → 0 ≤ f s ∧ f s < l.length ∧ f s ≠ x ∧ Cov l (f s) (sp l x).From ∧ ∀ t, 0 ≤ t → t < seats → f s = f t → s = t
theorem pack_tot {l : List S_fare_Span} {seats stops : Int} (hv : Valid l seats stops) : Tot (fare_Pack l seats stops) fun r => (r = (14, []) ∧ Full l seats) ∨ (r.1 = 0 ∧ ∃ unt, Pk l seats (ints l.length) unt r.2) := by
  have hl := hv.len
  have hs := hv.seatsB
  have ht := hv.stopsB
  unfold fare_Pack
  refine tot_ifb (fun h => absurd (of_decide_eq_true h) (by omega)) fun _ => ?_
  refine tot_bind (P := fun b => b = false) ?_ fun b _ hb => ?_
  · rw [fwithin_eq, Option.bind_some, decide_eq_true hs]
    refine tot_ifb (fun hc => by cases hc) fun _ => ?_
    rw [fwithin_eq, Option.bind_some, decide_eq_true ht]
    exact tot_some rfl
  subst hb
  refine tot_ifb (fun hc => by cases hc) fun _ => ?_
  rw [gmake_eq (by omega) (by unfold mkRoom; omega) (by unfold maxLen; omega), Option.bind_some]
  refine tot_loopX (I := fun i s => s.length = l.length ∧ ∀ k : Nat, k < i → nth 0 s (k : Int) = k) (J := fun s => s = ints l.length) (E := fun _ => False) ⟨by simp, fun k h => by omega⟩ ?_ ?_ ?_ (fun _ h => h.elim)
  · intro i x s hx hI
    have hi := (List.getElem?_eq_some_iff.1 hx).1
    have hb := hv.each x (List.mem_of_getElem? hx)
    unfold fare_Pack_b1 fare_span
    rw [decide_eq_true (show x.From ≥ 0 from hb.1), ifb_true, decide_eq_true hb.2.1, ifb_true, Option.bind_some, Option.bind_some, decide_eq_true hb.2.2]
    refine tot_ifb (fun hc => by cases hc) fun _ => ?_
    rw [idx_nth 0 (by omega) (by rw [hI.1]; omega), Option.bind_some]
    refine tot_some ⟨by rw [setI_length]; exact hI.1, fun k hk => ?_⟩
    rw [nth_setI 0 (by omega) (by omega) (by rw [hI.1]; omega)]
    by_cases e : k = i
    · subst e; rw [if_pos rfl]
    · rw [if_neg (by omega)]; exact hI.2 k (by omega)
  · rintro s ⟨h1, h2⟩
    refine List.ext_getElem (by rw [ints_len, h1]) fun i a b => ?_
    have := h2 i (by omega)
    rw [nth_get 0 a] at this
    simp [ints, this]
  rintro s rfl
  rw [sort_eq]
  refine tot_bind (sortStable_ok (cmp_ok l) (l := ints l.length) (by rw [ints_len]; omega) (fun x hx => ints_mem.1 hx)) fun d _ ⟨hd1, hd2⟩ => ?_
  rw [gmake_eq (by omega) (by unfold mkRoom; omega) (by unfold maxLen; omega), Option.bind_some, Option.bind_some]
  have hdn : d.Nodup := hd1.nodup_iff.2 (ints_nodup _)
  have hdm : ∀ x, x ∈ d ↔ 0 ≤ x ∧ x < l.length := fun x => by rw [hd1.mem_iff, ints_mem]
  refine tot_loopX (I := fun i s => Pk l seats (d.take i) s.1 s.2) (J := fun s => Pk l seats d s.1 s.2) (E := fun r => r = (14, []) ∧ Full l seats) ?_ ?_ ?_ ?_ ?_
  · refine ⟨by simp; omega, by simp, by simp, fun s a b => .inl ?_, by simp, by simp⟩
    exact nth_replicate a (by omega)
  · rintro i x ⟨unt, out⟩ hx hI
    have hI : Pk l seats (d.take i) unt out := hI
    have hi := (List.getElem?_eq_some_iff.1 hx).1
    have hxe := (List.getElem?_eq_some_iff.1 hx).2
    obtain ⟨x0, x1⟩ := (hdm x).1 (List.mem_of_getElem? hx)
    have ul := hI.ul
    have before : ∀ j ∈ d.take i, 0 ≤ j ∧ j < l.length ∧ (sp l j).From ≤ (sp l x).From ∧ j ≠ x := fun j hj => by
      obtain ⟨k, hk⟩ := List.getElem?_of_mem hj
      rw [List.getElem?_take] at hk
      split at hk
      · rename_i hki
        obtain ⟨a1, a2⟩ := List.getElem?_eq_some_iff.1 hk
        have h1 := List.pairwise_iff_getElem.1 hd2 k i a1 hi hki
        have h2 := List.pairwise_iff_getElem.1 hdn k i a1 hi hki
        rw [a2, hxe] at h1 h2
        obtain ⟨c1, c2⟩ := (hdm j).1 (List.mem_of_getElem? hk)
        exact ⟨c1, c2, h1, h2⟩
      · cases hk
    unfold fare_Pack_b2
    dsimp only
    refine tot_bind (index_tot l unt x0 x1) fun r _ hr => ?_
    rcases hr with ⟨rfl, hr⟩ | ⟨r0, r1, r2, r3⟩
    · refine tot_ifb (fun _ => tot_some ?_) fun hc => absurd hc (by decide)
      refine ⟨rfl, x, x0, x1, ?_⟩
      have key : ∀ s, 0 ≤ s ∧ s < seats → ∃ j ∈ d.take i, nth 0 out j = s ∧ Cov l j (sp l x).From := fun s ⟨a, b⟩ => by
        have := hr s a (by omega)
        rcases hI.busy s a b with g | ⟨j, hj, g1, g2⟩
        · have := hv.sp x0 x1; omega
        · exact ⟨j, hj, g1, (before j hj).2.2.1, by omega⟩
      obtain ⟨f, hf⟩ := pick key
      refine ⟨f, fun s a b => ?_⟩
      obtain ⟨f1, f2, f3⟩ := hf s ⟨a, b⟩
      have bs := before _ f1
      refine ⟨bs.1, bs.2.1, bs.2.2.2, f3, fun t c e he => ?_⟩
      obtain ⟨_, g2, _⟩ := hf t ⟨c, e⟩
      rw [← f2, ← g2, he]
    · refine tot_ifb (fun hc => absurd (of_decide_eq_true hc) (by omega)) fun _ => ?_
      rw [sp_idx x0 x1, Option.bind_some, idx_nth 0 r0 r1, Option.bind_some, idx_nth 0 x0 (by rw [hI.ol]; exact x1), Option.bind_some]
      refine tot_some ?_
      show Pk l seats (d.take (i + 1)) _ _
      rw [List.take_add_one, hx]
      exact hI.step hv x0 x1 (fun j hj => ⟨(before j hj).1, (before j hj).2.1, (before j hj).2.2.1⟩) (fun hm => (before x hm).2.2.2 rfl) r0 (by omega) r2 r3
  · intro s hI; rw [List.take_length] at hI; exact hI
  · rintro ⟨unt, out⟩ h
    have h : Pk l seats d unt out := h
    refine tot_some (.inr ⟨rfl, unt, ?_⟩)
    have mem : ∀ x, x ∈ ints l.length ↔ x ∈ d := fun x => by rw [ints_mem, hdm]
    exact ⟨h.ul, h.ol, fun j hj => h.seat j ((mem j).1 hj), fun s a b => (h.busy s a b).imp id fun ⟨j, hj, g⟩ => ⟨j, (mem j).2 hj, g⟩,
      fun j hj i hi => h.apart j ((mem j).1 hj) i ((mem i).1 hi), fun j hj s a b => let ⟨i, hi, g⟩ := h.low j ((mem j).1 hj) s a b; ⟨i, (mem i).2 hi, g⟩⟩
  · rintro r ⟨rfl, h⟩
    exact tot_some (.inl ⟨rfl, h⟩)
instance (l : List S_fare_Span) (j k : Int) : Decidable (Cov l j k) := by unfold Cov; infer_instance
def C (l : List S_fare_Span) (k : Int) : List Int := (ints l.length).filter fun j => decide (Cov l j k)
theorem mem_C {l : List S_fare_Span} {k j : Int} : j ∈ C l k ↔ (0 ≤ j ∧ j < l.length) ∧ Cov l j k := by
  unfold C; rw [List.mem_filter, ints_mem, decide_eq_true_eq]
theorem sub_len {α : Type} [DecidableEq α] : ∀ {l m : List α}, l.Nodup → (∀ x ∈ l, x ∈ m) → l.length ≤ m.length
  | [], m, _, _ => Nat.zero_le _
  | x :: l, m, hn, h => by
    obtain ⟨h1, h2⟩ := List.nodup_cons.1 hn
    have hx := h x (by simp)
    have := sub_len (l := l) (m := m.erase x) h2 fun y hy => (List.mem_erase_of_ne (fun e : y = x => h1 (e ▸ hy))).2 (h y (by simp [hy]))
    rw [List.length_erase_of_mem hx] at this
    have := List.length_pos_of_mem hx
    simp only [List.length_cons]
    omega
theorem map_nodup {α β : Type} {f : α → β} : ∀ {l : List α}, l.Nodup → (∀ x ∈ l, ∀ y ∈ l, x ≠ y → f x ≠ f y) → (l.map f).Nodup
  | [], _, _ => by simp
  | a :: l, hn, h => by
    obtain ⟨h1, h2⟩ := List.nodup_cons.1 hn
    rw [List.map_cons, List.nodup_cons]
    refine ⟨fun hm => ?_, map_nodup h2 fun x hx y hy => h x (by simp [hx]) y (by simp [hy])⟩
    obtain ⟨y, hy, he⟩ := List.mem_map.1 hm
    exact h a (by simp) y (by simp [hy]) (fun e => h1 (e ▸ hy)) he.symm
theorem many {l : List S_fare_Span} {k : Int} {m : Nat} {f : Int → Int} (hf : ∀ s : Int, 0 ≤ s → s < m → f s ∈ C l k) (hi : ∀ s t : Int, 0 ≤ s → s < m → 0 ≤ t → t < m → f s = f t → s = t) {x : Int} (hx : x ∈ C l k) (hxf : ∀ s : Int, 0 ≤ s → s < m → f s ≠ x) : m + 1 ≤ (C l k).length := by
  have hn : (x :: (ints m).map f).Nodup := by
    rw [List.nodup_cons]
    refine ⟨fun hm => ?_, map_nodup (ints_nodup m) fun a ha b hb hab he => hab (hi a b (ints_mem.1 ha).1 (ints_mem.1 ha).2 (ints_mem.1 hb).1 (ints_mem.1 hb).2 he)⟩
    obtain ⟨s, hs, he⟩ := List.mem_map.1 hm
    exact hxf s (ints_mem.1 hs).1 (ints_mem.1 hs).2 he
  have := sub_len hn (m := C l k) fun y hy => by
    rcases List.mem_cons.1 hy with rfl | hy
    · exact hx
    · obtain ⟨s, hs, rfl⟩ := List.mem_map.1 hy
      exact hf s (ints_mem.1 hs).1 (ints_mem.1 hs).2
  simpa [ints_len] using this
end Wo
set_option linter.unusedVariables false
set_option linter.unusedSimpArgs false
set_option maxRecDepth 100000
namespace Wo
open Go Hk Hd Pl Hs
theorem span_eq (a b c : Int) : fare_span a b c = some (decide (0 ≤ a ∧ a < b ∧ b < c)) := by
  unfold fare_span
  by_cases h1 : a ≥ 0 <;> by_cases h2 : a < b <;> by_cases h3 : b < c <;> simp [ifb, h1, h2, h3]
theorem idx_of {α : Type} {xs : List α} {i : Nat} {x : α} (h : xs[i]? = some x) : idx xs (i : Int) = some x := by
  unfold idx; rw [if_pos (by omega), Int.toNat_natCast, h]
theorem gapp_one {α : Type} {bytes : Nat} {xs : List α} {x : α} (h1 : (xs.length + 1) * bytes ≤ apRoom) (h2 : xs.length + 1 ≤ maxLen) : gapp bytes xs [x] = some (xs ++ [x]) := gapp_eq h1 h2
abbrev Bk := S_fare_Booking
def acts : List Bk → List Bool → List Bk
  | b :: bs, c :: cs => if c = true then acts bs cs else b :: acts bs cs
  | _, _ => []
theorem acts_snoc : ∀ {bs : List Bk} {cs : List Bool} (b : Bk) (c : Bool), bs.length = cs.length → acts (bs ++ [b]) (cs ++ [c]) = acts bs cs ++ (if c = true then [] else [b])
  | [], [], b, c, _ => by cases c <;> rfl
  | x :: bs, y :: cs, b, c, h => by
    have ih := acts_snoc b c (show bs.length = cs.length by simpa using h)
    simp only [List.cons_append, acts, ih]
    cases y <;> simp
  | [], _ :: _, _, _, h => by simp at h
  | _ :: _, [], _, _, h => by simp at h
theorem acts_take {bs : List Bk} {cs : List Bool} {i : Nat} {b : Bk} {c : Bool} (h : bs.length = cs.length) (hb : bs[i]? = some b) (hc : cs[i]? = some c) :
    acts (bs.take (i + 1)) (cs.take (i + 1)) = acts (bs.take i) (cs.take i) ++ (if c = true then [] else [b]) := by
  rw [List.take_add_one, List.take_add_one, hb, hc]
  exact acts_snoc b c (by rw [List.length_take, List.length_take, h])
theorem acts_le : ∀ (bs : List Bk) (cs : List Bool), (acts bs cs).length ≤ bs.length
  | [], _ => by simp [acts]
  | _ :: _, [] => by simp [acts]
  | b :: bs, c :: cs => by
    have := acts_le bs cs
    cases c <;> simp [acts] <;> omega
theorem acts_count : ∀ {bs : List Bk} {cs : List Bool}, bs.length = cs.length → (acts bs cs).length + cs.count true = bs.length
  | [], [], _ => rfl
  | b :: bs, c :: cs, h => by
    have := acts_count (show bs.length = cs.length by simpa using h)
    cases c <;> simp [acts, List.count_cons] <;> omega
  | [], _ :: _, h => by simp at h
  | _ :: _, [], h => by simp at h
theorem acts_sub : ∀ (bs : List Bk) (cs : List Bool) (i : Nat), (acts bs (cs.set i true)).Sublist (acts bs cs)
  | [], _, _ => by simp [acts]
  | _ :: _, [], _ => by simp [acts]
  | b :: bs, c :: cs, 0 => by cases c <;> simp [acts]
  | b :: bs, c :: cs, i + 1 => by
    have := acts_sub bs cs i
    cases c
    · simpa [acts] using this
    · simpa [acts] using this
theorem acts_mem : ∀ {bs : List Bk} {cs : List Bool} {x : Bk}, x ∈ acts bs cs → x ∈ bs
  | [], _, x, h => by simp [acts] at h
  | _ :: _, [], x, h => by simp [acts] at h
  | b :: bs, c :: cs, x, h => by
    cases c
    · simp only [acts, Bool.false_eq_true, if_false, List.mem_cons] at h
      rcases h with h | h
      · exact List.mem_cons.2 (.inl h)
      · exact List.mem_cons.2 (.inr (acts_mem h))
    · simp only [acts, if_true] at h
      exact List.mem_cons.2 (.inr (acts_mem h))
theorem count_set : ∀ (cs : List Bool) (i : Nat), (cs.set i true).count true ≤ cs.count true + 1
  | [], _ => by simp
  | c :: cs, 0 => by cases c <;> simp [List.count_cons]
  | c :: cs, i + 1 => by
    have := count_set cs i
    cases c <;> simp [List.count_cons] <;> omega
theorem contains_eq (l : List Int) (x : Int) : slices_Contains_int_int l x = some (decide (x ∈ l)) := by
  unfold slices_Contains_int_int slices_Index_int_int
  refine tot_eq ?_
  refine tot_bind (P := fun r => (r ≥ 0 ↔ x ∈ l)) ?_ fun r _ hr => tot_some (decide_eq_decide.2 hr)
  refine tot_allX (P := fun _ y => x ≠ y) (E := fun r => 0 ≤ r ∧ x ∈ l) (fun i y hy => ?_) (fun h => tot_some ?_) (fun r h => tot_some ⟨fun _ => h.2, fun _ => h.1⟩)
  · unfold slices_Index_int_int_b1
    refine tot_ifb (fun h => tot_some ⟨by omega, ?_⟩) fun h => tot_some ?_
    · rw [beq_iff_eq.1 h]; exact List.mem_of_getElem? hy
    · intro e; subst e; simp at h
  · constructor
    · intro h; omega
    · intro hx; exact absurd rfl (mem_of_all h x hx)
def over (fr to : Int) (b : Bk) : Bool := decide (b.From < to) && decide (b.To > fr)
theorem containsB_eq (l : List Bk) (fr to : Int) : slices_ContainsFunc_fare_Booking_fare_Booking l (some to) (some fr) = some (l.any (over fr to)) := by
  unfold slices_ContainsFunc_fare_Booking_fare_Booking slices_IndexFunc_fare_Booking_fare_Booking
  refine tot_eq ?_
  refine tot_bind (P := fun r => (r ≥ 0 ↔ l.any (over fr to) = true)) ?_ fun r _ hr => tot_some ?_
  · refine tot_allX (P := fun _ y => over fr to y = false) (E := fun r => 0 ≤ r ∧ l.any (over fr to) = true) (fun i y hy => ?_) (fun h => tot_some ?_) (fun r h => tot_some ⟨fun _ => h.2, fun _ => h.1⟩)
    · unfold slices_IndexFunc_fare_Booking_fare_Booking_b1
      have he : fare_Car_free_1 y (some to) (some fr) = some (over fr to y) := by
        unfold fare_Car_free_1 over
        by_cases h1 : y.From < to <;> by_cases h2 : y.To > fr <;> simp [ifb, h1, h2]
      rw [he, Option.bind_some]
      refine tot_ifb (fun h => tot_some ⟨by omega, ?_⟩) fun h => tot_some h
      exact List.any_eq_true.2 ⟨y, List.mem_of_getElem? hy, h⟩
    · constructor
      · intro h; omega
      · intro hx
        obtain ⟨y, hy, h2⟩ := List.any_eq_true.1 hx
        rw [mem_of_all h y hy] at h2; cases h2
  · cases ha : l.any (over fr to)
    · rw [ha] at hr
      exact decide_eq_false fun h => by cases hr.1 h
    · rw [ha] at hr
      exact decide_eq_true (hr.2 rfl)
def maxB : Nat := 2932031007401
section
variable {bs : List Bk} {cs : List Bool} (hl : bs.length = cs.length) (hn : bs.length ≤ maxB)
include hl hn
theorem of2_eq (s a b c : Int) : fare_Car_of_v2 s a b c bs cs = some ((acts bs cs).filter fun x => decide (s ∈ x.Seats)) := by
  refine tot_eq ?_
  unfold fare_Car_of_v2
  refine tot_loopX (I := fun i l => l = (acts (bs.take i) (cs.take i)).filter fun x => decide (s ∈ x.Seats)) (J := fun l => l = (acts bs cs).filter fun x => decide (s ∈ x.Seats)) (E := fun _ => False) (by simp [acts]) ?_ (fun l h => ?_) (fun l h => tot_some h) (fun x _ => x.elim)
  · rintro i x l hx rfl
    have hi := (List.getElem?_eq_some_iff.1 hx).1
    obtain ⟨c, hc⟩ : ∃ c, cs[i]? = some c := ⟨_, List.getElem?_eq_getElem (by omega)⟩
    have ht := acts_take hl hx hc
    have hlen : ((acts (bs.take i) (cs.take i)).filter fun x => decide (s ∈ x.Seats)).length ≤ bs.length := by
      refine Nat.le_trans (List.length_filter_le _ _) (Nat.le_trans (acts_le _ _) ?_)
      rw [List.length_take]; omega
    unfold maxB at hn
    unfold fare_Car_of_v2_b1
    rw [idx_of hc, Option.bind_some]
    refine tot_bind (P := fun b => b = (!c && decide (s ∈ x.Seats))) ?_ fun b _ hb => ?_
    · refine tot_ifb (fun h => ?_) fun h => ?_
      · rw [contains_eq, Option.bind_some]; exact tot_some (by rw [h]; rfl)
      · exact tot_some (by rw [h]; rfl)
    · refine tot_ifb (fun h => ?_) fun h => ?_
      · rw [gapp_one (by unfold apRoom; omega) (by unfold maxLen; omega), Option.bind_some]
        refine tot_some ?_
        show _ = _
        rw [h] at hb
        cases c
        · rw [ht]
          simp only [Bool.false_eq_true, if_false, List.filter_append]
          have : decide (s ∈ x.Seats) = true := by simpa using hb.symm
          rw [List.filter_cons, this]; rfl
        · cases hb
      · refine tot_some ?_
        show _ = _
        rw [h] at hb
        cases c
        · rw [ht]
          simp only [Bool.false_eq_true, if_false, List.filter_append]
          have : decide (s ∈ x.Seats) = false := by simpa using hb.symm
          rw [List.filter_cons, this]; simp
        · rw [ht]; simp
  · rw [List.take_length, hl, List.take_length] at h; exact h
theorem of1_eq (s a b c : Int) : fare_Car_of (some ⟨a, b, c, bs, cs⟩) s = some ((acts bs cs).filter fun x => decide (s ∈ x.Seats)) := (show fare_Car_of (some ⟨a, b, c, bs, cs⟩) s = fare_Car_of_v2 s a b c bs cs from rfl).trans (of2_eq hl hn s a b c)
end
def freeB (A : List Bk) (fr to : Int) (s : Int) : Bool := !((A.filter fun x => decide (s ∈ x.Seats)).any (over fr to))
theorem freeB_iff {A : List Bk} {fr to s : Int} : freeB A fr to s = true ↔ ∀ x ∈ A, s ∈ x.Seats → ¬ (x.From < to ∧ fr < x.To) := by
  unfold freeB over
  simp only [Bool.not_eq_true', List.any_eq_false, List.mem_filter, decide_eq_true_eq, Bool.and_eq_true, gt_iff_lt]
  exact ⟨fun h x hx hs => h x ⟨hx, hs⟩, fun h x hx => h x hx.1 hx.2⟩
def freeL (A : List Bk) (S : Int) (fr to : Int) : List Int := (ints S.toNat).filter (freeB A fr to)
theorem ints_succ (i : Nat) : ints (i + 1) = ints i ++ [(i : Int)] := by unfold ints; rw [List.range_succ]; simp
theorem ints_sorted (n : Nat) : (ints n).Pairwise (· < ·) := by
  unfold ints
  exact List.Pairwise.map _ (fun a b h => by show (a : Int) < (b : Int); omega) List.pairwise_lt_range
theorem freeL_sorted (A : List Bk) (S fr to : Int) : (freeL A S fr to).Pairwise (· < ·) := List.Pairwise.filter _ (ints_sorted _)
theorem freeL_mem {A : List Bk} {S fr to s : Int} : s ∈ freeL A S fr to ↔ (0 ≤ s ∧ s < S) ∧ freeB A fr to s = true := by
  unfold freeL; rw [List.mem_filter, ints_mem]
  constructor
  · rintro ⟨h1, h2⟩; exact ⟨by omega, h2⟩
  · rintro ⟨h1, h2⟩; exact ⟨by omega, h2⟩
section
variable {bs : List Bk} {cs : List Bool} (hl : bs.length = cs.length) (hn : bs.length ≤ maxB)
include hl hn
theorem free_eq {r a : Int} (h0 : 0 ≤ r * a) (h1 : r * a ≤ 80) (fr to st : Int) : fare_Car_free_v2 fr to r a st bs cs = some (freeL (acts bs cs) (r * a) fr to) := by
  refine tot_eq ?_
  unfold fare_Car_free_v2
  rw [w64_id (by omega) (by omega), glim_eq (by omega), Option.bind_some]
  refine tot_loopN (I := fun i l => l = (ints i).filter (freeB (acts bs cs) fr to)) (J := fun l => l = freeL (acts bs cs) (r * a) fr to) (E := fun _ => False) (by simp [ints]) ?_ (fun l h => h) (fun l h => tot_some h) (fun x _ => x.elim)
  rintro i l hi rfl
  unfold fare_Car_free_v2_b1
  rw [of2_eq hl hn, Option.bind_some, containsB_eq, Option.bind_some]
  have hlen : ((ints i).filter (freeB (acts bs cs) fr to)).length ≤ i := Nat.le_trans (List.length_filter_le _ _) (by rw [ints_len]; exact Nat.le_refl _)
  refine tot_ifb (fun h => ?_) fun h => ?_
  · rw [gapp_one (by unfold apRoom; omega) (by unfold maxLen; omega), Option.bind_some]
    refine tot_some ?_
    show _ = _
    have h : freeB (acts bs cs) fr to (i : Int) = true := h
    rw [ints_succ, List.filter_append, List.filter_cons, h]; rfl
  · refine tot_some ?_
    show _ = _
    have h : freeB (acts bs cs) fr to (i : Int) = false := h
    rw [ints_succ, List.filter_append, List.filter_cons, h]; simp
theorem gap_tot (r a st s u v : Int) : Tot (fare_Car_gap (some ⟨r, a, st, bs, cs⟩) s u v) fun _ => True := by
  unfold fare_Car_gap
  rw [Option.bind_some, of1_eq hl hn, Option.bind_some]
  refine tot_loopX (I := fun _ _ => True) (J := fun _ => True) (E := fun _ => False) trivial ?_ (fun _ _ => trivial) (fun _ _ => tot_some trivial) (fun x _ => x.elim)
  intro i x s hx _
  unfold fare_Car_gap_b1
  exact tot_bind (P := fun _ => True) (tot_ifb (fun _ => tot_some trivial) fun _ => tot_some trivial) fun _ _ _ => tot_ifb (fun _ => tot_some trivial) fun _ => tot_some trivial
end
end Wo
set_option linter.unusedVariables false
set_option linter.unusedSimpArgs false
set_option maxRecDepth 100000
namespace Wo
open Go Hk Hd Pl Hs
def cmpI (x y : Int) : Option Int := some (if x < y then -1 else 1)
theorem less_eq (x y : Int) : cmp_Less_int x y = some (decide (x < y)) := by unfold cmp_Less_int cmp_isNaN_int; simp [ifb]
theorem less_cmp (x y : Int) : decide ((if x < y then (-1 : Int) else 1) < 0) = decide (x < y) := by by_cases h : x < y <;> simp [h]
theorem insO_eq (a b : Int) (l : List Int) : slices_insertionSortOrdered_int a b l = ins cmpI a b l := by
  have h2 : ∀ p, slices_insertionSortOrdered_int_b2 p = ins_b2 cmpI p := fun p => by
    funext s
    unfold slices_insertionSortOrdered_int_b2 ins_b2 cmpI
    simp only [less_eq, Option.bind_some, less_cmp]
  have h1 : slices_insertionSortOrdered_int_b1 a b = ins_b1 cmpI a b := by
    funext s
    unfold slices_insertionSortOrdered_int_b1 ins_b1
    rw [h2]
  unfold slices_insertionSortOrdered_int ins
  rw [h1]
theorem cmpI_ok : CmpOk cmpI (fun _ => True) (· ≤ ·) where
  tot a b := Int.le_total _ _
  tr a b c h1 h2 := Int.le_trans h1 h2
  ok a b _ _ := ⟨_, rfl, by by_cases h : a < b <;> simp [h] <;> omega⟩
def lenOk (k : Nat) : Bool := (math_bits_Len (IntKind.u64.wrap (k : Int))).isSome
theorem lenAll : (List.range 9).all lenOk = true := by kernel_rfl
theorem pdq_tot {n : Nat} (hn : 0 < n) {l : List Int} (h : l.length ≤ 8) (lim : Int) : Tot (slices_pdqsortOrdered_int_n n 0 l.length lim l) fun d => d.Perm l ∧ d.Pairwise (· ≤ ·) := by
  obtain ⟨k, rfl⟩ : ∃ k, n = k + 1 := ⟨n - 1, by omega⟩
  show Tot (slices_pdqsortOrdered_int_step _ 0 _ lim l) _
  unfold slices_pdqsortOrdered_int_step
  refine tot_wh (I := fun s => s = (0, (l.length : Int), lim, true, true, l)) (μ := fun _ => 0) (J := fun _ => False) (E := fun d => d.Perm l ∧ d.Pairwise (· ≤ ·)) rfl (by unfold bigN; omega) ?_ (fun _ h => h.elim) (fun d h => tot_some h)
  rintro s rfl
  unfold slices_pdqsortOrdered_int_b1
  dsimp only
  rw [w64_id (x := (l.length : Int) - 0) (by omega) (by omega)]
  refine tot_ifb (fun _ => ?_) fun hc => absurd (of_decide_eq_false hc) (by omega)
  rw [insO_eq]
  refine tot_bind (ins_ok (z := 0) cmpI_ok (by omega) (by omega) (by omega) (by omega) (fun _ _ => trivial)) fun d _ ⟨h1, h2⟩ => tot_some ⟨h1.perm, ?_⟩
  refine List.pairwise_iff_getElem.2 fun i j hi hj hij => ?_
  have hl := h1.len
  have := h2 i j (by omega) (by omega) (by omega)
  rwa [show at_ 0 d (i : Int) = d[i] from nth_get 0 hi, show at_ 0 d (j : Int) = d[j] from nth_get 0 hj] at this
theorem sortI_tot {l : List Int} (h : l.length ≤ 8) : Tot (slices_Sort_int_int l) fun d => d.Perm l ∧ d.Pairwise (· ≤ ·) := by
  unfold slices_Sort_int_int
  have hk := List.all_eq_true.1 lenAll l.length (List.mem_range.2 (by omega))
  unfold lenOk at hk
  obtain ⟨x, hx⟩ := Option.isSome_iff_exists.1 hk
  rw [hx, Option.bind_some]
  refine tot_bind (pdq_tot (by unfold bigN; omega) h x) fun d _ hd => tot_some hd
section sort3
variable (u v r a st : Int) (bs : List Bk) (cs : List Bool)
abbrev cmp3 : Int → Int → Option Int := fun x y => fare_Car_choose_1_v5 x y u v r a st bs cs
theorem symMn3_eq : ∀ (n : Nat) (i m j : Int) (l : List Int), slices_symMergeCmpFunc_int_v3_n n i m j l u v r a st bs cs = symM_n (cmp3 u v r a st bs cs) n i m j l
  | 0, _, _, _, _ => rfl
  | n + 1, i, m, j, l => by
    have ih : (fun i m j l => slices_symMergeCmpFunc_int_v3_n n i m j l u v r a st bs cs) = symM_n (cmp3 u v r a st bs cs) n := by funext i m j l; exact symMn3_eq n i m j l
    show slices_symMergeCmpFunc_int_v3_step (slices_symMergeCmpFunc_int_v3_n n) i m j l u v r a st bs cs = symM_step (cmp3 u v r a st bs cs) (symM_n (cmp3 u v r a st bs cs) n) i m j l
    rw [← ih]
    rfl
theorem symM3_eq (i m j : Int) (l : List Int) : slices_symMergeCmpFunc_int_v3 i m j l u v r a st bs cs = symM (cmp3 u v r a st bs cs) i m j l := symMn3_eq u v r a st bs cs bigN i m j l
theorem sort3_eq (l : List Int) : slices_SortStableFunc_int_int_v3 l u v r a st bs cs = sortStable (cmp3 u v r a st bs cs) l := by
  have h3 : ∀ n s, slices_stableCmpFunc_int_v3_b3 n u v r a st bs cs s = stab_b3 (cmp3 u v r a st bs cs) n s := fun n s => by
    funext t; unfold slices_stableCmpFunc_int_v3_b3 stab_b3; rw [symM3_eq]
  have h2 : ∀ n, slices_stableCmpFunc_int_v3_b2 n u v r a st bs cs = stab_b2 (cmp3 u v r a st bs cs) n := fun n => by
    funext t; unfold slices_stableCmpFunc_int_v3_b2 stab_b2; simp only [h3, symM3_eq]
  unfold slices_SortStableFunc_int_int_v3 sortStable slices_stableCmpFunc_int_v3 stab
  simp only [h2]
  rfl
end sort3
def gp (r a st : Int) (bs : List Bk) (cs : List Bool) (u v s : Int) : Int := (fare_Car_gap (some ⟨r, a, st, bs, cs⟩) s u v).getD 0
theorem cmp3_ok {bs : List Bk} {cs : List Bool} (hl : bs.length = cs.length) (hn : bs.length ≤ maxB) (u v r a st : Int) : CmpOk (cmp3 u v r a st bs cs) (fun _ => True) (fun x y => gp r a st bs cs u v x ≤ gp r a st bs cs u v y) where
  tot a b := Int.le_total _ _
  tr a b c h1 h2 := Int.le_trans h1 h2
  ok x y _ _ := by
    have g : ∀ s, fare_Car_gap (some ⟨r, a, st, bs, cs⟩) s u v = some (gp r a st bs cs u v s) := fun s => by
      obtain ⟨w, hw, _⟩ := gap_tot hl hn r a st s u v
      unfold gp; rw [hw]; rfl
    refine ⟨if gp r a st bs cs u v x < gp r a st bs cs u v y then -1 else if gp r a st bs cs u v x > gp r a st bs cs u v y then 1 else 0, ?_, ?_⟩
    · show fare_Car_choose_1_v5 x y u v r a st bs cs = _
      unfold fare_Car_choose_1_v5
      rw [g, g, Option.bind_some, Option.bind_some, compare_eq]; rfl
    · by_cases h : gp r a st bs cs u v x < gp r a st bs cs u v y
      · rw [if_pos h]; omega
      · rw [if_neg h]
        by_cases h2 : gp r a st bs cs u v x > gp r a st bs cs u v y
        · rw [if_pos h2]; omega
        · rw [if_neg h2]; omega
theorem sub_len' {l : List Int} {n : Nat} (h : l.Nodup) (hm : ∀ x ∈ l, 0 ≤ x ∧ x < n) : l.length ≤ n := by
  have := sub_len h (m := ints n) fun x hx => ints_mem.2 (hm x hx)
  rwa [ints_len] at this
theorem lt_nodup {l : List Int} (h : l.Pairwise (· < ·)) : l.Nodup := h.imp fun {a b} hab e => by omega
theorem clone_eq {l : List Int} (h : l.length ≤ 1000) : slices_Clone_int_int l = some l := by
  unfold slices_Clone_int_int slices_Clone_int_int_v2
  simp only [Option.isNone_some, ifb_false, Option.getD_some]
  rw [gapp_eq (by unfold apRoom; simp; omega) (by unfold maxLen; simp; omega), Option.bind_some]; rfl
theorem clone3_eq {l : List Int} (h : l.length ≤ 1000) : slices_Clone_int_int_v3 l = some l := by
  unfold slices_Clone_int_int_v3 slices_Clone_int_int_v4
  rw [gapp_eq (by unfold apRoom; simp; omega) (by unfold maxLen; simp; omega), Option.bind_some]; rfl
theorem quo_eq {x a : Int} (h0 : 0 ≤ x) (h1 : x ≤ 1000) (ha : 1 ≤ a) : gquoK .i64 x a = some (x / a) := by
  unfold gquoK
  rw [if_neg (by omega), Int.tdiv_eq_ediv_of_nonneg h0]
  have h2 : 0 ≤ x / a := Int.ediv_nonneg h0 (by omega)
  have h3 : x / a ≤ x := Int.ediv_le_self _ h0
  exact congrArg some (w64_id (x := x / a) (by omega) (by omega))
theorem take_lt {l : List Int} (h : l.Pairwise (· < ·)) {i : Nat} {x : Int} (hx : l[i]? = some x) : ∀ y ∈ l.take i, y < x := fun y hy => by
  obtain ⟨k, hk⟩ := List.getElem?_of_mem hy
  rw [List.getElem?_take] at hk
  split at hk
  · rename_i hki
    obtain ⟨a1, a2⟩ := List.getElem?_eq_some_iff.1 hk
    obtain ⟨b1, b2⟩ := List.getElem?_eq_some_iff.1 hx
    have := List.pairwise_iff_getElem.1 h k i a1 b1 hki
    omega
  · cases hk
structure Rws (r : Int) (l : List Int) (i : Nat) (rows : List (List Int)) : Prop where
  len : (rows.length : Int) = r
  each : ∀ row ∈ rows, row.Pairwise (· < ·) ∧ (∀ x ∈ row, x ∈ l.take i)
theorem choose_tot {bs : List Bk} {cs : List Bool} (hl : bs.length = cs.length) (hn : bs.length ≤ maxB) {u v many r a st : Int} {l : List Int} (hr : 1 ≤ r ∧ r ≤ 20) (ha : 1 ≤ a) (hS : r * a ≤ 80) (hm : 1 ≤ many ∧ many ≤ 8) (hml : many ≤ l.length)
    (hf : l.Pairwise (· < ·)) (hfm : ∀ x ∈ l, 0 ≤ x ∧ x < r * a) : Tot (fare_Car_choose_v3 u v many l r a st bs cs) fun d => (d.length : Int) = many ∧ d.Pairwise (· < ·) ∧ ∀ x ∈ d, x ∈ l := by
  have hlen : l.length ≤ 80 := sub_len' (lt_nodup hf) fun x hx => by have := hfm x hx; omega
  unfold fare_Car_choose_v3
  rw [gmake_eq (by omega) (by unfold mkRoom; omega) (by unfold maxLen; omega), Option.bind_some]
  refine tot_loopX (I := fun i s => Rws r l i s) (J := fun s => Rws r l l.length s) (E := fun _ => False) ?_ ?_ (fun s h => h) ?_ (fun x _ => x.elim)
  · refine ⟨by rw [List.length_replicate]; omega, fun row h => ?_⟩
    rw [List.eq_of_mem_replicate h]; simp
  · intro i x s hx hI
    have hxm := hfm x (List.mem_of_getElem? hx)
    have hi := (List.getElem?_eq_some_iff.1 hx).1
    have hq0 : 0 ≤ x / a := Int.ediv_nonneg hxm.1 (by omega)
    have hq1 : x / a < r := Int.ediv_lt_of_lt_mul (by omega) hxm.2
    have hix : idx s (x / a) = some (nth [] s (x / a)) := idx_nth [] hq0 (by rw [hI.len]; exact hq1)
    have hrm := nth_mem [] hq0 (show x / a < s.length by rw [hI.len]; exact hq1)
    obtain ⟨e1, e2⟩ := hI.each _ hrm
    have hrl : (nth [] s (x / a)).length ≤ 80 := sub_len' (lt_nodup e1) fun y hy => by have := hfm y (List.mem_of_mem_take (e2 y hy)); omega
    unfold fare_Car_choose_v3_b1
    simp only [quo_eq hxm.1 (by omega) ha, Option.bind_some, hix]
    rw [gapp_one (by unfold apRoom; omega) (by unfold maxLen; omega)]
    simp only [Option.bind_some, holeOk, if_true]
    refine tot_some ⟨by rw [setI_length]; exact hI.len, fun row hrow => ?_⟩
    have ht : l.take (i + 1) = l.take i ++ [x] := by rw [List.take_add_one, hx]; rfl
    rcases mem_setI hrow with rfl | hrow
    · refine ⟨List.pairwise_append.2 ⟨e1, by simp, fun y hy z hz => ?_⟩, fun y hy => ?_⟩
      · simp only [List.mem_singleton] at hz
        subst hz
        exact take_lt hf hx y (e2 y hy)
      · rw [ht]
        rcases List.mem_append.1 hy with hy | hy
        · exact List.mem_append.2 (.inl (e2 y hy))
        · exact List.mem_append.2 (.inr hy)
    · obtain ⟨g1, g2⟩ := hI.each row hrow
      exact ⟨g1, fun y hy => by rw [ht]; exact List.mem_append.2 (.inl (g2 y hy))⟩
  intro rows hR
  refine tot_loopX (I := fun i s => s = -1 ∨ (0 ≤ s ∧ s < rows.length ∧ many ≤ (nth [] rows s).length)) (J := fun s => s = -1 ∨ (0 ≤ s ∧ s < rows.length ∧ many ≤ (nth [] rows s).length)) (E := fun _ => False) (.inl rfl) ?_ (fun s h => h) ?_ (fun x _ => x.elim)
  · intro i x s hx hI
    have hi := (List.getElem?_eq_some_iff.1 hx).1
    unfold fare_Car_choose_v3_b2
    rw [idx_of hx, Option.bind_some, Option.bind_some]
    refine tot_bind (P := fun b => b = true → many ≤ x.length) ?_ fun b _ hb => ?_
    · refine tot_ifb (fun h => ?_) fun h => tot_some fun h => by cases h
      have h := of_decide_eq_true h
      refine tot_ifb (fun _ => tot_some fun _ => h) fun h2 => ?_
      have h2 := of_decide_eq_false h2
      have hI : 0 ≤ s ∧ s < rows.length ∧ many ≤ (nth [] rows s).length := by rcases hI with h | h; omega; exact h
      rw [Option.bind_some, idx_nth [] hI.1 hI.2.1, Option.bind_some, Option.bind_some, Option.bind_some]
      exact tot_some fun _ => h
    · refine tot_ifb (fun h => tot_some (.inr ?_)) fun h => tot_some hI
      refine ⟨by omega, by omega, ?_⟩
      rw [nth_nat [] hx]; exact hb h
  intro s hs
  refine tot_ifb (fun h => ?_) fun h => ?_
  · have h := of_decide_eq_true h
    have hs : 0 ≤ s ∧ s < rows.length ∧ many ≤ (nth [] rows s).length := by rcases hs with h | h; omega; exact h
    obtain ⟨e1, e2⟩ := hR.each _ (nth_mem [] hs.1 hs.2.1)
    rw [idx_nth [] hs.1 hs.2.1]
    simp only [Option.bind_some]
    rw [gcut_eq (by omega) (by omega) hs.2.2, Option.bind_some, clone_eq (by simp; omega), Option.bind_some]
    refine tot_some ⟨by simp; omega, ?_, fun x hx => ?_⟩
    · simp only [Int.toNat_zero, List.drop_zero]; exact e1.sublist (List.take_sublist _ _)
    · simp only [Int.toNat_zero, List.drop_zero] at hx
      exact List.mem_of_mem_take (e2 x (List.mem_of_mem_take hx))
  · rw [clone3_eq (by omega), Option.bind_some, sort3_eq]
    refine tot_bind (sortStable_ok (cmp3_ok hl hn u v r a st) (by omega) (fun _ _ => trivial)) fun d _ ⟨h1, _⟩ => ?_
    have hdl := h1.length_eq
    have : geqI many many = some () := by unfold geqI; rw [if_pos rfl]
    rw [this, Option.bind_some, gcut_eq (by omega) (by omega) (by omega), Option.bind_some]
    refine tot_bind (sortI_tot (by simp; omega)) fun e _ ⟨h2, h3⟩ => tot_some ?_
    simp only [Int.toNat_zero, List.drop_zero] at h2
    have hen : e.Nodup := h2.nodup_iff.2 ((h1.nodup_iff.2 (lt_nodup hf)).sublist (List.take_sublist _ _))
    refine ⟨by rw [h2.length_eq, List.length_take]; omega, ?_, fun x hx => h1.mem_iff.1 (List.mem_of_mem_take (h2.mem_iff.1 hx))⟩
    exact (h3.and hen).imp fun {x y} h => by have := h.1; have := h.2; omega
end Wo
set_option linter.unusedVariables false
set_option linter.unusedSimpArgs false
set_option maxRecDepth 100000
namespace Wo
open Go Hk Hd Pl Hs
def Ap (a b : Bk) : Prop := a.From < b.To → b.From < a.To → ∀ s ∈ a.Seats, s ∉ b.Seats
structure BOk (S st : Int) (b : Bk) : Prop where
  fr : 0 ≤ b.From
  ft : b.From < b.To
  ts : b.To < st
  ne : 1 ≤ b.Seats.length
  le : b.Seats.length ≤ 8
  srt : b.Seats.Pairwise (· < ·)
  mem : ∀ s ∈ b.Seats, 0 ≤ s ∧ s < S
structure Inv (S st : Int) (bs : List Bk) (cs : List Bool) : Prop where
  len : bs.length = cs.length
  each : ∀ b ∈ bs, BOk S st b
  apart : (acts bs cs).Pairwise Ap
def key (b : Bk) : Int := nth 0 b.Seats 0 * 11 + b.From
theorem keys_nodup {S st : Int} (hst : st ≤ 12) : ∀ {A : List Bk}, (∀ b ∈ A, BOk S st b) → A.Pairwise Ap → (A.map key).Nodup
  | [], _, _ => by simp
  | b :: A, h, hp => by
    obtain ⟨p1, p2⟩ := List.pairwise_cons.1 hp
    rw [List.map_cons, List.nodup_cons]
    refine ⟨fun hm => ?_, keys_nodup hst (fun x hx => h x (by simp [hx])) p2⟩
    obtain ⟨x, hx, he⟩ := List.mem_map.1 hm
    have hb := h b (by simp)
    have hx' := h x (by simp [hx])
    unfold key at he
    have b1 := hb.fr; have b2 := hb.ft; have b3 := hb.ts
    have x1 := hx'.fr; have x2 := hx'.ft; have x3 := hx'.ts
    have b4 := hb.ne; have x4 := hx'.ne
    have hf : x.From = b.From := by omega
    have hs : nth 0 x.Seats 0 = nth 0 b.Seats 0 := by omega
    have m1 : nth 0 b.Seats 0 ∈ b.Seats := nth_mem 0 (by omega) (by omega)
    have m2 : nth 0 x.Seats 0 ∈ x.Seats := nth_mem 0 (by omega) (by omega)
    rw [hs] at m2
    exact p1 x hx (by omega) (by omega) _ m1 m2
theorem acts_few {S st : Int} (hS : S ≤ 80) (hst : st ≤ 12) {A : List Bk} (h : ∀ b ∈ A, BOk S st b) (hp : A.Pairwise Ap) : A.length ≤ 880 := by
  have := sub_len' (n := 880) (keys_nodup hst h hp) fun k hk => by
    obtain ⟨b, hb, rfl⟩ := List.mem_map.1 hk
    have hb := h b hb
    have b1 := hb.fr; have b2 := hb.ft; have b3 := hb.ts; have b4 := hb.ne
    have m := hb.mem _ (nth_mem 0 (xs := b.Seats) (i := 0) (by omega) (by omega))
    unfold key; omega
  rwa [List.length_map] at this
def covB (k : Int) (b : Bk) : Bool := decide (b.From ≤ k ∧ k < b.To)
theorem seats_nodup {S st k : Int} : ∀ {A : List Bk}, (∀ b ∈ A, BOk S st b) → A.Pairwise Ap → ((A.filter (covB k)).flatMap fun b => b.Seats).Nodup
  | [], _, _ => by simp
  | b :: A, h, hp => by
    obtain ⟨p1, p2⟩ := List.pairwise_cons.1 hp
    have ih := seats_nodup (k := k) (fun x hx => h x (by simp [hx])) p2
    rw [List.filter_cons]
    cases hc : covB k b
    · simpa using ih
    · simp only [if_true, List.flatMap_cons]
      refine List.nodup_append.2 ⟨lt_nodup (h b (by simp)).srt, ih, fun s hs t ht e => ?_⟩
      subst e
      obtain ⟨x, hx, hsx⟩ := List.mem_flatMap.1 ht
      obtain ⟨hxA, hcx⟩ := List.mem_filter.1 hx
      have c1 := of_decide_eq_true hc
      have c2 := of_decide_eq_true hcx
      exact p1 x hxA (by omega) (by omega) s hs hsx
def spans (A : List Bk) : List S_fare_Span := A.flatMap fun b => List.replicate b.Seats.length ⟨b.From, b.To⟩
def covS (k : Int) (x : S_fare_Span) : Bool := decide (x.From ≤ k ∧ k < x.To)
theorem spans_cov (k : Int) : ∀ A : List Bk, ((spans A).filter (covS k)).length = ((A.filter (covB k)).flatMap fun b => b.Seats).length
  | [] => by simp [spans]
  | b :: A => by
    have ih := spans_cov k A
    unfold spans at ih ⊢
    rw [List.flatMap_cons, List.filter_append, List.length_append, ih, List.filter_cons]
    have he : covS k ⟨b.From, b.To⟩ = covB k b := rfl
    cases hc : covB k b
    · rw [List.filter_eq_nil_iff.2 fun x hx => by rw [List.eq_of_mem_replicate hx, he, hc]; simp]
      simp
    · rw [List.filter_eq_self.2 fun x hx => by rw [List.eq_of_mem_replicate hx, he, hc]]
      simp
theorem spans_len {S st : Int} : ∀ {A : List Bk}, (∀ b ∈ A, BOk S st b) → (spans A).length ≤ 8 * A.length
  | [], _ => by simp [spans]
  | b :: A, h => by
    have ih := spans_len (fun x hx => h x (by simp [hx])) (A := A)
    have hb := (h b (by simp)).le
    unfold spans at ih ⊢
    rw [List.flatMap_cons, List.length_append, List.length_replicate, List.length_cons]
    omega
theorem spans_mem {A : List Bk} {x : S_fare_Span} (h : x ∈ spans A) : ∃ b ∈ A, x = ⟨b.From, b.To⟩ := by
  obtain ⟨b, hb, hx⟩ := List.mem_flatMap.1 h
  exact ⟨b, hb, List.eq_of_mem_replicate hx⟩
theorem ints_map (l : List S_fare_Span) : (ints l.length).map (sp l) = l := by
  refine List.ext_getElem (by rw [List.length_map, ints_len]) fun i a b => ?_
  rw [List.getElem_map]
  have : (ints l.length)[i]'(by rw [ints_len]; exact b) = (i : Int) := by simp [ints]
  rw [this]
  exact nth_get sz b
theorem C_len (l : List S_fare_Span) (k : Int) : (C l k).length = (l.filter (covS k)).length := by
  have : (l.filter (covS k)).length = (((ints l.length).map (sp l)).filter (covS k)).length := by rw [ints_map]
  rw [this, List.filter_map, List.length_map]
  rfl
theorem pack_ok {S st : Int} (hS : 1 ≤ S ∧ S ≤ 80) (hst : 2 ≤ st ∧ st ≤ 12) {A : List Bk} (h : ∀ b ∈ A, BOk S st b) (hp : A.Pairwise Ap) (hl : (spans A).length ≤ 200) : Tot (fare_Pack (spans A) S st) fun r => r.1 = 0 := by
  have hv : Valid (spans A) S st := ⟨hl, hS, hst, fun x hx => by
    obtain ⟨b, hb, rfl⟩ := spans_mem hx
    have := h b hb
    exact ⟨this.fr, this.ft, this.ts⟩⟩
  refine tot_mono (pack_tot hv) fun r hr => ?_
  rcases hr with ⟨rfl, x, x0, x1, f, hf⟩ | ⟨hr, _⟩
  · exfalso
    have vx := hv.sp x0 x1
    have := many (l := spans A) (k := (sp (spans A) x).From) (m := S.toNat) (f := f) (fun s a b => mem_C.2 ⟨⟨(hf s a (by omega)).1, (hf s a (by omega)).2.1⟩, (hf s a (by omega)).2.2.2.1⟩)
      (fun s t a b c d e => (hf s a (by omega)).2.2.2.2 t c (by omega) e) (mem_C.2 ⟨⟨x0, x1⟩, ⟨Int.le_refl _, vx.2.1⟩⟩) (fun s a b => (hf s a (by omega)).2.2.1)
    rw [C_len, spans_cov] at this
    have h2 := sub_len' (n := S.toNat) (seats_nodup (k := (sp (spans A) x).From) h hp) fun s hs => by
      obtain ⟨b, hb, hsb⟩ := List.mem_flatMap.1 hs
      have := (h b (List.mem_filter.1 hb).1).mem s hsb
      omega
    omega
  · exact hr
theorem Inv.acts_ok {S st : Int} {bs : List Bk} {cs : List Bool} (h : Inv S st bs cs) : ∀ b ∈ acts bs cs, BOk S st b := fun b hb => h.each b (acts_mem hb)
theorem cancel_tot {S st : Int} {bs : List Bk} {cs : List Bool} (h : Inv S st bs cs) (hn : bs.length ≤ maxB) (n r a : Int) : Tot (fare_Car_Cancel n r a st bs cs) fun x => Inv S st bs x.2 ∧ x.2.count true ≤ cs.count true + 1 := by
  have hl := h.len
  unfold maxB at hn
  unfold fare_Car_Cancel
  rw [w64_id (by omega) (by omega), fwithin_eq, Option.bind_some]
  refine tot_bind (P := fun b => b = false → 0 ≤ n ∧ n < cs.length) ?_ fun b _ hb => ?_
  · refine tot_ifb (fun _ => tot_some fun h => by cases h) fun h1 => ?_
    simp only [Bool.not_eq_false', decide_eq_true_eq] at h1
    rw [idx_nth true h1.1 (by omega), Option.bind_some]
    exact tot_some fun _ => by omega
  refine tot_ifb (fun _ => tot_some ⟨h, Nat.le_succ _⟩) fun hf => ?_
  obtain ⟨h0, h1⟩ := hb hf
  rw [idx_nth true h0 h1, Option.bind_some]
  exact tot_some ⟨⟨by rw [setI_length]; exact hl, h.each, h.apart.sublist (acts_sub _ _ _)⟩, count_set _ _⟩
theorem book_tot {S st : Int} {bs : List Bk} {cs : List Bool} (h : Inv S st bs cs) (hn : bs.length ≤ maxB) {r a : Int} (hr : 1 ≤ r ∧ r ≤ 20) (ha : 1 ≤ a) (hS : r * a = S) (hS80 : S ≤ 80) {fr to many : Int} (hsp : 0 ≤ fr ∧ fr < to ∧ to < st) (hm : 1 ≤ many ∧ many ≤ 8)
    (hml : many ≤ (freeL (acts bs cs) S fr to).length) : Tot (fare_Car_Book fr to many r a st bs cs) fun x => x.1 = 0 ∧ (x.2.1.Seats.length : Int) = many ∧ x.2.1.Seats.Pairwise (· < ·) ∧ (∀ s ∈ x.2.1.Seats, s ∈ freeL (acts bs cs) S fr to) ∧
      Inv S st x.2.2.1 x.2.2.2 ∧ x.2.2.1.length = bs.length + 1 ∧ x.2.2.2.count true = cs.count true := by
  have hl := h.len
  have hS0 : 0 ≤ S := by rw [← hS]; exact Int.mul_nonneg (by omega) (by omega)
  unfold fare_Car_Book
  rw [span_eq, Option.bind_some, decide_eq_true hsp, fwithin_eq, decide_eq_true hm]
  simp only [Bool.not_true, ifb_false, Option.bind_some]
  rw [free_eq hl hn (by omega) (by omega), Option.bind_some, hS]
  refine tot_ifb (fun hc => absurd (of_decide_eq_true hc) (by omega)) fun _ => ?_
  refine tot_bind (P := fun x : Int × Int × Int × List Int => x.2.1 = fr ∧ x.2.2.1 = to ∧ (x.2.2.2.length : Int) = many ∧ x.2.2.2.Pairwise (· < ·) ∧ ∀ s ∈ x.2.2.2, s ∈ freeL (acts bs cs) S fr to) ?_ ?_
  · refine tot_bind (choose_tot hl hn hr ha (by omega) hm hml (freeL_sorted _ _ _ _) fun x hx => by rw [hS]; exact (freeL_mem.1 hx).1) fun d _ ⟨d1, d2, d3⟩ => tot_some ⟨rfl, rfl, d1, d2, d3⟩
  rintro ⟨no, fr', to', d⟩ _ ⟨e1, e2, d1, d2, d3⟩
  dsimp only at e1 e2 d1 d2 d3 ⊢
  subst e1 e2
  unfold maxB at hn
  rw [gapp_one (by unfold apRoom; omega) (by unfold maxLen; omega), Option.bind_some, gapp_one (by unfold apRoom; omega) (by unfold maxLen; omega), Option.bind_some, Option.bind_some]
  dsimp only
  rw [clone_eq (by omega), Option.bind_some]
  refine tot_some ⟨rfl, d1, d2, d3, ⟨by simp [hl], fun b hb => ?_, ?_⟩, by simp, by simp⟩
  · rcases List.mem_append.1 hb with hb | hb
    · exact h.each b hb
    · simp only [List.mem_singleton] at hb
      subst hb
      exact ⟨hsp.1, hsp.2.1, hsp.2.2, by dsimp only; omega, by dsimp only; omega, d2, fun s hs => (freeL_mem.1 (d3 s hs)).1⟩
  · rw [acts_snoc _ _ hl]
    refine List.pairwise_append.2 ⟨h.apart, by simp, fun x hx y hy => ?_⟩
    simp only [Bool.false_eq_true, if_false, List.mem_singleton] at hy
    subst hy
    intro h1 h2 s hs hsd
    exact freeB_iff.1 (freeL_mem.1 (d3 s hsd)).2 x hx hs ⟨h1, h2⟩
theorem bookings_eq {S st : Int} {bs : List Bk} {cs : List Bool} (h : Inv S st bs cs) (hn : bs.length ≤ maxB) (r a : Int) : fare_Car_Bookings (some ⟨r, a, st, bs, cs⟩) = some (acts bs cs) := by
  have hl := h.len
  refine tot_eq ?_
  unfold fare_Car_Bookings
  rw [Option.bind_some]
  refine tot_loopX (I := fun i l => l = acts (bs.take i) (cs.take i)) (J := fun l => l = acts bs cs) (E := fun _ => False) (by simp [acts]) ?_ (fun l h => ?_) (fun l h => tot_some h) (fun x _ => x.elim)
  · rintro i x l hx rfl
    have hi : i < bs.length := (List.getElem?_eq_some_iff.1 hx).1
    obtain ⟨c, hc⟩ : ∃ c, cs[i]? = some c := ⟨_, List.getElem?_eq_getElem (by omega)⟩
    have ht := acts_take hl hx hc
    have hlen : (acts (bs.take i) (cs.take i)).length ≤ bs.length := Nat.le_trans (acts_le _ _) (by rw [List.length_take]; omega)
    have hb := h.each x (List.mem_of_getElem? hx)
    unfold maxB at hn
    unfold fare_Car_Bookings_b1
    rw [Option.bind_some, idx_of hc, Option.bind_some]
    cases c
    · simp only [Bool.not_false, ifb_true]
      have := hb.le
      rw [clone_eq (by omega), Option.bind_some, gapp_one (by unfold apRoom; omega) (by unfold maxLen; omega), Option.bind_some]
      refine tot_some ?_
      show _ = _
      rw [ht]; rfl
    · simp only [Bool.not_true, ifb_false]
      refine tot_some ?_
      show _ = _
      rw [ht]; simp
  · rw [List.take_length, hl, List.take_length] at h; exact h
theorem meets_eq (l : List Int) (b : Bk) : slices_ContainsFunc_int_int l (some b) = some (l.any fun s => decide (s ∈ b.Seats)) := by
  unfold slices_ContainsFunc_int_int slices_IndexFunc_int_int
  refine tot_eq ?_
  refine tot_bind (P := fun r => (r ≥ 0 ↔ (l.any fun s => decide (s ∈ b.Seats)) = true)) ?_ fun r _ hr => tot_some ?_
  · refine tot_allX (P := fun _ s => decide (s ∈ b.Seats) = false) (E := fun r => 0 ≤ r ∧ (l.any fun s => decide (s ∈ b.Seats)) = true) (fun i y hy => ?_) (fun h => tot_some ?_) (fun r h => tot_some ⟨fun _ => h.2, fun _ => h.1⟩)
    · unfold slices_IndexFunc_int_int_b1 fishkeep2_FareOnce_1
      rw [Option.bind_some, contains_eq, Option.bind_some, Option.bind_some]
      refine tot_ifb (fun h => tot_some ⟨by omega, ?_⟩) fun h => tot_some h
      exact List.any_eq_true.2 ⟨y, List.mem_of_getElem? hy, h⟩
    · constructor
      · intro h; omega
      · intro hx
        obtain ⟨y, hy, h2⟩ := List.any_eq_true.1 hx
        rw [mem_of_all h y hy] at h2; cases h2
  · cases ha : l.any fun s => decide (s ∈ b.Seats)
    · rw [ha] at hr
      exact decide_eq_false fun h => by cases hr.1 h
    · rw [ha] at hr
      exact decide_eq_true (hr.2 rfl)
theorem step_tot {S st : Int} (hst : st ≤ 12) {r a : Int} (hr : 1 ≤ r ∧ r ≤ 20) (ha : 1 ≤ a) (hS : r * a = S) (hS1 : 1 ≤ S ∧ S ≤ 80) {N : Nat} (hN : N * 8 ≤ 140737488351232) (e : Int) {sc : List Int} {bs : List Bk} {cs : List Bool}
    (h : Inv S st bs cs) (hc : 4 * (bs.length + cs.count true) + sc.length ≤ N) : Tot (fishkeep2_FareOnce_b1 (e, r, a, st) (sc, bs, cs)) fun c => match c with
      | .go s' => (Inv S st s'.2.1 s'.2.2 ∧ 4 * (s'.2.1.length + s'.2.2.count true) + s'.1.length ≤ N) ∧ s'.1.length < sc.length
      | .out (.go x) => Inv S st x.1 x.2 ∧ x.1.length ≤ maxB
      | .out (.out y) => False := by
  have hfew := acts_few hS1.2 hst h.acts_ok h.apart
  have hcnt := acts_count h.len
  have hn : bs.length ≤ maxB := by unfold maxB; omega
  have hl := h.len
  unfold fishkeep2_FareOnce_b1
  dsimp only
  refine tot_ifb (fun h4 => ?_) fun _ => tot_some ⟨h, hn⟩
  have h4 : (sc.length : Int) ≥ 4 := of_decide_eq_true h4
  rw [idx_nth 0 (by omega) (by omega), Option.bind_some, idx_nth 0 (by omega) (by omega), Option.bind_some, idx_nth 0 (by omega) (by omega), Option.bind_some, idx_nth 0 (by omega) (by omega), Option.bind_some,
    gcut_eq (by omega) (by omega) (by omega), Option.bind_some]
  generalize nth 0 sc 0 = kind
  generalize nth 0 sc 1 = fr
  generalize nth 0 sc 2 = to
  generalize nth 0 sc 3 = many
  have hdl : ((sc.take (sc.length : Int).toNat).drop (4 : Int).toNat).length = sc.length - 4 := by simp
  generalize ((sc.take (sc.length : Int).toNat).drop (4 : Int).toNat) = sd at hdl
  refine tot_ifb (fun _ => ?_) fun _ => ?_
  · refine tot_bind (cancel_tot h hn fr r a) fun x _ ⟨h1, h2⟩ => tot_some ⟨⟨h1, ?_⟩, ?_⟩
    · dsimp only; omega
    · dsimp only; omega
  have same : (Inv S st bs cs ∧ 4 * (bs.length + cs.count true) + sd.length ≤ N) ∧ sd.length < sc.length := ⟨⟨h, by omega⟩, by omega⟩
  by_cases hsp : 0 ≤ fr ∧ fr < to ∧ to < st
  · have hF : fare_Car_Free_v2 fr to r a st bs cs = some (0, freeL (acts bs cs) S fr to) := by
      unfold fare_Car_Free_v2
      rw [span_eq, Option.bind_some, decide_eq_true hsp, free_eq hl hn (by omega) (by omega), hS]; rfl
    rw [hF, Option.bind_some]
    by_cases hm : 1 ≤ many ∧ many ≤ 8
    · by_cases hml : many ≤ (freeL (acts bs cs) S fr to).length
      · refine tot_bind (book_tot h hn hr ha hS hS1.2 hsp hm hml) ?_
        rintro ⟨e0, b, bs', cs'⟩ _ ⟨g1, g2, g3, g4, g5, g6, g7⟩
        dsimp only at g1 g2 g3 g4 g5 g6 g7 ⊢
        subst g1
        refine tot_bind (P := fun b => b = false) ?_ fun b _ hb => ?_
        · refine tot_ifb (fun hc => absurd hc (by decide)) fun _ => tot_ifb (fun hc => absurd (of_decide_eq_true hc) (by omega)) fun _ => tot_some (decide_eq_false (by omega))
        subst hb
        refine tot_ifb (fun hc => by cases hc) fun _ => tot_ifb (fun hc => absurd (of_decide_eq_true hc) (by omega)) fun _ => ?_
        refine tot_bind (P := fun b => b = false) ?_ fun b _ hb => ?_
        · exact tot_ifb (fun hc => absurd hc (by decide)) fun _ => tot_some (by simp [g2])
        subst hb
        refine tot_ifb (fun hc => by cases hc) fun _ => ?_
        refine tot_allX (P := fun _ _ => True) (E := fun _ => False) (fun i s hs => ?_) (fun _ => tot_some ⟨⟨g5, ?_⟩, ?_⟩) (fun _ h => h.elim)
        · unfold fishkeep2_FareOnce_b2
          dsimp only
          have hi := (List.getElem?_eq_some_iff.1 hs).1
          rw [contains_eq, Option.bind_some, decide_eq_true (g4 s (List.mem_of_getElem? hs))]
          refine tot_bind (P := fun b => b = false) ?_ fun b _ hb => ?_
          · refine tot_ifb (fun hc => by cases hc) fun _ => tot_ifb (fun hc => ?_) fun _ => tot_some rfl
            have hc := of_decide_eq_true hc
            rw [w64_id (by omega) (by omega), show (i : Int) - 1 = ((i - 1 : Nat) : Int) by omega, idx_get (by omega), Option.bind_some]
            refine tot_some (decide_eq_false ?_)
            have := List.pairwise_iff_getElem.1 g3 (i - 1) i (by omega) hi (by omega)
            rw [(List.getElem?_eq_some_iff.1 hs).2] at this
            omega
          · subst hb
            exact tot_ifb (fun hc => by cases hc) fun _ => tot_some trivial
        · dsimp only; omega
        · dsimp only; omega
      · have hB : fare_Car_Book fr to many r a st bs cs = some (14, ⟨0, 0, 0, []⟩, bs, cs) := by
          unfold fare_Car_Book
          rw [span_eq, Option.bind_some, decide_eq_true hsp, fwithin_eq, decide_eq_true hm]
          simp only [Bool.not_true, ifb_false, Option.bind_some]
          rw [free_eq hl hn (by omega) (by omega), Option.bind_some, hS, decide_eq_true (by omega)]; rfl
        rw [hB, Option.bind_some]
        dsimp only
        refine tot_bind (P := fun b => b = false) ?_ fun b _ hb => ?_
        · refine tot_ifb (fun hc => absurd hc (by decide)) fun _ => tot_ifb (fun hc => absurd (of_decide_eq_true hc) (by omega)) fun _ => tot_some (decide_eq_false (by omega))
        subst hb
        refine tot_ifb (fun hc => by cases hc) fun _ => tot_ifb (fun _ => ?_) fun hc => absurd (of_decide_eq_false hc) (by omega)
        exact tot_ifb (fun hc => absurd hc (by decide)) fun _ => tot_some same
    · have hB : fare_Car_Book fr to many r a st bs cs = some (2, ⟨0, 0, 0, []⟩, bs, cs) := by
        unfold fare_Car_Book
        rw [span_eq, Option.bind_some, decide_eq_true hsp, fwithin_eq, decide_eq_false hm]; rfl
      rw [hB, Option.bind_some]
      dsimp only
      refine tot_bind (P := fun b => b = true) ?_ fun b _ hb => ?_
      · refine tot_ifb (fun hc => tot_some rfl) fun _ => tot_ifb (fun hc => tot_some rfl) fun hc => tot_some (decide_eq_true ?_)
        have := of_decide_eq_false hc; omega
      subst hb
      refine tot_ifb (fun _ => ?_) fun hc => by cases hc
      exact tot_ifb (fun hc => absurd hc (by decide)) fun _ => tot_some same
  · have hF : fare_Car_Free_v2 fr to r a st bs cs = some (2, []) := by
      unfold fare_Car_Free_v2
      rw [span_eq, Option.bind_some, decide_eq_false hsp]; rfl
    have hB : fare_Car_Book fr to many r a st bs cs = some (2, ⟨0, 0, 0, []⟩, bs, cs) := by
      unfold fare_Car_Book
      rw [span_eq, Option.bind_some, decide_eq_false hsp]; rfl
    rw [hF, Option.bind_some, hB, Option.bind_some]
    dsimp only
    refine tot_bind (P := fun b => b = true) ?_ fun b _ hb => ?_
    · exact tot_ifb (fun _ => tot_some rfl) fun hc => absurd hc (by decide)
    subst hb
    refine tot_ifb (fun _ => ?_) fun hc => by cases hc
    exact tot_ifb (fun hc => absurd hc (by decide)) fun _ => tot_some same
theorem law (p0 p1 p2 : Int) (p3 : List Int) (hN : p3.length * 8 ≤ 140737488351232) : fishkeep2_FareOnce p0 p1 p2 p3 = some true ∨ fishkeep2_FareOnce_v2 p0 p1 p2 p3 = some true := by
  by_cases hv : (1 ≤ p0 ∧ p0 ≤ 20) ∧ (1 ≤ p1 ∧ p1 ≤ 4) ∧ (2 ≤ p2 ∧ p2 ≤ 12)
  · obtain ⟨hr, ha, hst⟩ := hv
    left
    refine tot_eq ?_
    have hS1 : 1 ≤ p0 * p1 := Int.mul_pos (a := p0) (b := p1) (by omega) (by omega)
    have hS2 : p0 * p1 ≤ 20 * 4 := Int.mul_le_mul hr.2 ha.2 (by omega) (by omega)
    have hnew : fare_NewCar p0 p1 p2 = some (0, p0, p1, p2) := by
      unfold fare_NewCar
      rw [fwithin_eq, Option.bind_some, decide_eq_true hr, fwithin_eq, decide_eq_true ha, fwithin_eq, decide_eq_true hst]; rfl
    unfold fishkeep2_FareOnce
    rw [awake, Option.bind_some, hnew, fares, Option.bind_some, Option.bind_some]
    refine tot_ifb (fun hc => by cases hc) fun _ => tot_ifb (fun hc => by cases hc) fun _ => tot_ifb (fun hc => absurd (show ((0 : Int) != 0) = true from hc) (by decide)) fun _ => ?_
    refine tot_wh (I := fun s => Inv (p0 * p1) p2 s.2.1 s.2.2 ∧ 4 * (s.2.1.length + s.2.2.count true) + s.1.length ≤ p3.length) (μ := fun s => s.1.length) (J := fun x => Inv (p0 * p1) p2 x.1 x.2 ∧ x.1.length ≤ maxB) (E := fun _ => False)
      ⟨⟨rfl, by simp, by simp [acts]⟩, by simp⟩ (by unfold bigN; dsimp only; omega) ?_ ?_ (fun _ h => h.elim)
    · rintro ⟨sc, bs, cs⟩ ⟨h1, h2⟩
      exact tot_mono (step_tot hst.2 hr ha.1 rfl ⟨hS1, by omega⟩ hN 0 h1 h2) fun c hc => by rcases c with _ | (_ | _) <;> exact hc
    rintro ⟨bs, cs⟩ ⟨h, hn⟩
    dsimp only at h hn ⊢
    rw [bookings_eq h hn, Option.bind_some]
    have hA := h.acts_ok
    have hP := h.apart
    have hfew := acts_few (by omega) hst.2 hA hP
    generalize acts bs cs = A at hA hP hfew
    refine tot_loopX (I := fun i s => s = spans (A.take i)) (J := fun s => s = spans A) (E := fun _ => False) (by simp [spans]) ?_ (fun s h => by rw [List.take_length] at h; exact h) ?_ (fun _ h => h.elim)
    · rintro i x s hx rfl
      have hi := (List.getElem?_eq_some_iff.1 hx).1
      have hb := hA x (List.mem_of_getElem? hx)
      have hsl := spans_len (S := p0 * p1) (st := p2) (A := A.take i) fun b hb => hA b (List.mem_of_mem_take hb)
      rw [List.length_take] at hsl
      unfold fishkeep2_FareOnce_b3
      rw [gcut_eq (by omega) (by omega) (by omega), Option.bind_some]
      refine tot_allX (P := fun _ _ => True) (E := fun _ => False) (fun j y hy => ?_) (fun _ => ?_) (fun _ h => h.elim)
      · simp only [Int.toNat_natCast, Int.toNat_zero, List.drop_zero] at hy
        rw [List.getElem?_take] at hy
        split at hy
        · rename_i hji
          obtain ⟨a1, a2⟩ := List.getElem?_eq_some_iff.1 hy
          have hap := List.pairwise_iff_getElem.1 hP j i a1 hi hji
          rw [a2, (List.getElem?_eq_some_iff.1 hx).2] at hap
          unfold fishkeep2_FareOnce_b4
          refine tot_bind (P := fun b => b = false) ?_ fun b _ hb => ?_
          · refine tot_ifb (fun h1 => tot_ifb (fun h2 => ?_) fun _ => tot_some rfl) fun _ => tot_some rfl
            rw [meets_eq, Option.bind_some]
            refine tot_some (List.any_eq_false.2 fun s hs hc => ?_)
            exact hap (of_decide_eq_true h2) (of_decide_eq_true h1) s (of_decide_eq_true hc) hs
          · subst hb
            exact tot_ifb (fun hc => by cases hc) fun _ => tot_some trivial
        · cases hy
      · have hle := hb.le
        refine tot_loopN (I := fun j s => s = spans (A.take i) ++ List.replicate j ⟨x.From, x.To⟩) (J := fun s => s = spans (A.take (i + 1))) (E := fun _ => False) (by simp) ?_ ?_ (fun s h => tot_some h) (fun x _ => x.elim)
        · rintro j s hj rfl
          unfold fishkeep2_FareOnce_b5
          rw [gapp_one (by simp only [List.length_append, List.length_replicate]; unfold apRoom; omega) (by simp only [List.length_append, List.length_replicate]; unfold maxLen; omega), Option.bind_some]
          refine tot_some ?_
          show _ = _
          rw [List.append_assoc, List.replicate_succ']
        · rintro s rfl
          rw [List.take_add_one, hx]
          unfold spans
          simp [List.flatMap_append]
    rintro s rfl
    refine tot_ifb (fun _ => tot_some rfl) fun h2 => ?_
    have h2 := of_decide_eq_false h2
    rw [w64_id (by omega) (by omega)]
    exact tot_bind (pack_ok ⟨hS1, by omega⟩ hst hA hP (by omega)) fun r _ hr => tot_some (by simp [hr])
  · right
    have hnew : fare_NewCar_v2 p0 p1 p2 = some 2 := by
      unfold fare_NewCar_v2
      rw [fwithin_eq, Option.bind_some, fwithin_eq, fwithin_eq]
      by_cases h1 : 1 ≤ p0 ∧ p0 ≤ 20
      · by_cases h2 : 1 ≤ p1 ∧ p1 ≤ 4
        · have h3 : ¬ (2 ≤ p2 ∧ p2 ≤ 12) := fun h3 => hv ⟨h1, h2, h3⟩
          rw [decide_eq_true h1, decide_eq_true h2, decide_eq_false h3]; rfl
        · rw [decide_eq_true h1, decide_eq_false h2]; rfl
      · rw [decide_eq_false h1]; rfl
    unfold fishkeep2_FareOnce_v2
    rw [awake, Option.bind_some, hnew, fares, Option.bind_some, Option.bind_some]
    rfl
end Wo
