/- Matchings: what grow finds, and why there is no greater one. -/
import Derived.Test.YtmhpeefjjclpfaaZ1
set_option linter.unusedVariables false
set_option linter.unusedSimpArgs false
set_option maxRecDepth 100000
namespace Fm
open Go Hk Hd Pl Hs Fl

/-- an entry of a list of numbers, of a table -/
abbrev nx (xs : List Int) (a : Nat) : Int := nth 0 xs (a : Int)
abbrev sn (xs : List Bool) (b : Nat) : Bool := nth true xs (b : Int)
section
variable (n : Nat) (af : Nat → Nat → Bool)
structure Table (A : List (List Bool)) : Prop where
  len : A.length = n
  row : ∀ a, a < n → (nth [] A (a : Int)).length = n
  el : ∀ a b, a < n → b < n → nth true (nth [] A (a : Int)) (b : Int) = af a b
/-- who is matched with whom; X: second ones that are being given away -/
structure MS (X : Nat → Prop) (next prev : List Int) : Prop where
  ln : next.length = n
  lp : prev.length = n
  rn : ∀ a, a < n → -1 ≤ nx next a ∧ nx next a < n
  rp : ∀ b, b < n → -1 ≤ nx prev b ∧ nx prev b < n
  ed : ∀ b, b < n → ∀ a : Nat, a < n → nx prev b = a → af a b = true
  n1 : ∀ a, a < n → ∀ b : Nat, b < n → nx next a = b → nx prev b = a
  n2 : ∀ b, b < n → ¬ X b → ∀ a : Nat, a < n → nx prev b = a → nx next a = b
/-- sets from which no way leads to one that is free -/
structure Shut (prev : List Int) (L R : Nat → Prop) : Prop where
  r : ∀ b, b < n → R b → ∃ a : Nat, a < n ∧ nx prev b = a ∧ L a
  l : ∀ a, a < n → L a → ∀ b, b < n → af a b = true → R b
def Has (X : Nat → Prop) (prev : List Int) (a : Nat) : Prop := ∃ b, b < n ∧ ¬ X b ∧ nx prev b = a
/-- no way has been found -/
structure Lost (a : Nat) (seen : List Bool) (next prev : List Int) (seen' : List Bool) (next' prev' : List Int) : Prop where
  en : next' = next
  ep : prev' = prev
  al : ∀ b, b < n → af a b = true → sn seen' b = true
  cl : ∀ b, b < n → sn seen' b = true → sn seen b = true ∨ ∃ a' : Nat, a' < n ∧ nx prev b = a' ∧ ∀ b', b' < n → af a' b' = true → sn seen' b' = true
structure Won (X L R : Nat → Prop) (a : Nat) (seen : List Bool) (next prev next' prev' : List Int) : Prop where
  ms : MS n af X next' prev'
  old : ∀ b, b < n → sn seen b = true → nx prev' b = nx prev b
  nl : ¬ L a
  rs : ∀ b, b < n → R b → nx prev' b = nx prev b
  nw : ∃ b : Nat, b < n ∧ nx next' a = b ∧ sn seen b = false
  has : ∀ a', a' < n → (Has n X prev' a' ↔ a' = a ∨ Has n X prev a')
structure Post (A : List (List Bool)) (X L R : Nat → Prop) (a : Nat) (seen : List Bool) (next prev : List Int) (r : Bool × List Bool × List Int × List Int × List (List Bool)) : Prop where
  tab : r.2.2.2.2 = A
  len : r.2.1.length = n
  sub : ∀ b, b < n → sn seen b = true → sn r.2.1 b = true
  lost : r.1 = false → Lost n af a seen next prev r.2.1 r.2.2.1 r.2.2.2.1
  won : r.1 = true → Won n af X L R a seen next prev r.2.2.1 r.2.2.2.1
def free (seen : List Bool) : Int := sL (fun x => if x = true then 0 else 1) seen
variable {n af}
theorem nx_set {xs : List Int} {i k : Nat} {v : Int} (hi : i < xs.length) (hk : k < xs.length) : nx (setI xs (i : Int) v) k = if k = i then v else nx xs k := by
  show nth 0 _ _ = _
  rw [nth_setI 0 (by omega) (by omega) (by omega)]
  by_cases e : k = i
  · rw [if_pos e, if_pos (by omega)]
  · rw [if_neg e, if_neg (by omega)]
theorem sn_set {xs : List Bool} {i k : Nat} (hi : i < xs.length) (hk : k < xs.length) : sn (setI xs (i : Int) true) k = true ↔ k = i ∨ sn xs k = true := by
  show nth true _ _ = _ ↔ _
  rw [nth_setI true (by omega) (by omega) (by omega)]
  by_cases e : k = i
  · rw [if_pos (by omega)]; simp [e]
  · rw [if_neg (by omega)]; simp [e]
theorem free_set {xs : List Bool} {i : Nat} (hi : i < xs.length) (h : sn xs i = false) : free (setI xs (i : Int) true) = free xs - 1 := by
  unfold free
  rw [sL_setI true _ _ (by omega) (by omega), show nth true xs (i : Int) = false from h]
  simp
theorem free_nn (xs : List Bool) : 0 ≤ free xs := sL_nn fun x _ => by split <;> omega
theorem sL_free_le : ∀ {a b : List Bool} {n : Nat}, a.length = n → b.length = n → (∀ k, k < n → sn b k = true → sn a k = true) → free a ≤ free b
  | [], [], _, _, _, _ => Int.le_refl _
  | x :: a, y :: b, n, ha, hb, h => by
    simp only [List.length_cons] at ha hb
    have ih := sL_free_le (a := a) (b := b) (n := n - 1) (by omega) (by omega) fun k hk hs => by
      have := h (k + 1) (by omega)
      unfold sn nth at this hs ⊢
      simp only [Int.toNat_natCast, List.getElem?_cons_succ] at this hs ⊢
      exact this hs
    have h0 := h 0 (by omega)
    unfold sn nth at h0
    simp at h0
    unfold free at ih ⊢
    simp only [sL]
    cases x <;> cases y <;> simp at h0 ⊢ <;> omega
  | [], _ :: _, _, h1, h2, _ => by simp at h1 h2; omega
  | _ :: _, [], _, h1, h2, _ => by simp at h1 h2; omega
variable {A : List (List Bool)}
/-- b was free -/
theorem won_free {X L R : Nat → Prop} {a b : Nat} {seen0 : List Bool} {next prev : List Int} (hm : MS n af X next prev) (hs : Shut n af prev L R) (ha : a < n) (hb : b < n) (hX : ¬ X b) (hab : af a b = true) (hu : sn seen0 b = false) (hf : nx prev b < 0) (hna : ¬ Has n X prev a) :
    Won n af X L R a seen0 next prev (setI next (a : Int) (b : Int)) (setI prev (b : Int) (a : Int)) := by
  have hln := hm.ln; have hlp := hm.lp
  have sN : ∀ k, k < n → nx (setI next (a : Int) (b : Int)) k = if k = a then (b : Int) else nx next k := fun k hk => nx_set (by omega) (by omega)
  have sP : ∀ k, k < n → nx (setI prev (b : Int) (a : Int)) k = if k = b then (a : Int) else nx prev k := fun k hk => nx_set (by omega) (by omega)
  have nR : ¬ R b := fun h => by obtain ⟨a', _, e, _⟩ := hs.r b hb h; omega
  refine ⟨⟨by rw [setI_length]; exact hln, by rw [setI_length]; exact hlp, fun k hk => ?_, fun k hk => ?_, fun k hk a' ha' e => ?_, fun k hk c hc e => ?_, fun c hc hXc a' ha' e => ?_⟩, fun c hc hsc => ?_, fun h => nR (hs.l a ha h b hb hab), fun c hc hR => ?_, ⟨b, hb, by rw [sN a ha, if_pos rfl], hu⟩, fun a' ha' => ?_⟩
  · rw [sN k hk]; split
    · omega
    · exact hm.rn k hk
  · rw [sP k hk]; split
    · omega
    · exact hm.rp k hk
  · rw [sP k hk] at e
    by_cases q : k = b
    · rw [if_pos q] at e; subst q; rw [show a' = a by omega]; exact hab
    · rw [if_neg q] at e; exact hm.ed k hk a' ha' e
  · rw [sN k hk] at e
    rw [sP c hc]
    by_cases q : k = a
    · rw [if_pos q] at e; rw [if_pos (by omega)]; omega
    · rw [if_neg q] at e
      have := hm.n1 k hk c hc e
      by_cases q2 : c = b
      · subst q2; omega
      · rw [if_neg q2]; exact this
  · rw [sP c hc] at e
    rw [sN a' ha']
    by_cases q : c = b
    · rw [if_pos q] at e; rw [if_pos (by omega)]; omega
    · rw [if_neg q] at e
      by_cases q2 : a' = a
      · subst q2; exact absurd ⟨c, hc, hXc, e⟩ hna
      · rw [if_neg q2]; exact hm.n2 c hc hXc a' ha' e
  · rw [sP c hc, if_neg fun e => by subst e; rw [hu] at hsc; cases hsc]
  · rw [sP c hc, if_neg fun e => by subst e; exact nR hR]
  · constructor
    · rintro ⟨c, hc, hXc, e⟩
      rw [sP c hc] at e
      by_cases q : c = b
      · rw [if_pos q] at e; exact .inl (by omega)
      · rw [if_neg q] at e; exact .inr ⟨c, hc, hXc, e⟩
    · rintro (e | ⟨c, hc, hXc, e⟩)
      · exact ⟨b, hb, hX, by rw [sP b hb, if_pos rfl, e]⟩
      · refine ⟨c, hc, hXc, ?_⟩
        rw [sP c hc, if_neg fun q => by subst q; omega]; exact e
/-- b's first one has found another one -/
theorem won_step {X L R : Nat → Prop} {a b p : Nat} {seen0 seen1 : List Bool} {next prev next1 prev1 : List Int} (hm : MS n af X next prev) (hs : Shut n af prev L R) (ha : a < n) (hb : b < n) (hp : p < n) (hX : ¬ X b) (hab : af a b = true) (hu : sn seen0 b = false) (hf : nx prev b = p) (hna : ¬ Has n X prev a)
    (h01 : ∀ c, c < n → sn seen0 c = true → sn seen1 c = true) (hb1 : sn seen1 b = true) (hw : Won n af (fun c => X c ∨ c = b) L R p seen1 next prev next1 prev1) :
    Won n af X L R a seen0 next prev (setI next1 (a : Int) (b : Int)) (setI prev1 (b : Int) (a : Int)) := by
  have hm1 := hw.ms
  have hln := hm1.ln; have hlp := hm1.lp
  have sN : ∀ k, k < n → nx (setI next1 (a : Int) (b : Int)) k = if k = a then (b : Int) else nx next1 k := fun k hk => nx_set (by omega) (by omega)
  have sP : ∀ k, k < n → nx (setI prev1 (b : Int) (a : Int)) k = if k = b then (a : Int) else nx prev1 k := fun k hk => nx_set (by omega) (by omega)
  have pb : nx prev1 b = p := by rw [hw.old b hb hb1]; exact hf
  obtain ⟨b', hb', nb', ub'⟩ := hw.nw
  have nbb : b' ≠ b := fun e => by subst e; rw [hb1] at ub'; cases ub'
  have nR : ¬ R b := fun h => by
    obtain ⟨a', ha', e, hL⟩ := hs.r b hb h
    exact hw.nl (by rwa [show p = a' by omega])
  have nap : a ≠ p := fun e => hna ⟨b, hb, hX, by omega⟩
  have na1 : ¬ Has n (fun c => X c ∨ c = b) prev1 a := fun h => by
    rcases (hw.has a ha).1 h with e | ⟨c, hc, hXc, e⟩
    · exact nap e
    · exact hna ⟨c, hc, fun q => hXc (.inl q), e⟩
  refine ⟨⟨by rw [setI_length]; exact hln, by rw [setI_length]; exact hlp, fun k hk => ?_, fun k hk => ?_, fun k hk a' ha' e => ?_, fun k hk c hc e => ?_, fun c hc hXc a' ha' e => ?_⟩, fun c hc hsc => ?_, fun h => nR (hs.l a ha h b hb hab), fun c hc hR => ?_, ⟨b, hb, by rw [sN a ha, if_pos rfl], hu⟩, fun a' ha' => ?_⟩
  · rw [sN k hk]; split
    · omega
    · exact hm1.rn k hk
  · rw [sP k hk]; split
    · omega
    · exact hm1.rp k hk
  · rw [sP k hk] at e
    by_cases q : k = b
    · rw [if_pos q] at e; subst q; rw [show a' = a by omega]; exact hab
    · rw [if_neg q] at e; exact hm1.ed k hk a' ha' e
  · rw [sN k hk] at e
    rw [sP c hc]
    by_cases q : k = a
    · rw [if_pos q] at e; rw [if_pos (by omega)]; omega
    · rw [if_neg q] at e
      have h1 := hm1.n1 k hk c hc e
      by_cases q2 : c = b
      · subst q2
        have : k = p := by omega
        subst this; omega
      · rw [if_neg q2]; exact h1
  · rw [sP c hc] at e
    rw [sN a' ha']
    by_cases q : c = b
    · rw [if_pos q] at e; rw [if_pos (by omega)]; omega
    · rw [if_neg q] at e
      have hXc' : ¬ (X c ∨ c = b) := fun h => h.elim hXc q
      by_cases q2 : a' = a
      · subst q2; exact absurd ⟨c, hc, hXc', e⟩ na1
      · rw [if_neg q2]; exact hm1.n2 c hc hXc' a' ha' e
  · rw [sP c hc, if_neg fun e => by subst e; rw [hu] at hsc; cases hsc]
    exact hw.old c hc (h01 c hc hsc)
  · rw [sP c hc, if_neg fun e => by subst e; exact nR hR]
    exact hw.rs c hc hR
  · constructor
    · rintro ⟨c, hc, hXc, e⟩
      rw [sP c hc] at e
      by_cases q : c = b
      · rw [if_pos q] at e; exact .inl (by omega)
      · rw [if_neg q] at e
        rcases (hw.has a' ha').1 ⟨c, hc, fun h => h.elim hXc q, e⟩ with e2 | ⟨c', hc', hXc', e'⟩
        · exact .inr ⟨b, hb, hX, by rw [hf, e2]⟩
        · exact .inr ⟨c', hc', fun h => hXc' (.inl h), e'⟩
    · have back : Has n (fun c => X c ∨ c = b) prev1 a' → Has n X (setI prev1 (b : Int) (a : Int)) a' := fun ⟨c, hc, hXc, e⟩ => ⟨c, hc, fun h => hXc (.inl h), by rw [sP c hc, if_neg fun q => hXc (.inr q)]; exact e⟩
      rintro (e | ⟨c, hc, hXc, e⟩)
      · exact ⟨b, hb, hX, by rw [sP b hb, if_pos rfl, e]⟩
      · by_cases q : c = b
        · subst q
          exact back ((hw.has a' ha').2 (.inl (by omega)))
        · exact back ((hw.has a' ha').2 (.inr ⟨c, hc, fun h => h.elim hXc q, e⟩))
theorem grow_ok (hA : Table n af A) (hn : n ≤ 1000) : ∀ (m : Nat) {X L R : Nat → Prop} {a : Nat} {seen : List Bool} {next prev : List Int}, free seen < m → a < n → seen.length = n → (∀ b, b < n → X b → sn seen b = true) → MS n af X next prev → Shut n af prev L R → ¬ Has n X prev a →
    Tot (fleet_matching_grow_n m (a : Int) seen A next prev) (Post n af A X L R a seen next prev)
  | 0, _, _, _, _, seen, _, _, h, _, _, _, _, _, _ => by have := free_nn seen; omega
  | m + 1, X, L, R, a, seen, next, prev, hfree, ha, hsl, hX, hm, hs, hna => by
    have ih := @grow_ok hA hn m
    have hAl := hA.len
    show Tot (fleet_matching_grow_step (fleet_matching_grow_n m) (a : Int) seen A next prev) _
    unfold fleet_matching_grow_step
    rw [idx_nth [] (xs := A) (i := (a : Int)) (by omega) (by omega)]
    simp only [Option.bind_some]
    have hrow := hA.row a ha
    refine tot_loopX (I := fun i st => st.2.1 = next ∧ st.2.2.1 = prev ∧ st.2.2.2 = A ∧ st.1.length = n ∧ (∀ b, b < n → sn seen b = true → sn st.1 b = true) ∧ free st.1 ≤ free seen ∧ (∀ b, b < i → b < n → af a b = true → sn st.1 b = true) ∧
        ∀ b, b < n → sn st.1 b = true → sn seen b = true ∨ ∃ a' : Nat, a' < n ∧ nx prev b = a' ∧ ∀ b', b' < n → af a' b' = true → sn st.1 b' = true)
      (J := fun st => Post n af A X L R a seen next prev (false, st.1, st.2.1, st.2.2.1, st.2.2.2)) (E := Post n af A X L R a seen next prev)
      ⟨rfl, rfl, rfl, hsl, fun b _ h => h, Int.le_refl _, fun b h => by omega, fun b _ h => .inl h⟩ (fun b is st hb hI => ?_) (fun st hI => ?_) (fun st hJ => tot_some hJ) (fun r hr => tot_some hr)
    · obtain ⟨se, nex, pre, tb⟩ := st
      obtain ⟨i1, i2, i3, i4, i5, i6, i7, i8⟩ := hI
      simp only at i1 i2 i3 i4 i5 i6 i7 i8
      subst i1 i2 i3
      have hbn : b < n := by have := (List.getElem?_eq_some_iff.1 hb).1; omega
      have eis : is = af a b := by rw [← hA.el a b ha hbn, nth_nat true hb]
      subst eis
      have hln := hm.ln; have hlp := hm.lp
      unfold fleet_matching_grow_b1
      simp only
      have skip : (af a b = true → sn se b = true) → ∀ c, c < b + 1 → c < n → af a c = true → sn se c = true := fun h c hc hcn hac => by
        by_cases e : c = b
        · subst e; exact h hac
        · exact i7 c (by omega) hcn hac
      refine tot_bind (P := fun q => q = (!(af a b) || sn se b)) ?_ fun q _ hq => ?_
      · cases hab : af a b with
        | false => exact tot_some rfl
        | true =>
          simp only [Bool.not_true, ifb_false]
          rw [idx_nth true (xs := se) (by omega) (by omega)]
          exact tot_some (by simp)
      subst hq
      refine tot_ifb (fun q => ?_) fun q => ?_
      · exact tot_some ⟨rfl, rfl, rfl, i4, i5, i6, skip fun h => (by rw [h] at q; simpa using q), i8⟩
      · simp only [Bool.or_eq_false_iff, Bool.not_eq_false'] at q
        obtain ⟨hab, hub⟩ := q
        have hu : sn seen b = false := by
          cases h : sn seen b with
          | false => rfl
          | true => rw [i5 b hbn h] at hub; cases hub
        have nX : ¬ X b := fun h => by rw [hX b hbn h] at hu; cases hu
        have fs := free_set (xs := se) (i := b) (by omega) hub
        have ss : ∀ k, k < n → (sn (setI se (b : Int) true) k = true ↔ k = b ∨ sn se k = true) := fun k hk => sn_set (by omega) (by omega)
        rw [idx_nth true (xs := se) (by omega) (by omega), idx_nth 0 (xs := pre) (by omega) (by omega)]
        simp only [Option.bind_some]
        have hr := hm.rp b hbn
        -- behind the choice
        refine tot_bind (P := fun s => s.2.2.2.2 = tb ∧ s.2.1.length = n ∧ (∀ c, c < n → (c = b ∨ sn se c = true) → sn s.2.1 c = true) ∧ free s.2.1 ≤ free seen ∧
            (s.1 = true → nx pre b < 0 ∧ s.2.2.1 = nex ∧ s.2.2.2.1 = pre ∨ ∃ p : Nat, p < n ∧ nx pre b = p ∧ Won n af (fun c => X c ∨ c = b) L R p (setI se (b : Int) true) nex pre s.2.2.1 s.2.2.2.1) ∧
            (s.1 = false → ∃ p : Nat, p < n ∧ nx pre b = p ∧ Lost n af p (setI se (b : Int) true) nex pre s.2.1 s.2.2.1 s.2.2.2.1)) ?_ fun s _ hsP => ?_
        · refine tot_ifb (fun q => ?_) fun q => ?_
          · have q := of_decide_eq_true q
            exact tot_some ⟨rfl, by rw [setI_length]; exact i4, fun c hc h => (ss c hc).2 h, by simp only; omega, fun _ => .inl ⟨q, rfl, rfl⟩, fun h => by cases h⟩
          · have q := of_decide_eq_false q
            obtain ⟨p, ep⟩ : ∃ p : Nat, nth 0 pre (b : Int) = p := ⟨(nth 0 pre (b : Int)).toNat, by have : nx pre b = nth 0 pre (b : Int) := rfl; omega⟩
            have hp : p < n := by have : nx pre b = p := ep; omega
            rw [ep]
            refine tot_bind (ih (X := fun c => X c ∨ c = b) (L := L) (R := R) (a := p) (seen := setI se (b : Int) true) (next := nex) (prev := pre) (by omega) hp (by rw [setI_length]; exact i4) (fun c hc h => (ss c hc).2 (h.elim (fun h => .inr (i5 c hc (hX c hc h))) .inl))
              ⟨hm.ln, hm.lp, hm.rn, hm.rp, hm.ed, hm.n1, fun c hc hXc a' ha' e => hm.n2 c hc (fun h => hXc (.inl h)) a' ha' e⟩ hs ?_) fun r _ hr => ?_
            · rintro ⟨c, hc, hXc, e⟩
              have h1 := hm.n2 c hc (fun h => hXc (.inl h)) p hp e
              have h2 := hm.n2 b hbn nX p hp ep
              exact hXc (.inr (by omega))
            · refine tot_some ⟨hr.tab, hr.len, fun c hc h => hr.sub c hc ((ss c hc).2 h), ?_, fun h => .inr ⟨p, hp, ep, hr.won h⟩, fun h => ⟨p, hp, ep, hr.lost h⟩⟩
              -- what was seen stays seen
              have := sL_free_le hr.len (by rw [setI_length]; exact i4) hr.sub
              simp only; omega
        · obtain ⟨ok, se1, nex1, pre1, tb1⟩ := s
          obtain ⟨p1, p2, p3, p4, p5, p6⟩ := hsP
          simp only at p1 p2 p3 p4 p5 p6 ⊢
          subst p1
          refine tot_ifb (fun q => ?_) fun q => ?_
          · have len1 : nex1.length = n ∧ pre1.length = n := by
              rcases p5 q with ⟨_, e1, e2⟩ | ⟨p, _, _, w⟩
              · rw [e1, e2]; exact ⟨hln, hlp⟩
              · exact ⟨w.ms.ln, w.ms.lp⟩
            rw [idx_nth 0 (xs := nex1) (by omega) (by omega)]
            simp only [Option.bind_some]
            rw [idx_nth 0 (xs := pre1) (by omega) (by omega)]
            refine tot_some ⟨rfl, p2, fun c hc h => p3 c hc (.inr (i5 c hc h)), fun h => (by cases h), fun _ => ?_⟩
            rcases p5 q with ⟨f, e1, e2⟩ | ⟨p, hp, ep, w⟩
            · simp only [e1, e2]
              exact won_free hm hs ha hbn nX hab hu f hna
            · exact won_step hm hs ha hbn hp nX hab hu ep hna (fun c hc h => (ss c hc).2 (.inr (i5 c hc h))) ((ss b hbn).2 (.inl rfl)) w
          · obtain ⟨p, hp, ep, lo⟩ := p6 q
            refine tot_some ⟨lo.en, lo.ep, rfl, p2, fun c hc h => p3 c hc (.inr (i5 c hc h)), p4, fun c hc hcn hac => ?_, fun c hc hsc => ?_⟩
            · by_cases e : c = b
              · subst e; exact p3 c hcn (.inl rfl)
              · exact p3 c hcn (.inr (i7 c (by omega) hcn hac))
            · rcases lo.cl c hc hsc with h | h
              · rcases (ss c hc).1 h with e | h
                · subst e; exact .inr ⟨p, hp, ep, lo.al⟩
                · rcases i8 c hc h with h | ⟨a', h1, h2, h3⟩
                  · exact .inl h
                  · exact .inr ⟨a', h1, h2, fun b' hb' hab' => p3 b' hb' (.inr (h3 b' hb' hab'))⟩
              · exact .inr h
    · obtain ⟨i1, i2, i3, i4, i5, i6, i7, i8⟩ := hI
      exact ⟨i3, i4, i5, fun _ => ⟨i1, i2, fun b hb h => i7 b (by rw [hrow]; exact hb) hb h, i8⟩, fun h => (by cases h)⟩
end
end Fm

/- Covers: as few turns as can be. -/
set_option linter.unusedVariables false
set_option linter.unusedSimpArgs false
set_option maxRecDepth 100000
namespace Fm
open Go Hk Hd Pl Hs Fl

theorem subLen {α : Type} [DecidableEq α] : ∀ {a b : List α}, a.Nodup → (∀ x ∈ a, x ∈ b) → a.length ≤ b.length
  | [], _, _, _ => Nat.zero_le _
  | x :: a, b, hn, hs => by
    obtain ⟨h1, h2⟩ := List.nodup_cons.1 hn
    have hx := hs x (by simp)
    have := subLen (a := a) (b := b.erase x) h2 fun y hy => (List.mem_erase_of_ne (fun e : y = x => h1 (by subst e; exact hy))).2 (hs y (by simp [hy]))
    rw [List.length_erase_of_mem hx] at this
    have := List.length_pos_of_mem hx
    simp only [List.length_cons]; omega
open Classical in
/-- how many below n -/
noncomputable def cnt (p : Nat → Prop) (n : Nat) : Int := sumN (fun j => if p j then 1 else 0) n
open Classical in
theorem cnt_eq (p : Nat → Prop) : ∀ n, cnt p n = (((List.range n).filter fun j => decide (p j)).length : Int)
  | 0 => rfl
  | n + 1 => by
    rw [List.range_succ, List.filter_append, List.length_append]
    have := cnt_eq p n
    unfold cnt at this ⊢
    simp only [sumN, this]
    by_cases h : p n <;> simp [List.filter_cons, h]
open Classical in
theorem cnt_map {p q : Nat → Prop} {n : Nat} (f : Nat → Nat) (h : ∀ j, j < n → p j → f j < n ∧ q (f j)) (hi : ∀ i j, i < n → j < n → p i → p j → f i = f j → i = j) : cnt p n ≤ cnt q n := by
  rw [cnt_eq, cnt_eq]
  have hnd : (((List.range n).filter fun j => decide (p j)).map f).Nodup := by
    refine List.pairwise_map.2 ((List.Pairwise.filter _ List.nodup_range).imp_of_mem fun {a b} ha hb hab e => hab ?_)
    rw [List.mem_filter, List.mem_range, decide_eq_true_eq] at ha hb
    exact hi a b ha.1 hb.1 ha.2 hb.2 e
  have := subLen (b := (List.range n).filter fun j => decide (q j)) hnd fun x hx => by
    obtain ⟨j, hj, rfl⟩ := List.mem_map.1 hx
    rw [List.mem_filter, List.mem_range, decide_eq_true_eq] at hj
    have := h j hj.1 hj.2
    rw [List.mem_filter, List.mem_range, decide_eq_true_eq]
    exact this
  simp only [List.length_map] at this
  omega
theorem cnt_split (p q : Nat → Prop) (n : Nat) : cnt p n = cnt (fun j => p j ∧ q j) n + cnt (fun j => p j ∧ ¬ q j) n := by
  unfold cnt
  induction n with
  | zero => rfl
  | succ n ih =>
    simp only [sumN, ih]
    by_cases h : p n <;> by_cases h2 : q n <;> simp [h, h2] <;> omega
theorem cnt_le {p q : Nat → Prop} {n : Nat} (h : ∀ j, j < n → p j → q j) : cnt p n ≤ cnt q n := cnt_map id (fun j hj hp => ⟨hj, h j hj hp⟩) fun _ _ _ _ _ _ e => e
open Classical in
theorem cnt_succ (p : Nat → Prop) (n : Nat) : cnt p (n + 1) = cnt p n + if p n then 1 else 0 := rfl
theorem cnt_not (p : Nat → Prop) (n : Nat) : cnt p n + cnt (fun j => ¬ p j) n = n := by
  induction n with
  | zero => rfl
  | succ n ih =>
    rw [cnt_succ, cnt_succ]
    by_cases h : p n
    · rw [if_pos h, if_neg (by simpa using h)]; omega
    · rw [if_neg h, if_pos h]; omega
section
variable (n : Nat) (af : Nat → Nat → Bool)
structure Final (next prev : List Int) : Prop where
  ms : MS n af (fun _ => False) next prev
  shut : ∃ L R, Shut n af prev L R ∧ ∀ a, a < n → Has n (fun _ => False) prev a ∨ L a
noncomputable def unm (prev : List Int) : Int := cnt (fun b => nx prev b < 0) n
variable {n af}
/-- what bounds all matchings from above is reached -/
theorem unm_le {next prev : List Int} (h : Final n af next prev) : ∃ L R : Nat → Prop, (∀ a b, a < n → b < n → af a b = true → L a → R b) ∧ unm n prev ≤ n - (cnt R n + cnt (fun a => ¬ L a) n) := by
  obtain ⟨L, R, hs, hall⟩ := h.shut
  have hm := h.ms
  refine ⟨L, R, fun a b ha hb hab hL => hs.l a ha hL b hb hab, ?_⟩
  have e1 := cnt_not (fun b => nx prev b < 0) n
  have e2 := cnt_split (fun b => ¬ nx prev b < 0) R n
  have e3 : cnt R n ≤ cnt (fun b => ¬ nx prev b < 0 ∧ R b) n := cnt_le fun j hj hR => ⟨by obtain ⟨a, _, e, _⟩ := hs.r j hj hR; omega, hR⟩
  have e4 : cnt (fun a => ¬ L a) n ≤ cnt (fun b => ¬ nx prev b < 0 ∧ ¬ R b) n := by
    have key : ∀ a, a < n → ¬ L a → ∃ b : Nat, b < n ∧ nx next a = b ∧ nx prev b = a := fun a ha hL => by
      obtain ⟨b, hb, _, e⟩ := (hall a ha).resolve_right hL
      exact ⟨b, hb, hm.n2 b hb (fun h => h) a ha e, e⟩
    refine cnt_map (fun a => (nx next a).toNat) (fun a ha hL => ?_) fun i j hi hj hLi hLj e => ?_
    · obtain ⟨b, hb, e1, e2⟩ := key a ha hL
      rw [show (nx next a).toNat = b by omega]
      refine ⟨hb, by omega, fun hR => ?_⟩
      obtain ⟨a', ha', e3, hL'⟩ := hs.r b hb hR
      exact hL (by rwa [show a = a' by omega])
    · obtain ⟨b, hb, e1, e2⟩ := key i hi hLi
      obtain ⟨c, hc, e3, e4⟩ := key j hj hLj
      have e : (nx next i).toNat = (nx next j).toNat := e
      have : b = c := by omega
      subst this; omega
  unfold unm
  omega
/-- with more that may be, no more turns -/
theorem unm_more {af' : Nat → Nat → Bool} {next prev next' prev' : List Int} (h : Final n af next prev) (h' : Final n af' next' prev') (hle : ∀ a b, a < n → b < n → af a b = true → af' a b = true) : unm n prev' ≤ unm n prev := by
  obtain ⟨L, R, hs, hb⟩ := unm_le h'
  have hm := h.ms
  have e1 := cnt_not (fun b => nx prev b < 0) n
  have e2 := cnt_split (fun b => ¬ nx prev b < 0) R n
  have e3 : cnt (fun b => ¬ nx prev b < 0 ∧ R b) n ≤ cnt R n := cnt_le fun j _ h => h.2
  have e4 : cnt (fun b => ¬ nx prev b < 0 ∧ ¬ R b) n ≤ cnt (fun a => ¬ L a) n := by
    refine cnt_map (fun b => (nx prev b).toNat) (fun b hb hp => ?_) fun i j hi hj hpi hpj e => ?_
    · have r := hm.rp b hb
      have r1 := hp.1
      obtain ⟨a, ea⟩ : ∃ a : Nat, nx prev b = a := ⟨(nx prev b).toNat, by omega⟩
      show (nx prev b).toNat < n ∧ ¬ L (nx prev b).toNat
      rw [show (nx prev b).toNat = a by omega]
      exact ⟨by omega, fun hL => hp.2 (hs a b (by omega) hb (hle a b (by omega) hb (hm.ed b hb a (by omega) ea)) hL)⟩
    · have r1 := hm.rp i hi; have r2 := hm.rp j hj
      have p1 := hpi.1; have p2 := hpj.1
      obtain ⟨a, ea⟩ : ∃ a : Nat, nx prev i = a := ⟨(nx prev i).toNat, by omega⟩
      have e : (nx prev i).toNat = (nx prev j).toNat := e
      have ea' : nx prev j = a := by omega
      have h1 := hm.n2 i hi (fun h => h) a (by omega) ea
      have h2 := hm.n2 j hj (fun h => h) a (by omega) ea'
      omega
  unfold unm at hb ⊢
  omega
theorem sL_count (f : Nat → Int) : ∀ {t : List Int}, (∀ x ∈ t, 0 ≤ x ∧ x < n) → sL (fun x => f x.toNat) t = sumN (fun j => f j * (t.count (j : Int) : Int)) n
  | [], _ => by
    rw [sumN_eq (g := fun _ => 0) fun i _ => by simp, sumN_const]; simp [sL]
  | x :: t, h => by
    have ih := sL_count f (t := t) fun y hy => h y (by simp [hy])
    have hx := h x (by simp)
    simp only [sL, ih]
    have e := sumN_upd (f := fun j => f j * (t.count (j : Int) : Int)) (g := fun j => f j * ((x :: t).count (j : Int) : Int)) (k := x.toNat) (n := n) (by omega) fun i _ hi => by
      have : x ≠ (i : Int) := by omega
      simp only [List.count_cons, beq_iff_eq, if_neg this, Nat.add_zero]
    rw [e]
    have : ((x.toNat : Nat) : Int) = x := by omega
    simp only [List.count_cons, this, beq_self_eq_true, if_true, Int.natCast_add, Int.mul_add]
    omega
/-- turns that run along what may be: no fewer than that -/
theorem turns_ge {next prev : List Int} (h : Final n af next prev) {T : List (List Int)} (hne : ∀ t ∈ T, t ≠ []) (hix : ∀ t ∈ T, ∀ x ∈ t, 0 ≤ x ∧ x < n)
    (hch : ∀ t ∈ T, ∀ i : Int, 0 ≤ i → i + 1 < t.length → af (nth 0 t i).toNat (nth 0 t (i + 1)).toNat = true) (hc : ∀ j : Nat, j < n → sL (fun t => (t.count (j : Int) : Int)) T = 1) : unm n prev ≤ T.length := by
  classical
  obtain ⟨L, R, hs, hb⟩ := unm_le h
  have swap : ∀ f : Nat → Int, sL (fun t => sL (fun x => f x.toNat) t) T = sumN f n := fun f => by
    rw [sL_cong (g := fun t => sumN (fun j => f j * (t.count (j : Int) : Int)) n) fun t ht => sL_count f (hix t ht), sL_sumN (fun j (t : List Int) => f j * (t.count (j : Int) : Int))]
    refine sumN_eq fun j hj => ?_
    have e : ∀ T : List (List Int), sL (fun t => f j * (t.count (j : Int) : Int)) T = f j * sL (fun t => (t.count (j : Int) : Int)) T := fun T => by
      induction T with
      | nil => simp [sL]
      | cons t T ih => simp only [sL, ih, Int.mul_add]
    rw [e, hc j hj, Int.mul_one]
  have s1 := swap fun _ => 1
  have s2 := swap fun j => if R j then 1 else 0
  have s3 := swap fun j => if ¬ L j then 1 else 0
  have one : ∀ t ∈ T, (t.length : Int) - 1 ≤ sL (fun x => if ¬ L x.toNat then 1 else 0) t + sL (fun x => if R x.toNat then 1 else 0) t := fun t ht => by
    have gen : ∀ t : List Int, t ≠ [] → (∀ x ∈ t, 0 ≤ x ∧ x < n) → (∀ i : Int, 0 ≤ i → i + 1 < t.length → af (nth 0 t i).toNat (nth 0 t (i + 1)).toNat = true) → (t.length : Int) - 1 ≤ sL (fun x => if ¬ L x.toNat then 1 else 0) t + sL (fun x => if R x.toNat then 1 else 0) t.tail := by
      intro t
      induction t with
      | nil => intro h; exact absurd rfl h
      | cons x t ih =>
        intro _ hx hc
        cases t with
        | nil => simp only [sL, List.length_singleton, List.tail_cons]; split <;> omega
        | cons y r =>
          have := ih (by simp) (fun z hz => hx z (by simp [hz])) fun i h0 h1 => by
            have := hc (i + 1) (by omega) (by simp only [List.length_cons] at h1 ⊢; omega)
            have e : ∀ k : Int, 0 ≤ k → nth 0 (x :: y :: r) (k + 1) = nth 0 (y :: r) k := fun k hk => by
              unfold nth
              rw [show (k + 1).toNat = k.toNat + 1 by omega, List.getElem?_cons_succ]
            rwa [e i h0, e (i + 1) (by omega)] at this
          have h0 := hc 0 (by omega) (by simp only [List.length_cons]; omega)
          rw [show nth 0 (x :: y :: r) 0 = x from rfl, show nth 0 (x :: y :: r) (0 + 1) = y from rfl] at h0
          have hx0 := hx x (by simp); have hy0 := hx y (by simp)
          have hLR := hs x.toNat y.toNat (by omega) (by omega) h0
          simp only [sL, List.length_cons, List.tail_cons] at this ⊢
          by_cases q : L x.toNat
          · rw [if_pos (hLR q)]; split <;> omega
          · rw [if_pos q]
            by_cases q2 : R y.toNat
            · rw [if_pos q2]; omega
            · rw [if_neg q2]; omega
    have h1 := gen t (hne t ht) (hix t ht) (hch t ht)
    have h2 : sL (fun x => if R x.toNat then 1 else 0) t.tail ≤ sL (fun x => if R x.toNat then (1 : Int) else 0) t := by
      cases t with
      | nil => exact Int.le_refl _
      | cons x t => simp only [sL, List.tail_cons]; split <;> omega
    omega
  have tot : sL (fun t : List Int => (t.length : Int) - 1) T ≤ sL (fun t => sL (fun x => if ¬ L x.toNat then 1 else 0) t + sL (fun x => if R x.toNat then 1 else 0) t) T := sL_le one
  have add : ∀ (f g : List Int → Int) (T : List (List Int)), sL (fun t => f t + g t) T = sL f T + sL g T := fun f g T => by
    induction T with
    | nil => rfl
    | cons t T ih => simp only [sL, ih]; omega
  rw [add, s3, s2] at tot
  have len : sL (fun t : List Int => (t.length : Int) - 1) T = n - T.length := by
    have e : sL (fun t : List Int => (t.length : Int) - 1) T = sL (fun t : List Int => (t.length : Int)) T - T.length := by
      have : ∀ T : List (List Int), sL (fun t : List Int => (t.length : Int) - 1) T = sL (fun t : List Int => (t.length : Int)) T - T.length := fun T => by
        induction T with
        | nil => rfl
        | cons t T ih => simp only [sL, ih, List.length_cons]; omega
      exact this T
    have e2 : sL (fun t : List Int => (t.length : Int)) T = n := by
      rw [sL_cong (g := fun t => sL (fun x => (fun _ => 1) x.toNat) t) fun t _ => (sL_one t).symm, s1, sumN_const]; omega
    rw [e, e2]
  have c1 : cnt R n = sumN (fun j => if R j then 1 else 0) n := sumN_eq fun j _ => by by_cases h : R j <;> simp [h]
  have c2 : cnt (fun a => ¬ L a) n = sumN (fun j => if ¬ L j then 1 else 0) n := sumN_eq fun j _ => by by_cases h : L j <;> simp [h]
  omega
end

/-! ### the walk -/
def cell (secs : List (List Int)) (a b : Int) : Int := nth 0 (nth [] secs a) b
structure SecsOk (secs : List (List Int)) : Prop where
  len : secs.length = 12
  row : ∀ i : Int, 0 ≤ i → i < 12 → (nth [] secs i).length = 12
  bd : ∀ i j : Int, 0 ≤ i → i < 12 → 0 ≤ j → j < 12 → 0 ≤ cell secs i j ∧ cell secs i j ≤ 28800
  di : ∀ i : Int, 0 ≤ i → i < 12 → cell secs i i = 0
theorem SecsOk.idx {secs : List (List Int)} (h : SecsOk secs) {i : Int} (h0 : 0 ≤ i) (h1 : i < 12) : idx secs i = some (nth [] secs i) := idx_nth [] h0 (by have := h.len; omega)
theorem SecsOk.idx2 {secs : List (List Int)} (h : SecsOk secs) {i j : Int} (h0 : 0 ≤ i) (h1 : i < 12) (h2 : 0 ≤ j) (h3 : j < 12) : Hk.idx (nth [] secs i) j = some (cell secs i j) := idx_nth 0 h2 (by have := h.row i h0 h1; omega)
section
variable {l : List S_fleet_Task} {turn : Int} {secs : List (List Int)}
def aft (l : List S_fleet_Task) (turn : Int) (secs : List (List Int)) (a b : Nat) : Bool := decide ((tk l b).Dep ≥ (tk l a).Arr + turn + cell secs (tk l a).To (tk l b).From)
theorem repeat_eq : ∀ k : Nat, k ≤ 20 → slices_Repeat_int_int_v2 (k : Int) [(-1)] = some (List.replicate k (-1)) := by
  intro k hk
  rcases k with _ | _ | _ | _ | _ | _ | _ | _ | _ | _ | _ | _ | _ | _ | _ | _ | _ | _ | _ | _ | _ | k
  all_goals first | omega | kernel_rfl
theorem match_ok (hok : Ok l turn) (h20 : l.length ≤ 20) (hs : SecsOk secs) : Tot (fleet_match l turn secs) fun r => Final l.length (aft l turn secs) r.2.1 r.2.2 := by
  have t0 := hok.t0; have t1 := hok.t1
  unfold fleet_match
  rw [repeat_eq _ h20]
  simp only [Option.bind_some]
  refine tot_loopX (I := fun i st => st.length = i ∧ ∀ a, a < i → (nth [] st (a : Int)).length = l.length ∧ ∀ b, b < l.length → nth true (nth [] st (a : Int)) (b : Int) = aft l turn secs a b) (J := Table l.length (aft l turn secs)) (E := fun _ => False)
    ⟨rfl, fun a h => by omega⟩ (fun a x st hx hI => ?_) (fun st hI => ⟨hI.1, fun a ha => (hI.2 a ha).1, fun a b ha hb => (hI.2 a ha).2 b hb⟩) (fun A hA => ?_) (fun _ h => h.elim)
  · obtain ⟨i1, i2⟩ := hI
    have ha := (List.getElem?_eq_some_iff.1 hx).1
    have ex := tk_get hx
    have kx := hok.all x (List.mem_of_getElem? hx)
    unfold fleet_match_b1
    refine tot_loopX (I := fun i st => st.length = i ∧ ∀ b, b < i → nth true st (b : Int) = aft l turn secs a b) (J := fun st => st.length = l.length ∧ ∀ b, b < l.length → nth true st (b : Int) = aft l turn secs a b) (E := fun _ => False)
      ⟨rfl, fun b h => by omega⟩ (fun b y r hy hI => ?_) (fun r h => h) (fun r hr => ?_) (fun _ h => h.elim)
    · obtain ⟨j1, j2⟩ := hI
      have hb := (List.getElem?_eq_some_iff.1 hy).1
      have ey := tk_get hy
      have ky := hok.all y (List.mem_of_getElem? hy)
      have o0 := kx.o0; have o1 := kx.o1; have f0 := ky.f0; have f1 := ky.f1
      have d0 := kx.d0; have da := kx.da; have a1 := kx.a1
      have bd := hs.bd x.To y.From o0 (by omega) f0 (by omega)
      unfold fleet_match_b2
      rw [hs.idx o0 (by omega)]
      simp only [Option.bind_some]
      rw [hs.idx2 o0 (by omega) f0 (by omega)]
      simp only [Option.bind_some]
      rw [w64_id (x := x.Arr + turn) (by omega) (by omega), w64_id (x := x.Arr + turn + cell secs x.To y.From) (by omega) (by omega), gapp_eq (by simp only [apRoom, List.length_singleton]; omega) (by simp only [maxLen, List.length_singleton]; omega)]
      refine tot_some ⟨by simp; omega, fun c hc => ?_⟩
      rw [nth_snoc true r _ _ (by omega)]
      by_cases e : c < b
      · rw [if_pos (by omega)]; exact j2 c e
      · rw [if_neg (by omega), if_pos (by omega)]
        have : c = b := by omega
        subst this
        unfold aft; rw [ex, ey]
    · rw [gapp_eq (by simp only [apRoom, List.length_singleton]; omega) (by simp only [maxLen, List.length_singleton]; omega)]
      refine tot_some ⟨by simp; omega, fun c hc => ?_⟩
      rw [nth_snoc [] st _ _ (by omega)]
      by_cases e : c < a
      · rw [if_pos (by omega)]; exact i2 c e
      · rw [if_neg (by omega), if_pos (by omega), show c = a by omega]; exact hr
  · have nxr : ∀ b, b < l.length → nx (List.replicate l.length (-1)) b = -1 := fun b hb => nth_replicate (by omega) (by omega)
    refine tot_loopN (I := fun i st => st.2.2.2 = A ∧ MS l.length (aft l turn secs) (fun _ => False) st.1 st.2.1 ∧ (∃ L R, Shut l.length (aft l turn secs) st.2.1 L R ∧ ∀ a, a < i → Has l.length (fun _ => False) st.2.1 a ∨ L a) ∧ ∀ a, a < l.length → i ≤ a → ¬ Has l.length (fun _ => False) st.2.1 a)
      (J := fun st => Final l.length (aft l turn secs) st.1 st.2.1) (E := fun _ => False) ⟨rfl, ⟨by simp, by simp, fun a ha => ?_, fun a ha => ?_, fun b hb a ha e => ?_, fun a ha b hb e => ?_, fun b hb _ a ha e => ?_⟩, ⟨fun _ => False, fun _ => False, ⟨fun _ _ h => h.elim, fun _ _ h => h.elim⟩, fun a h => by omega⟩, fun a ha _ ⟨b, hb, _, e⟩ => ?_⟩
      (fun i st hi hI => ?_) (fun st hI => ⟨hI.2.1, by obtain ⟨L, R, h1, h2⟩ := hI.2.2.1; exact ⟨L, R, h1, h2⟩⟩) (fun st hJ => tot_some hJ) (fun _ h => h.elim)
    · rw [nxr a ha]; omega
    · rw [nxr a ha]; omega
    · rw [nxr b hb] at e; omega
    · rw [nxr a ha] at e; omega
    · rw [nxr b hb] at e; omega
    · rw [nxr b hb] at e; omega
    · obtain ⟨nex, pre, x3, tb⟩ := st
      obtain ⟨i1, i2, ⟨L, R, i3, i4⟩, i5⟩ := hI
      simp only at i1 i2 i3 i4 i5
      subst i1
      unfold fleet_match_b3
      rw [gmake_eq (by omega) (by unfold mkRoom; omega) (by unfold maxLen; omega)]
      simp only [Option.bind_some, Int.toNat_natCast]
      have snr : ∀ b, b < l.length → sn (List.replicate l.length false) b = false := fun b hb => nth_replicate (by omega) (by omega)
      refine tot_bind (grow_ok hA (by omega) bigN (X := fun _ => False) (L := L) (R := R) (a := i) (seen := List.replicate l.length false) (next := nex) (prev := pre) ?_ hi (by simp) (fun _ _ h => h.elim) i2 i3 (i5 i hi (Nat.le_refl _))) fun r _ hr => ?_
      · have : free (List.replicate l.length false) ≤ 20 := by
          unfold free
          have : sL (fun x => if x = true then 0 else 1) (List.replicate l.length false) ≤ sL (fun _ => 1) (List.replicate l.length false) := sL_le fun x _ => by split <;> omega
          rw [sL_one, List.length_replicate] at this; omega
        have hb := big
        omega
      · obtain ⟨ok, se, nex1, pre1, tb1⟩ := r
        have e1 := hr.tab
        simp only at e1
        subst e1
        refine tot_some ?_
        show _ ∧ _ ∧ _ ∧ _
        refine ⟨rfl, ?_⟩
        cases ok with
        | true =>
          have w := hr.won rfl
          refine ⟨w.ms, ⟨L, R, ⟨fun b hb hR => by obtain ⟨a, ha, e, hL⟩ := i3.r b hb hR; exact ⟨a, ha, by rw [w.rs b hb hR]; exact e, hL⟩, i3.l⟩, fun a ha => ?_⟩, fun a ha hia h => ?_⟩
          · by_cases e : a = i
            · exact .inl ((w.has a (by omega)).2 (.inl e))
            · exact (i4 a (by omega)).imp (fun h => (w.has a (by omega)).2 (.inr h)) id
          · rcases (w.has a ha).1 h with e | h
            · omega
            · exact i5 a ha (by omega) h
        | false =>
          have lo := hr.lost rfl
          have e2 := lo.en; have e3 := lo.ep
          simp only at e2 e3
          subst e2 e3
          refine ⟨i2, ⟨fun a => L a ∨ a = i ∨ ∃ b, b < l.length ∧ sn se b = true ∧ nx pre1 b = a, fun b => R b ∨ b < l.length ∧ sn se b = true, ⟨fun b hb hR => ?_, fun a ha hL b hb hab => ?_⟩, fun a ha => ?_⟩, fun a ha hia h => i5 a ha (by omega) h⟩
          · rcases hR with hR | ⟨_, hsb⟩
            · obtain ⟨a, ha, e, hL⟩ := i3.r b hb hR; exact ⟨a, ha, e, .inl hL⟩
            · rcases lo.cl b hb hsb with h | ⟨a', h1, h2, _⟩
              · rw [snr b hb] at h; cases h
              · exact ⟨a', h1, h2, .inr (.inr ⟨b, hb, hsb, h2⟩)⟩
          · rcases hL with hL | e | ⟨c, hc, hsc, e⟩
            · exact .inl (i3.l a ha hL b hb hab)
            · subst e; exact .inr ⟨hb, lo.al b hb hab⟩
            · rcases lo.cl c hc hsc with h | ⟨a', h1, h2, h3⟩
              · rw [snr c hc] at h; cases h
              · have : a = a' := by omega
                subst this
                exact .inr ⟨hb, h3 b hb hab⟩
          · by_cases e : a = i
            · exact .inr (.inr (.inl e))
            · exact (i4 a (by omega)).imp id .inl
theorem covers_ok (hok : Ok l turn) (h20 : l.length ≤ 20) (hs : SecsOk secs) (hc : fleet_checkSecs l turn secs = some 0) : Tot (fleet_Covers l turn secs) fun r => r.1 = 0 ∧ ∃ next prev, Final l.length (aft l turn secs) next prev ∧ (r.2.length : Int) = unm l.length prev := by
  have t0 := hok.t0; have t1 := hok.t1
  unfold fleet_Covers
  rw [hc]
  simp only [Option.bind_some]
  rw [show ((0 : Int) != 0) = false from rfl, ifb_false]
  refine tot_bind (match_ok hok h20 hs) fun m _ hm => ?_
  obtain ⟨A, nex, pre⟩ := m
  simp only at hm
  have hms := hm.ms
  have hln := hms.ln; have hlp := hms.lp
  refine tot_loopN (I := fun i o => (o.length : Int) = cnt (fun b => nx pre b < 0) i) (J := fun o => (o.length : Int) = unm l.length pre) (E := fun _ => False) rfl (fun i o hi hI => ?_) (fun o h => h) (fun o hJ => tot_some ⟨rfl, nex, pre, hm, hJ⟩) (fun _ h => h.elim)
  have ec : cnt (fun b => nx pre b < 0) (i + 1) = cnt (fun b => nx pre b < 0) i + if nx pre i < 0 then 1 else 0 := by
    unfold cnt; simp only [sumN]
    by_cases q : nx pre i < 0
    · rw [if_pos q, if_pos q]
    · rw [if_neg q, if_neg q]
  have ol : o.length ≤ i := by
    have : cnt (fun b => nx pre b < 0) i ≤ i := by have := cnt_not (fun b => nx pre b < 0) i; have : 0 ≤ cnt (fun b => ¬ nx pre b < 0) i := by (rw [cnt_eq]; omega)
                                                   omega
    omega
  unfold fleet_Covers_b1
  simp only
  rw [idx_nth 0 (xs := pre) (by omega) (by omega)]
  simp only [Option.bind_some]
  refine tot_ifb (fun q => ?_) fun q => ?_
  · have q := of_decide_eq_true q
    have q' : ¬ nx pre i < 0 := by have : nx pre i = nth 0 pre (i : Int) := rfl; omega
    rw [if_neg q', Int.add_zero] at ec
    exact tot_some (by rw [ec]; exact hI)
  · have q := of_decide_eq_false q
    have q' : nx pre i < 0 := by have : nx pre i = nth 0 pre (i : Int) := rfl; omega
    rw [if_pos q'] at ec
    refine tot_wh (I := fun st => -1 ≤ st.1 ∧ st.1 < l.length ∧ (0 ≤ st.1 → (st.2.length : Int) ≤ (tk l st.1).Dep) ∧ st.2.length ≤ 28801) (μ := fun st => if st.1 < 0 then 0 else (28801 - (tk l st.1).Dep).toNat + 1) (J := fun _ => True) (E := fun _ => False)
      ⟨by simp only; omega, by simp only; omega, fun _ => ?_, by simp⟩ (Nat.lt_of_le_of_lt ?_ big) ?_ (fun t _ => ?_) (fun _ h => h.elim)
    · have := (hok.at (i := (i : Int)) (by omega) (by omega)).d0
      simpa using this
    · have := (hok.at (i := (i : Int)) (by omega) (by omega)).d0
      simp only; split <;> omega
    · rintro ⟨a, t⟩ ⟨g1, g2, g3, g4⟩
      simp only at g1 g2 g3 g4
      unfold fleet_Covers_b2
      simp only
      refine tot_ifb (fun q => ?_) fun q => tot_some trivial
      have q := of_decide_eq_true q
      obtain ⟨a', rfl⟩ : ∃ a' : Nat, a = a' := ⟨a.toNat, by omega⟩
      have g3 := g3 q
      have ka := hok.at (i := (a' : Int)) q g2
      have da := ka.da; have aa := ka.a1; have d0 := ka.d0; have o0 := ka.o0; have o1 := ka.o1
      rw [gapp_eq (by simp only [apRoom, List.length_singleton]; omega) (by simp only [maxLen, List.length_singleton]; omega)]
      simp only [Option.bind_some]
      rw [idx_nth 0 (xs := nex) (by omega) (by omega)]
      have r := hms.rn a' (by omega)
      have er : nx nex a' = nth 0 nex (a' : Int) := rfl
      refine tot_some ?_
      simp only
      by_cases q2 : nth 0 nex (a' : Int) < 0
      · rw [if_pos q2, if_neg (by omega)]
        exact ⟨⟨by omega, by omega, fun h => by omega, by simp; omega⟩, by omega⟩
      · obtain ⟨b, eb⟩ : ∃ b : Nat, nth 0 nex (a' : Int) = b := ⟨(nth 0 nex (a' : Int)).toNat, by omega⟩
        have hb : b < l.length := by omega
        have kb := hok.at (i := (b : Int)) (by omega) (by omega)
        have f0 := kb.f0; have f1 := kb.f1; have db := kb.da; have ab := kb.a1
        have hab := hms.ed b hb a' (by omega) (hms.n1 a' (by omega) b hb (by rw [er]; exact eb))
        have hab := of_decide_eq_true hab
        have bd := hs.bd (tk l a').To (tk l b).From o0 (by omega) f0 (by omega)
        rw [eb, if_neg (by omega), if_neg (by omega)]
        exact ⟨⟨by omega, by omega, fun _ => by simp; omega, by simp; omega⟩, by omega⟩
    · rw [gapp_eq (by simp only [apRoom, List.length_singleton]; omega) (by simp only [maxLen, List.length_singleton]; omega)]
      refine tot_some ?_
      show ((o ++ [t]).length : Int) = cnt (fun b => nx pre b < 0) (i + 1)
      rw [ec]; simp; omega
end
end Fm
