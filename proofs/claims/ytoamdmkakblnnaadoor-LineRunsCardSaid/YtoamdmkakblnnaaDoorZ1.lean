/- The net: ends, sections, what is joined. -/
import Derived.Test.YtoamdmkakblnnaaDoorZP
import Derived.Test.YtoamdmkakblnnaaDoorK5
set_option linter.unusedVariables false
set_option linter.unusedSimpArgs false
set_option maxRecDepth 100000
namespace Lr
open Go Hk Hd Pl
theorem mfind_same {α β : Type} {eq : α → α → Bool} (he : ∀ a b, eq a b = true ↔ a = b) (x : α) (y : β) : ∀ m : List (α × β), mfind eq x (mset eq x y m) = some y
  | [] => by
    show cond (eq x x) (some y) none = _
    rw [(he x x).2 rfl]; rfl
  | (a, b) :: r => by
    show mfind eq x (cond (eq x a) ((x, y) :: r) ((a, b) :: mset eq x y r)) = some y
    cases hq : eq x a with
    | true =>
      show cond (eq x x) (some y) (mfind eq x r) = _
      rw [(he x x).2 rfl]; rfl
    | false =>
      show cond (eq x a) (some b) (mfind eq x (mset eq x y r)) = _
      rw [hq]
      exact mfind_same he x y r
theorem mfind_other {α β : Type} {eq : α → α → Bool} (he : ∀ a b, eq a b = true ↔ a = b) {x z : α} (y : β) (h : z ≠ x) : ∀ m : List (α × β), mfind eq z (mset eq x y m) = mfind eq z m
  | [] => by
    show cond (eq z x) (some y) none = _
    cases hq : eq z x with
    | true => exact absurd ((he z x).1 hq) h
    | false => rfl
  | (a, b) :: r => by
    show mfind eq z (cond (eq x a) ((x, y) :: r) ((a, b) :: mset eq x y r)) = cond (eq z a) (some b) (mfind eq z r)
    cases hq : eq x a with
    | true =>
      have := (he x a).1 hq
      subst this
      show cond (eq z x) (some y) (mfind eq z r) = _
      cases hz : eq z x with
      | true => exact absurd ((he z x).1 hz) h
      | false => rfl
    | false =>
      show cond (eq z a) (some b) (mfind eq z (mset eq x y r)) = _
      rw [mfind_other he y h r]
theorem ieq_iff (a b : Int) : ieq a b = true ↔ a = b := by unfold ieq; simp
theorem end_ext {a b : S_line_end} (h1 : a.section_ = b.section_) (h2 : a.end_ = b.end_) : a = b := by cases a; cases b; simp at h1 h2; simp [h1, h2]
theorem keq_iff (a b : S_line_end) : S_line_end.keq a b = true ↔ a = b := by
  unfold S_line_end.keq
  simp only [Bool.and_eq_true, ieq_iff, and_true]
  exact ⟨fun h => end_ext h.1 h.2, fun h => by subst h; exact ⟨rfl, rfl⟩⟩
def endsI (k : Int) : Int := if k = 1 then 2 else if k = 2 then 3 else if k = 3 then 4 else 0
theorem ends_eq (k : Int) : line_ends k = some (endsI k) := by
  unfold line_ends endsI
  by_cases h1 : k = 1
  · simp [h1, ifb]
  · by_cases h2 : k = 2
    · simp [h2, ifb]
    · by_cases h3 : k = 3
      · simp [h3, ifb]
      · have e1 : (k == 1) = false := by simpa using h1
        have e2 : (k == 2) = false := by simpa using h2
        have e3 : (k == 3) = false := by simpa using h3
        rw [e1, e2, e3, if_neg h1, if_neg h2, if_neg h3]
        rfl
theorem within_eq (a l h : Int) : line_within a l h = some (decide (l ≤ a ∧ a ≤ h)) := by
  unfold line_within
  by_cases h1 : l ≤ a
  · have : decide (a ≥ l) = true := decide_eq_true h1
    rw [this]
    simp [ifb, h1]
  · have : decide (a ≥ l) = false := decide_eq_false h1
    rw [this]
    simp [ifb, h1]
def zS : S_api_Section := ⟨0, 0, 0, 0, 0, 0, false⟩
def sec (n : S_api_Net) (s : Int) : S_api_Section := nth zS n.Sections s
def Has (n : S_api_Net) (e : S_line_end) : Prop := 0 ≤ e.section_ ∧ e.section_ < n.Sections.length ∧ 0 ≤ e.end_ ∧ e.end_ < endsI (sec n e.section_).Kind
theorem endsI_range (k : Int) : 0 ≤ endsI k ∧ endsI k ≤ 4 := by unfold endsI; repeat' split <;> omega
theorem has_tot {n : S_api_Net} (hl : n.Sections.length ≤ 60) (e : S_line_end) : Tot (line_has n e) (fun b => b = true ↔ Has n e) := by
  unfold line_has
  have hw : w64 ((n.Sections.length : Int) - 1) = (n.Sections.length : Int) - 1 := w64_id (by omega) (by omega)
  refine tot_bind (P := fun b => b = true ↔ Has n e) ?_ fun b _ hb => tot_some hb
  refine tot_bind' (within_eq _ _ _) ?_
  rw [hw]
  refine tot_ifb (fun h => ?_) fun h => ?_
  · obtain ⟨h0, h1⟩ := of_decide_eq_true h
    refine tot_bind' (idx_nth zS h0 (by omega)) ?_
    refine tot_bind' (ends_eq _) ?_
    have hr := endsI_range (nth zS n.Sections e.section_).Kind
    rw [w64_id (by omega) (by omega)]
    refine tot_bind' (within_eq _ _ _) (tot_some ?_)
    rw [decide_eq_true_iff]
    unfold Has sec
    exact ⟨fun ⟨a, b⟩ => ⟨h0, by omega, a, by omega⟩, fun ⟨_, _, a, b⟩ => ⟨a, by omega⟩⟩
  · refine tot_some ⟨fun h => (by cases h), fun hh => ?_⟩
    exact absurd ⟨hh.1, by have := hh.2.1; omega⟩ (of_decide_eq_false h)
def eA (l : S_api_Link) : S_line_end := ⟨l.A, l.EndA⟩
def eB (l : S_api_Link) : S_line_end := ⟨l.B, l.EndB⟩
def JR (n : S_api_Net) (e : S_line_end) (y : Bool × S_line_end) : Prop :=
  (y.1 = true ∧ ∃ l ∈ n.Links, (eA l = e ∧ y.2 = eB l) ∨ (eB l = e ∧ y.2 = eA l)) ∨ (y.1 = false ∧ ∀ l ∈ n.Links, eA l ≠ e ∧ eB l ≠ e)
theorem test_tot {a b c d : Int} : Tot (ifb (a == b) (some (c == d)) (some false)) (fun t => t = true ↔ a = b ∧ c = d) := by
  refine tot_ifb (fun h => tot_some ?_) fun h => tot_some ?_
  · have : a = b := by simpa using h
    simp [this]
  · have : a ≠ b := by simpa using h
    simp [this]
theorem joined_tot (n : S_api_Net) (e : S_line_end) : Tot (line_joined n e) (JR n e) := by
  unfold line_joined
  refine tot_allX (P := fun _ l => eA l ≠ e ∧ eB l ≠ e) (E := fun y => y.1 = true ∧ ∃ l ∈ n.Links, (eA l = e ∧ y.2 = eB l) ∨ (eB l = e ∧ y.2 = eA l)) (fun i l hl => ?_) (fun h => ?_) (fun y hy => tot_some (.inl hy))
  · unfold line_joined_b1
    have hm := List.mem_of_getElem? hl
    refine tot_bind test_tot fun b _ hb => tot_ifb (fun h => tot_some ⟨rfl, l, hm, .inl ⟨end_ext (hb.1 h).1 (hb.1 h).2, rfl⟩⟩) fun h => ?_
    refine tot_bind test_tot fun c _ hc => tot_ifb (fun h2 => tot_some ⟨rfl, l, hm, .inr ⟨end_ext (hc.1 h2).1 (hc.1 h2).2, rfl⟩⟩) fun h2 => tot_some ?_
    refine ⟨fun q => ?_, fun q => ?_⟩
    · have : b = true := hb.2 (by rw [← q]; exact ⟨rfl, rfl⟩)
      rw [h] at this; cases this
    · have : c = true := hc.2 (by rw [← q]; exact ⟨rfl, rfl⟩)
      rw [h2] at this; cases this
  · refine tot_some (.inr ⟨rfl, fun l hl => ?_⟩)
    obtain ⟨i, hi⟩ := List.mem_iff_getElem?.1 hl
    exact h i l hi
structure LinksOk (n : S_api_Net) : Prop where
  has : ∀ l ∈ n.Links, Has n (eA l) ∧ Has n (eB l) ∧ l.A < l.B
  once : ∀ (i j : Nat) l l', n.Links[i]? = some l → n.Links[j]? = some l' → i ≠ j → eA l ≠ eA l' ∧ eA l ≠ eB l' ∧ eB l ≠ eA l' ∧ eB l ≠ eB l'
def outsL (k i : Int) : List Int := if k = 2 then (if i = 0 then [1, 2] else [0]) else [Hd.ixor .i64 i 1]
theorem outs_eq (k i : Int) : line_outs k i = some (outsL k i) := by
  unfold line_outs outsL
  by_cases h2 : k = 2
  · have e2 : (k == 2) = true := by simpa using h2
    rw [e2, if_pos h2]
    by_cases h0 : i = 0
    · have e0 : (i == 0) = true := by simpa using h0
      rw [e0, if_pos h0]; rfl
    · have e0 : (i == 0) = false := by simpa using h0
      rw [e0, if_neg h0]; rfl
  · have e2 : (k == 2) = false := by simpa using h2
    rw [e2, if_neg h2]; rfl
theorem index_tot (xs : List Int) (x : Int) : Tot (slices_Index_int_int xs x) (fun r => r ≥ 0 ↔ x ∈ xs) := by
  unfold slices_Index_int_int
  refine tot_allX (P := fun _ y => x ≠ y) (E := fun r => r ≥ 0 ∧ x ∈ xs) (fun i y hy => ?_) (fun h => ?_) (fun r hr => tot_some ⟨fun _ => hr.2, fun _ => hr.1⟩)
  · unfold slices_Index_int_int_b1
    refine tot_ifb (fun h => tot_some ?_) fun h => tot_some ?_
    · have : x = y := by simpa using h
      exact ⟨by show (i : Int) ≥ 0; omega, this ▸ List.mem_of_getElem? hy⟩
    · simpa using h
  · refine tot_some ⟨fun hr => absurd hr (by omega), fun hm => ?_⟩
    obtain ⟨i, hi⟩ := List.mem_iff_getElem?.1 hm
    exact absurd rfl (h i x hi)
theorem contains_tot (xs : List Int) (x : Int) : Tot (slices_Contains_int_int xs x) (fun b => b = true ↔ x ∈ xs) := by
  unfold slices_Contains_int_int
  refine tot_bind (index_tot xs x) fun r _ hr => tot_some ?_
  rw [decide_eq_true_iff]
  exact hr
theorem xor1 (i : Int) (h0 : 0 ≤ i) (h1 : i < 4) : Hd.ixor .i64 i 1 = if i = 0 then 1 else if i = 1 then 0 else if i = 2 then 3 else 2 := by
  have : i = 0 ∨ i = 1 ∨ i = 2 ∨ i = 3 := by omega
  rcases this with rfl | rfl | rfl | rfl <;> decide
end Lr
set_option linter.unusedVariables false
set_option linter.unusedSimpArgs false
set_option maxRecDepth 100000
namespace Lr
open Go Hk Hd Pl
structure SecOk (s : S_api_Section) : Prop where
  kind : s.Kind = 1 ∨ s.Kind = 2 ∨ s.Kind = 3
  len : 10 ≤ s.Length ∧ s.Length ≤ 3000
  grade : -40 ≤ s.Grade ∧ s.Grade ≤ 40
  cross : s.Kind = 3 → s.Grade = 0
structure NetOk (n : S_api_Net) : Prop where
  len : n.Sections.length ≤ 60
  secs : ∀ s ∈ n.Sections, SecOk s
  links : LinksOk n
theorem name_tot {s : ByteArray} (h : s.size ≤ maxLen) : Tot (line_name s) (fun _ => True) := by
  unfold line_name
  have : sbytes s = some ((sl8 s).map fun b => (b.toNat : Int)) := by
    unfold sbytes
    rw [if_pos (by unfold maxLen at h; omega)]
  refine tot_bind' this ?_
  refine tot_allX (P := fun _ _ => True) (E := fun _ => True) (fun i x hx => ?_) (fun _ => ?_) (fun y _ => tot_some trivial)
  · unfold line_name_b1
    refine tot_bind (P := fun _ => True) (tot_ifb (fun _ => tot_some trivial) fun _ => tot_some trivial) fun b _ _ => tot_ifb (fun _ => tot_some trivial) fun _ => tot_some trivial
  · exact tot_bind (P := fun _ => True) (tot_ifb (fun _ => tot_some trivial) fun _ => tot_some trivial) fun b _ _ => tot_some trivial
theorem containsS_tot (xs : List ByteArray) (x : ByteArray) : Tot (slices_Contains_string_string xs x) (fun _ => True) := by
  unfold slices_Contains_string_string slices_Index_string_string
  refine tot_bind (P := fun _ => True) ?_ fun _ _ _ => tot_some trivial
  refine tot_allX (P := fun _ _ => True) (E := fun _ => True) (fun i y hy => ?_) (fun _ => tot_some trivial) (fun y _ => tot_some trivial)
  unfold slices_Index_string_string_b1
  exact tot_ifb (fun _ => tot_some trivial) fun _ => tot_some trivial
theorem section_tot (s : S_api_Section) (m : Int) : Tot (line_checkSection s m) (fun e => e = 0 → SecOk s) := by
  unfold line_checkSection
  refine tot_bind' (ends_eq _) ?_
  refine tot_ifb (fun _ => tot_some fun h => by cases h) fun hk => ?_
  have hk : endsI s.Kind ≠ 0 := by simpa using hk
  have kind : s.Kind = 1 ∨ s.Kind = 2 ∨ s.Kind = 3 := by
    unfold endsI at hk
    by_cases h1 : s.Kind = 1
    · exact .inl h1
    · by_cases h2 : s.Kind = 2
      · exact .inr (.inl h2)
      · by_cases h3 : s.Kind = 3
        · exact .inr (.inr h3)
        · simp [h1, h2, h3] at hk
  refine tot_bind (P := fun b => b = false → (10 ≤ s.Length ∧ s.Length ≤ 3000) ∧ (-40 ≤ s.Grade ∧ s.Grade ≤ 40)) ?_ fun b _ hb => ?_
  · refine tot_bind' (within_eq _ _ _) (tot_ifb (fun _ => tot_some fun h => by cases h) fun h1 => ?_)
    refine tot_bind' (within_eq _ _ _) (tot_ifb (fun _ => tot_some fun h => by cases h) fun h2 => ?_)
    refine tot_bind' (within_eq _ _ _) (tot_some fun _ => ?_)
    exact ⟨by simpa using h1, by simpa using h2⟩
  refine tot_ifb (fun _ => tot_some fun h => by cases h) fun hb2 => ?_
  obtain ⟨hl, hg⟩ := hb hb2
  refine tot_bind (P := fun _ => True) ?_ fun c _ _ => tot_ifb (fun _ => tot_some fun h => by cases h) fun _ => ?_
  · refine tot_ifb (fun _ => ?_) fun _ => tot_ifb (fun _ => tot_bind' (within_eq _ _ _) (tot_some trivial)) fun _ => tot_some trivial
    refine tot_bind' (within_eq _ _ _) (tot_ifb (fun _ => tot_some trivial) fun _ => tot_ifb (fun _ => tot_bind' (within_eq _ _ _) (tot_some trivial)) fun _ => tot_some trivial)
  have gr : ∀ {Q : Bool → Prop}, (Q true) → ((s.Kind = 3 → s.Grade = 0) → Q false) → Tot (ifb (s.Grade != 0) (some (s.Kind == 3)) (some false)) Q := by
    intro Q h1 h2
    refine tot_ifb (fun h => ?_) fun h => tot_some (h2 fun _ => by simpa using h)
    cases hq : s.Kind == 3 with
    | true => exact tot_some h1
    | false => exact tot_some (h2 fun h3 => by rw [h3] at hq; cases hq)
  refine tot_bind (P := fun b => b = false → (s.Kind = 3 → s.Grade = 0)) ?_ fun d _ hd => tot_ifb (fun _ => tot_some fun h => by cases h) fun h => tot_some fun _ => ⟨kind, hl, hg, hd h⟩
  have g2 : Tot (ifb (s.Station != 0) (ifb (!(s.Kind == 1)) (some true) (ifb (s.Grade != 0) (some (s.Kind == 3)) (some false))) (ifb (s.Grade != 0) (some (s.Kind == 3)) (some false))) (fun b => b = false → (s.Kind = 3 → s.Grade = 0)) :=
    tot_ifb (fun _ => tot_ifb (fun _ => tot_some fun h => by cases h) fun _ => gr (fun h => by cases h) fun h _ => h) fun _ => gr (fun h => by cases h) fun h _ => h
  exact tot_ifb (fun _ => tot_ifb (fun _ => tot_some fun h => by cases h) fun _ => g2) fun _ => g2
theorem compare_tot (a b : Int) : Tot (cmp_Compare_int a b) (fun _ => True) := by
  unfold cmp_Compare_int cmp_isNaN_int
  refine tot_bind (P := fun _ => True) (tot_some trivial) fun x _ _ => tot_bind (P := fun _ => True) (tot_some trivial) fun y _ _ => ?_
  exact tot_ifb (fun _ => tot_ifb (fun _ => tot_some trivial) fun _ => tot_some trivial) fun _ => tot_ifb (fun _ => tot_some trivial) fun _ => tot_ifb (fun _ => tot_some trivial) fun _ => tot_ifb (fun _ => tot_some trivial) fun _ => tot_some trivial
theorem or_tot (xs : List Int) : Tot (cmp_Or_int xs) (fun _ => True) := by
  unfold cmp_Or_int
  refine tot_allX (P := fun _ _ => True) (E := fun _ => True) (fun i y hy => ?_) (fun _ => tot_some trivial) (fun y _ => tot_some trivial)
  unfold cmp_Or_int_b1
  exact tot_ifb (fun _ => tot_some trivial) fun _ => tot_some trivial
def seenOf (n : S_api_Net) (i : Nat) (e : S_line_end) : Prop := ∃ j l, j < i ∧ n.Links[j]? = some l ∧ (eA l = e ∨ eB l = e)
structure LI (n : S_api_Net) (i : Nat) (s : List (S_line_end × Bool)) : Prop where
  seen : ∀ e, (mfind S_line_end.keq e s).getD false = true ↔ seenOf n i e
  has : ∀ j l, j < i → n.Links[j]? = some l → Has n (eA l) ∧ Has n (eB l) ∧ l.A < l.B
  once : ∀ (j k : Nat) l l', j < k → k < i → n.Links[j]? = some l → n.Links[k]? = some l' → eA l ≠ eA l' ∧ eA l ≠ eB l' ∧ eB l ≠ eA l' ∧ eB l ≠ eB l'
theorem links_tot {n : S_api_Net} (hl : n.Sections.length ≤ 60) (hn : n.Links.length ≤ maxLen) : Tot (line_checkLinks n) (fun e => e = 0 → LinksOk n) := by
  unfold line_checkLinks
  refine tot_loopX (I := LI n) (J := fun _ => LinksOk n) (E := fun e => e ≠ 0) ⟨fun e => ⟨fun h => (by cases h), fun ⟨j, _, h, _⟩ => (by omega)⟩, fun j l h => (by omega), fun j k l l' _ h => by omega⟩ (fun i l s hil hI => ?_) (fun s hI => ?_) (fun s hJ => tot_some fun _ => hJ) (fun e he => tot_some fun h => absurd h he)
  · unfold line_checkLinks_b1
    refine tot_bind' rfl ?_
    refine tot_bind (P := fun b => b = false → Has n (eA l) ∧ Has n (eB l)) ?_ fun b _ hb => tot_ifb (fun _ => tot_some (by show (3 : Int) ≠ 0; decide)) fun hbf => ?_
    · refine tot_bind (has_tot hl (eA l)) fun c _ hc => tot_ifb (fun _ => tot_some fun h => by cases h) fun hcf => ?_
      refine tot_bind (has_tot hl (eB l)) fun d _ hd => tot_some fun hdf => ?_
      exact ⟨hc.1 (by simpa using hcf), hd.1 (by simpa using hdf)⟩
    obtain ⟨ha, hb⟩ := hb hbf
    refine tot_ifb (fun _ => tot_some (by show (1 : Int) ≠ 0; decide)) fun h1 => tot_ifb (fun _ => tot_some (by show (5 : Int) ≠ 0; decide)) fun h2 => ?_
    have hab : l.A < l.B := by
      have h1 : l.A ≠ l.B := by simpa using h1
      have h2 : ¬ l.A > l.B := by simpa using h2
      omega
    have hi : i < n.Links.length := (List.getElem?_eq_some_iff.1 hil).1
    refine tot_bind (P := fun c => c = .go () ∨ c = .out 5) ?_ fun c _ hc => tot_on (fun u hu => ?_) (fun x hx => ?_)
    · refine tot_ifb (fun h0 => ?_) fun _ => tot_some (.inl rfl)
      have h0 : (i : Int) > 0 := of_decide_eq_true h0
      unfold maxLen at hn
      rw [w64_id (by omega) (by omega), show (i : Int) - 1 = ((i - 1 : Nat) : Int) by omega]
      refine tot_bind (P := fun _ => True) (eq_tot (idx_get (by omega)) trivial) fun q _ _ => ?_
      refine tot_bind (compare_tot _ _) fun _ _ _ => tot_bind (compare_tot _ _) fun _ _ _ => tot_bind (or_tot _) fun _ _ _ => tot_ifb (fun _ => tot_some (.inr rfl)) fun _ => tot_some (.inl rfl)
    · refine tot_bind (P := fun b => b = false → ¬ seenOf n i (eA l) ∧ ¬ seenOf n i (eB l)) ?_ fun b _ hb2 => tot_ifb (fun _ => tot_some (by show (6 : Int) ≠ 0; decide)) fun hb3 => tot_some ?_
      · refine tot_ifb (fun _ => tot_some fun h => by cases h) fun h => tot_some fun h2 => ⟨fun q => ?_, fun q => ?_⟩
        · have := (hI.seen (eA l)).2 q
          rw [show (mfind S_line_end.keq (eA l) s).getD false = false from h] at this; cases this
        · have := (hI.seen (eB l)).2 q
          rw [show (mfind S_line_end.keq (eB l) s).getD false = false from h2] at this; cases this
      · obtain ⟨n1, n2⟩ := hb2 hb3
        show LI n (i + 1) (mset S_line_end.keq (eB l) true (mset S_line_end.keq (eA l) true s))
        refine ⟨fun e => ?_, fun j l' hj hl' => ?_, fun j k l1 l2 hjk hk e1 e2 => ?_⟩
        · have hnew : seenOf n (i + 1) e ↔ seenOf n i e ∨ eA l = e ∨ eB l = e := by
            constructor
            · rintro ⟨j, l', hj, hl', he⟩
              by_cases q : j = i
              · subst q
                rw [hil] at hl'
                injection hl' with hl'
                subst hl'
                exact .inr he
              · exact .inl ⟨j, l', by omega, hl', he⟩
            · rintro (⟨j, l', hj, hl', he⟩ | he)
              · exact ⟨j, l', by omega, hl', he⟩
              · exact ⟨i, l, by omega, hil, he⟩
          rw [hnew]
          by_cases q1 : e = eB l
          · subst q1
            rw [mfind_same keq_iff]
            exact ⟨fun _ => .inr (.inr rfl), fun _ => rfl⟩
          · rw [mfind_other keq_iff _ q1]
            by_cases q2 : e = eA l
            · subst q2
              rw [mfind_same keq_iff]
              exact ⟨fun _ => .inr (.inl rfl), fun _ => rfl⟩
            · rw [mfind_other keq_iff _ q2, hI.seen e]
              exact ⟨.inl, fun h => h.elim id fun h => h.elim (fun h => absurd h.symm q2) fun h => absurd h.symm q1⟩
        · by_cases q : j = i
          · subst q
            rw [hil] at hl'
            injection hl' with hl'
            subst hl'
            exact ⟨ha, hb, hab⟩
          · exact hI.has j l' (by omega) hl'
        · by_cases q : k = i
          · subst q
            rw [hil] at e2
            injection e2 with e2
            subst e2
            exact ⟨fun h => n1 ⟨j, l1, hjk, e1, .inl h⟩, fun h => n2 ⟨j, l1, hjk, e1, .inl h⟩, fun h => n1 ⟨j, l1, hjk, e1, .inr h⟩, fun h => n2 ⟨j, l1, hjk, e1, .inr h⟩⟩
          · exact hI.once j k l1 l2 hjk (by omega) e1 e2
    · rcases hc with hc | hc
      · rw [hc] at hx; cases hx
      · rw [hc] at hx
        injection hx with hx
        subst hx
        exact tot_some (by show (5 : Int) ≠ 0; decide)
  · refine ⟨fun l hm => ?_, fun i j l l' hi hj hne => ?_⟩
    · obtain ⟨i, hi⟩ := List.mem_iff_getElem?.1 hm
      exact hI.has i l (List.getElem?_eq_some_iff.1 hi).1 hi
    · by_cases q : i < j
      · exact hI.once i j l l' q (List.getElem?_eq_some_iff.1 hj).1 hi hj
      · obtain ⟨a, b, c, d⟩ := hI.once j i l' l (by omega) (List.getElem?_eq_some_iff.1 hi).1 hj hi
        exact ⟨a.symm, c.symm, b.symm, d.symm⟩
end Lr
set_option linter.unusedVariables false
set_option linter.unusedSimpArgs false
set_option maxRecDepth 100000
namespace Lr
open Go Hk Hd Pl
theorem joined_any (n : S_api_Net) (e : S_line_end) : Tot (line_joined n e) (fun _ => True) := tot_mono (joined_tot n e) fun _ _ => trivial
theorem signals_tot {n : S_api_Net} (hl : n.Sections.length ≤ 60) (hn : n.Signals.length ≤ maxLen) : Tot (line_checkSignals n) (fun _ => True) := by
  unfold line_checkSignals
  refine tot_allX (P := fun _ _ => True) (E := fun _ => True) (fun i x hx => ?_) (fun _ => tot_some trivial) (fun y _ => tot_some trivial)
  unfold line_checkSignals_b1
  refine tot_bind (has_tot hl _) fun b _ hb => tot_ifb (fun _ => tot_some trivial) fun hbf => ?_
  have hh := hb.1 (by simpa using hbf)
  refine tot_bind (joined_any n _) fun y _ _ => ?_
  refine tot_bind (P := fun _ => True) (tot_ifb (fun _ => tot_some trivial) fun _ => ?_) fun c _ _ => tot_ifb (fun _ => tot_some trivial) fun _ => tot_ifb (fun h0 => ?_) fun _ => tot_some trivial
  · exact tot_bind' (idx_nth zS hh.1 hh.2.1) (tot_some trivial)
  · have h0 : (i : Int) > 0 := of_decide_eq_true h0
    have hi : i < n.Signals.length := (List.getElem?_eq_some_iff.1 hx).1
    unfold maxLen at hn
    rw [w64_id (by omega) (by omega), show (i : Int) - 1 = ((i - 1 : Nat) : Int) by omega]
    refine tot_bind (P := fun _ => True) (eq_tot (idx_get (by omega)) trivial) fun q _ _ => ?_
    exact tot_bind (compare_tot _ _) fun _ _ _ => tot_bind (compare_tot _ _) fun _ _ _ => tot_bind (or_tot _) fun _ _ _ => tot_ifb (fun _ => tot_some trivial) fun _ => tot_some trivial
theorem gates_tot {n : S_api_Net} (hl : n.Sections.length ≤ 60) (hn : n.Gates.length ≤ maxLen) : Tot (line_checkGates n) (fun _ => True) := by
  unfold line_checkGates
  refine tot_allX (P := fun _ _ => True) (E := fun _ => True) (fun i x hx => ?_) (fun _ => tot_some trivial) (fun y _ => tot_some trivial)
  unfold line_checkGates_b1
  refine tot_bind' (within_eq _ _ _) (tot_ifb (fun _ => tot_some trivial) fun h => ?_)
  rw [w64_id (by omega) (by omega)] at h
  have h : 0 ≤ x.Section ∧ x.Section ≤ (n.Sections.length : Int) - 1 := by simpa using h
  refine tot_bind' (idx_nth zS h.1 (by omega)) (tot_ifb (fun _ => tot_some trivial) fun _ => ?_)
  refine tot_bind' (within_eq _ _ _) (tot_ifb (fun _ => tot_some trivial) fun _ => ?_)
  refine tot_bind (P := fun _ => True) (tot_ifb (fun h0 => ?_) fun _ => tot_some trivial) fun _ _ _ => tot_ifb (fun _ => tot_some trivial) fun _ => tot_some trivial
  have h0 : (i : Int) > 0 := of_decide_eq_true h0
  have hi : i < n.Gates.length := (List.getElem?_eq_some_iff.1 hx).1
  unfold maxLen at hn
  rw [w64_id (by omega) (by omega), show (i : Int) - 1 = ((i - 1 : Nat) : Int) by omega]
  exact tot_bind (P := fun _ => True) (eq_tot (idx_get (by omega)) trivial) fun q _ _ => tot_some trivial
structure NetIn (n : S_api_Net) : Prop where
  st : n.Stations.length ≤ maxLen
  sz : ∀ s ∈ n.Stations, s.size ≤ maxLen
  li : n.Links.length ≤ maxLen
  si : n.Signals.length ≤ maxLen
  ga : n.Gates.length ≤ maxLen
theorem check_tot {n : S_api_Net} (h : NetIn n) : Tot (line_Check n) (fun e => e = 0 → NetOk n) := by
  unfold line_Check
  refine tot_ifb (fun _ => tot_some fun h => by cases h) fun _ => ?_
  refine tot_bind (P := fun b => b = false → n.Sections.length ≤ 60) ?_ fun b _ hb => tot_ifb (fun _ => tot_some fun h => by cases h) fun hbf => ?_
  · refine tot_ifb (fun _ => tot_some fun h => by cases h) fun _ => tot_ifb (fun _ => tot_some fun h => by cases h) fun h2 => ?_
    have h2 : ¬ (n.Sections.length : Int) > 60 := of_decide_eq_false h2
    have h3 : n.Sections.length ≤ 60 := by omega
    exact tot_ifb (fun _ => tot_some fun _ => h3) fun _ => tot_ifb (fun _ => tot_some fun _ => h3) fun _ => tot_some fun _ => h3
  have hl := hb hbf
  refine tot_allX (P := fun _ _ => True) (E := fun e => e ≠ 0) (fun i s hs => ?_) (fun _ => ?_) (fun e he => tot_some fun h => absurd h he)
  · unfold line_Check_b1
    refine tot_bind (name_tot (h.sz s (List.mem_of_getElem? hs))) fun b _ _ => tot_ifb (fun _ => tot_some (by show (1 : Int) ≠ 0; decide)) fun _ => ?_
    have hi : i < n.Stations.length := (List.getElem?_eq_some_iff.1 hs).1
    refine tot_bind' (gcut_eq (Int.le_refl _) (by omega) (by omega)) ?_
    exact tot_bind (containsS_tot _ _) fun c _ _ => tot_ifb (fun _ => tot_some (by show (6 : Int) ≠ 0; decide)) fun _ => tot_some trivial
  · refine tot_allX (P := fun _ s => SecOk s) (E := fun e => e ≠ 0) (fun i s hs => ?_) (fun hsec => ?_) (fun e he => tot_some fun h => absurd h he)
    · unfold line_Check_b2
      exact tot_bind (section_tot s _) fun e _ he => tot_ifb (fun hne => tot_some (by simpa using hne)) fun h0 => tot_some (he (by simpa using h0))
    · refine tot_bind (links_tot hl h.li) fun e _ he => tot_ifb (fun hne => tot_some fun h => absurd h (by simpa using hne)) fun h0 => ?_
      refine tot_bind (signals_tot hl h.si) fun e2 _ _ => tot_ifb (fun hne => tot_some fun h => absurd h (by simpa using hne)) fun _ => ?_
      refine tot_bind (gates_tot hl h.ga) fun e3 _ _ => tot_ifb (fun hne => tot_some fun h => absurd h (by simpa using hne)) fun _ => tot_some fun _ => ?_
      refine ⟨hl, fun s hs => ?_, he (by simpa using h0)⟩
      obtain ⟨i, hi⟩ := List.mem_iff_getElem?.1 hs
      exact hsec i s hi
structure PathOk (n : S_api_Net) (p : List S_api_Step) : Prop where
  len : p.length ≤ 60
  step : ∀ (i : Nat) s, p[i]? = some s → Has n ⟨s.Section, s.In⟩ ∧ Has n ⟨s.Section, s.Out⟩ ∧ s.Out ∈ outsL (sec n s.Section).Kind s.In
  join : ∀ (i : Nat) q s, p[i]? = some q → p[i + 1]? = some s → line_joined n ⟨q.Section, q.Out⟩ = some (true, ⟨s.Section, s.In⟩)
  once : ∀ (i j : Nat) s t, i < j → p[i]? = some s → p[j]? = some t → s.Section ≠ t.Section
structure PI (n : S_api_Net) (p : List S_api_Step) (i : Nat) (m : List (Int × Bool)) : Prop where
  seen : ∀ x, (mfind ieq x m).getD false = true ↔ ∃ (j : Nat) (t : S_api_Step), j < i ∧ p[j]? = some t ∧ t.Section = x
  step : ∀ (j : Nat) s, j < i → p[j]? = some s → Has n ⟨s.Section, s.In⟩ ∧ Has n ⟨s.Section, s.Out⟩ ∧ s.Out ∈ outsL (sec n s.Section).Kind s.In
  join : ∀ (j : Nat) q s, j + 1 < i → p[j]? = some q → p[j + 1]? = some s → line_joined n ⟨q.Section, q.Out⟩ = some (true, ⟨s.Section, s.In⟩)
  once : ∀ (j k : Nat) s t, j < k → k < i → p[j]? = some s → p[k]? = some t → s.Section ≠ t.Section
theorem path_tot {n : S_api_Net} (hn : NetOk n) (hc : line_Check n = some 0) (p : List S_api_Step) : Tot (line_CheckPath n p) (fun e => e = 0 ↔ PathOk n p) := by
  unfold line_CheckPath
  refine tot_bind' hc ?_
  show Tot (ifb (decide ((p.length : Int) > 60)) _ _) _
  refine tot_ifb (fun h => tot_some ⟨fun h => (by cases h), fun hp => absurd hp.len (by have := of_decide_eq_true h; omega)⟩) fun h => ?_
  have hlen : p.length ≤ 60 := by have : ¬ (p.length : Int) > 60 := of_decide_eq_false h; omega
  refine tot_loopX (I := PI n p) (J := fun _ => PathOk n p) (E := fun e => e ≠ 0 ∧ ¬ PathOk n p) ⟨fun x => ⟨fun h => (by cases h), fun ⟨j, _, h, _⟩ => (by omega)⟩, fun j s h => (by omega), fun j q s h => (by omega), fun j k s t _ h => (by omega)⟩ (fun i s m his hI => ?_) (fun m hI => ?_) (fun m hJ => tot_some ⟨fun _ => hJ, fun _ => rfl⟩) (fun e he => tot_some ⟨fun h => absurd h he.1, fun h => absurd h he.2⟩)
  · unfold line_CheckPath_b1
    refine tot_bind (P := fun b => b = false ↔ (Has n ⟨s.Section, s.In⟩ ∧ Has n ⟨s.Section, s.Out⟩)) ?_ fun b _ hb => tot_ifb (fun hbt => tot_some ⟨by decide, fun hp => ?_⟩) fun hbf => ?_
    · refine tot_bind (has_tot hn.len ⟨s.Section, s.In⟩) fun c _ hc => tot_ifb (fun h => tot_some ⟨fun h => (by cases h), fun ⟨h1, _⟩ => ?_⟩) fun h => ?_
      · have := hc.2 h1; rw [this] at h; cases h
      · refine tot_bind (has_tot hn.len ⟨s.Section, s.Out⟩) fun d _ hd => tot_some ?_
        have h1 := hc.1 (by simpa using h)
        cases d with
        | true => exact ⟨fun _ => ⟨h1, hd.1 rfl⟩, fun _ => rfl⟩
        | false => exact ⟨fun h => (by cases h), fun ⟨_, h2⟩ => (by have := hd.2 h2; cases this)⟩
    · obtain ⟨h1, h2, _⟩ := hp.step i s his
      rw [hb.2 ⟨h1, h2⟩] at hbt; cases hbt
    obtain ⟨h1, h2⟩ := hb.1 hbf
    refine tot_bind' (idx_nth zS h1.1 h1.2.1) ?_
    refine tot_bind' (outs_eq _ _) ?_
    refine tot_bind (contains_tot _ _) fun c _ hc => tot_ifb (fun hct => tot_some ⟨by decide, fun hp => ?_⟩) fun hcf => ?_
    · obtain ⟨_, _, h3⟩ := hp.step i s his
      rw [hc.2 h3] at hct; cases hct
    have h3 : s.Out ∈ outsL (sec n s.Section).Kind s.In := hc.1 (by simpa using hcf)
    have hi : i < p.length := (List.getElem?_eq_some_iff.1 his).1
    refine tot_bind (P := fun c => (c = .go () ∧ ∀ j q, j + 1 = i → p[j]? = some q → line_joined n ⟨q.Section, q.Out⟩ = some (true, ⟨s.Section, s.In⟩)) ∨ (c = .out 5 ∧ ¬ PathOk n p)) ?_ fun c _ hc2 => tot_on (fun u hu => ?_) (fun x hx => ?_)
    · refine tot_ifb (fun h0 => ?_) fun h0 => tot_some (.inl ⟨rfl, fun j q hj => ?_⟩)
      · have h0 : (i : Int) > 0 := of_decide_eq_true h0
        rw [w64_id (by omega) (by omega), show (i : Int) - 1 = ((i - 1 : Nat) : Int) by omega]
        have hq : p[i - 1]? = some p[i - 1] := List.getElem?_eq_getElem (by omega)
        refine tot_bind' (idx_get (by omega)) ?_
        refine tot_bind (joined_any n _) fun y hy _ => ?_
        refine tot_bind (P := fun b => b = false ↔ y = (true, ⟨s.Section, s.In⟩)) ?_ fun b _ hb => tot_ifb (fun h => tot_some (.inr ⟨rfl, fun hp => ?_⟩)) fun h => tot_some (.inl ⟨rfl, fun j q hj hjq => ?_⟩)
        · obtain ⟨y1, y2⟩ := y
          refine tot_ifb (fun h => tot_some ⟨fun h => (by cases h), fun h2 => ?_⟩) fun h => tot_some ?_
          · injection h2 with h2 _; rw [h2] at h; cases h
          · have hy1 : y1 = true := by simpa using h
            subst hy1
            cases hq2 : (ieq y2.section_ s.Section && (ieq y2.end_ s.In && true)) with
            | true =>
              simp only [Bool.and_eq_true, ieq_iff, and_true] at hq2
              exact ⟨fun _ => by rw [end_ext (a := y2) (b := ⟨s.Section, s.In⟩) hq2.1 hq2.2], fun _ => rfl⟩
            | false =>
              refine ⟨fun h => (by cases h), fun h2 => ?_⟩
              injection h2 with _ h2
              rw [h2] at hq2
              simp [ieq] at hq2
        · have h5 := hp.join (i - 1) _ s hq (by rw [show i - 1 + 1 = i by omega]; exact his)
          rw [hy] at h5
          injection h5 with h5
          rw [hb.2 h5] at h; cases h
        · have : j = i - 1 := by omega
          subst this
          rw [hq] at hjq
          injection hjq with hjq
          rw [← hjq, hy, hb.1 h]
      · have h0 : ¬ (i : Int) > 0 := of_decide_eq_false h0
        omega
    · rcases hc2 with ⟨_, hj⟩ | ⟨h5, _⟩
      · refine tot_ifb (fun hs => tot_some ⟨by decide, fun hp => ?_⟩) fun hs => tot_some ?_
        · obtain ⟨j, t, hjt, hpj, ht⟩ := (hI.seen s.Section).1 hs
          exact hp.once j i t s hjt hpj his ht
        · show PI n p (i + 1) (mset ieq s.Section true m)
          refine ⟨fun x => ?_, fun j t hjt hpj => ?_, fun j q t hjt hq ht => ?_, fun j k a b hjk hk ha hb2 => ?_⟩
          · by_cases q : x = s.Section
            · subst q
              rw [mfind_same ieq_iff]
              exact ⟨fun _ => ⟨i, s, by omega, his, rfl⟩, fun _ => rfl⟩
            · rw [mfind_other ieq_iff _ q, hI.seen x]
              constructor
              · rintro ⟨j, t, a, b, c⟩; exact ⟨j, t, by omega, b, c⟩
              · rintro ⟨j, t, a, b, c⟩
                by_cases e : j = i
                · subst e
                  rw [his] at b
                  injection b with b
                  subst b
                  exact absurd c.symm q
                · exact ⟨j, t, by omega, b, c⟩
          · by_cases e : j = i
            · subst e
              rw [his] at hpj
              injection hpj with hpj
              subst hpj
              exact ⟨h1, h2, h3⟩
            · exact hI.step j t (by omega) hpj
          · by_cases e : j + 1 = i
            · rw [e, his] at ht
              injection ht with ht
              subst ht
              exact hj j q e hq
            · exact hI.join j q t (by omega) hq ht
          · by_cases e : k = i
            · subst e
              rw [his] at hb2
              injection hb2 with hb2
              subst hb2
              intro hab
              have := (hI.seen s.Section).2 ⟨j, a, hjk, ha, hab⟩
              rw [show (mfind ieq s.Section m).getD false = false from hs] at this
              cases this
            · exact hI.once j k a b hjk (by omega) ha hb2
      · rw [hu] at h5; cases h5
    · rcases hc2 with ⟨h5, _⟩ | ⟨h5, h6⟩
      · rw [hx] at h5; cases h5
      · rw [hx] at h5
        injection h5 with h5
        subst h5
        exact tot_some ⟨by decide, h6⟩
  · exact ⟨hlen, fun i s h => hI.step i s (List.getElem?_eq_some_iff.1 h).1 h, fun i q s hq hs => hI.join i q s (List.getElem?_eq_some_iff.1 hs).1 hq hs, fun i j s t hij hs ht => hI.once i j s t hij (List.getElem?_eq_some_iff.1 ht).1 hs ht⟩
end Lr
set_option linter.unusedVariables false
set_option linter.unusedSimpArgs false
set_option maxRecDepth 100000
namespace Lr
open Go Hk Hd Pl
theorem stands_tot (p : List S_api_Step) (x : Int) : Tot (line_stands p x) (fun b => b = true ↔ ∃ s ∈ p, s.Section = x) := by
  unfold line_stands slices_ContainsFunc_api_Step_api_Step slices_IndexFunc_api_Step_api_Step
  refine tot_bind (P := fun b => b = true ↔ ∃ s ∈ p, s.Section = x) ?_ fun b _ hb => tot_some hb
  refine tot_bind (P := fun r => r ≥ 0 ↔ ∃ s ∈ p, s.Section = x) ?_ fun r _ hr => tot_some (by rw [decide_eq_true_iff]; exact hr)
  refine tot_allX (P := fun _ s => s.Section ≠ x) (E := fun r => r ≥ 0 ∧ ∃ s ∈ p, s.Section = x) (fun i s hs => ?_) (fun h => ?_) (fun r hr => tot_some ⟨fun _ => hr.2, fun _ => hr.1⟩)
  · unfold slices_IndexFunc_api_Step_api_Step_b1 line_stands_1
    refine tot_bind' rfl (tot_ifb (fun h => tot_some ?_) fun h => tot_some ?_)
    · exact ⟨by show (i : Int) ≥ 0; omega, s, List.mem_of_getElem? hs, by simpa using h⟩
    · simpa using h
  · refine tot_some ⟨fun hr => absurd hr (by omega), fun ⟨s, hs, hx⟩ => ?_⟩
    obtain ⟨i, hi⟩ := List.mem_iff_getElem?.1 hs
    exact absurd hx (h i s hi)
theorem signal_any (n : S_api_Net) (e : S_line_end) : Tot (line_signal n e) (fun r => r = -1 ∨ 0 ≤ r) := by
  unfold line_signal slices_Index_api_Signal_api_Signal
  refine tot_bind (P := fun r => r = -1 ∨ 0 ≤ r) ?_ fun r _ hr => tot_some hr
  refine tot_allX (P := fun _ _ => True) (E := fun r => 0 ≤ r) (fun i s hs => ?_) (fun h => tot_some (.inl rfl)) (fun r hr => tot_some (.inr hr))
  unfold slices_Index_api_Signal_api_Signal_b1
  exact tot_ifb (fun _ => tot_some (by show (0 : Int) ≤ (i : Int); omega)) fun _ => tot_some trivial
theorem clone_eq {p : List S_api_Step} (h : p.length ≤ 60) : slices_Clone_api_Step_api_Step p = some p := by
  refine tot_eq ?_
  unfold slices_Clone_api_Step_api_Step slices_Clone_api_Step_api_Step_v2
  refine tot_ifb (fun h => by cases h) fun _ => ?_
  exact tot_bind' (gapp_eq (by simp [apRoom]; omega) (by simp [maxLen]; omega)) (tot_some rfl)
def WayOk (n : S_api_Net) (e : S_line_end) (s : S_api_Step) : Prop :=
  line_joined n e = some (true, ⟨s.Section, s.In⟩) ∧ Has n ⟨s.Section, s.In⟩ ∧ Has n ⟨s.Section, s.Out⟩ ∧ s.Out ∈ outsL (sec n s.Section).Kind s.In
theorem outs_has {k i o : Int} (hk : k = 1 ∨ k = 2 ∨ k = 3) (i0 : 0 ≤ i) (i1 : i < endsI k) (h : o ∈ outsL k i) : 0 ≤ o ∧ o < endsI k := by
  unfold outsL at h
  unfold endsI at *
  rcases hk with rfl | rfl | rfl
  · simp at i1 h ⊢
    rw [xor1 i i0 (by omega)] at h
    split at h
    · omega
    · split at h <;> omega
  · simp at i1 h ⊢
    split at h
    · simp at h; omega
    · simp at h; omega
  · simp at i1 h ⊢
    rw [xor1 i i0 (by omega)] at h
    split at h
    · omega
    · split at h
      · omega
      · split at h <;> omega
theorem outs_len (k i : Int) : (outsL k i).length ≤ 2 := by unfold outsL; by_cases h : k = 2 <;> by_cases h0 : i = 0 <;> simp [h, h0]
theorem collect_list (x3 : Bool × S_line_end) (x6 : List Int) (hx : x6.length ≤ 2) : ∀ (m k : Nat), k ≤ x6.length → x6.length - k < m → Tot (collectY (it0_line_walk_1_b1 x3 x6) m (k : Int)) (fun l => (∀ s ∈ l, s.Section = x3.2.section_ ∧ s.In = x3.2.end_ ∧ s.Out ∈ x6) ∧ l.length ≤ x6.length - k)
  | 0, k, _, h => by omega
  | m + 1, k, hk, hm => by
    show Tot ((it0_line_walk_1_b1 x3 x6 (k : Int)).bind _) _
    unfold it0_line_walk_1_b1
    by_cases hlt : k < x6.length
    · have hd : decide ((k : Int) < (x6.length : Int)) = true := decide_eq_true (by omega)
      rw [hd]
      show Tot (((idx x6 (k : Int)).bind _ : Option _).bind _) _
      rw [idx_get hlt]
      show Tot ((collectY (it0_line_walk_1_b1 x3 x6) m (w64 ((k : Int) + 1))).map (fun l => (⟨x3.2.section_, x3.2.end_, x6[k]⟩ : S_api_Step) :: l)) _
      rw [w64_id (by omega) (by omega), show (k : Int) + 1 = ((k + 1 : Nat) : Int) by omega]
      obtain ⟨l, h1, h2, h3⟩ := collect_list x3 x6 hx m (k + 1) (by omega) (by omega)
      rw [h1]
      refine tot_some ⟨fun s hs => ?_, by simp; omega⟩
      rcases List.mem_cons.1 hs with rfl | hs
      · exact ⟨rfl, rfl, List.getElem_mem _⟩
      · exact h2 s hs
    · have hd : decide ((k : Int) < (x6.length : Int)) = false := decide_eq_false (by omega)
      rw [hd]
      exact tot_some ⟨fun s hs => by simp at hs, by simp⟩
theorem ways_tot {n : S_api_Net} (hn : NetOk n) (e : S_line_end) : Tot (it0_line_walk_1 (some n) (some e)) (fun l => (∀ s ∈ l, WayOk n e s) ∧ l.length ≤ 2) := by
  show Tot (it0_line_walk_1_N bigN (some n) (some e)) _
  unfold it0_line_walk_1_N
  refine tot_bind' rfl (tot_bind' rfl ?_)
  obtain ⟨y, hy, hy2⟩ := joined_tot n e
  refine tot_bind' hy (tot_ifb (fun _ => tot_some ⟨fun s hs => by simp at hs, by simp⟩) fun h => ?_)
  obtain ⟨y1, y2⟩ := y
  have hy1 : y1 = true := by simpa using h
  subst hy1
  have hh : Has n y2 := by
    rcases hy2 with ⟨_, l, hl, ⟨_, q⟩ | ⟨_, q⟩⟩ | ⟨q, _⟩
    · have q : y2 = eB l := q
      rw [q]; exact (hn.links.has l hl).2.1
    · have q : y2 = eA l := q
      rw [q]; exact (hn.links.has l hl).1
    · cases q
  refine tot_bind' rfl (tot_bind' (idx_nth zS hh.1 hh.2.1) (tot_bind' (outs_eq _ _) ?_))
  have hl2 := outs_len (nth zS n.Sections y2.section_).Kind y2.end_
  obtain ⟨l, h1, h2, h3⟩ := collect_list (true, y2) (outsL (nth zS n.Sections y2.section_).Kind y2.end_) hl2 bigN 0 (Nat.zero_le _) (by unfold bigN; omega)
  refine ⟨l, h1, fun s hs => ?_, by omega⟩
  obtain ⟨q1, q2, q3⟩ := h2 s hs
  have q1 : s.Section = y2.section_ := q1
  have q2 : s.In = y2.end_ := q2
  have hq : (⟨s.Section, s.In⟩ : S_line_end) = y2 := end_ext q1 q2
  have hk := (hn.secs _ (nth_mem zS hh.1 hh.2.1)).kind
  obtain ⟨o0, o1⟩ := outs_has hk hh.2.2.1 hh.2.2.2 q3
  refine ⟨by rw [hq]; exact hy, by rw [hq]; exact hh, ⟨by rw [q1]; exact hh.1, by rw [q1]; exact hh.2.1, o0, ?_⟩, ?_⟩
  · show s.Out < endsI (sec n s.Section).Kind
    rw [q1]; exact o1
  · rw [q1, q2]; exact q3
end Lr
set_option linter.unusedVariables false
set_option linter.unusedSimpArgs false
set_option maxRecDepth 100000
namespace Lr
open Go Hk Hd Pl
def atE (g : S_api_Signal) (p : List S_api_Step) : S_line_end := match p.getLast? with | none => ⟨g.Section, g.End⟩ | some s => ⟨s.Section, s.Out⟩
structure Part (n : S_api_Net) (g : S_api_Signal) (p : List S_api_Step) : Prop where
  path : PathOk n p
  first : ∀ s, p[0]? = some s → line_joined n ⟨g.Section, g.End⟩ = some (true, ⟨s.Section, s.In⟩)
  home : ∀ s ∈ p, s.Section ≠ g.Section
  free : ∀ s ∈ p, line_signal n ⟨s.Section, s.Out⟩ = some (-1)
  short : p.length ≤ 16
structure RouteOk (n : S_api_Net) (g : S_api_Signal) (from_ : Int) (r : S_api_Route) : Prop where
  from_ : r.From = from_
  ex : ∃ p s, r.Steps = p ++ [s] ∧ PathOk n (p ++ [s]) ∧ (∀ t, (p ++ [s])[0]? = some t → line_joined n ⟨g.Section, g.End⟩ = some (true, ⟨t.Section, t.In⟩)) ∧ (∀ t ∈ p ++ [s], t.Section ≠ g.Section) ∧
    (∀ t ∈ p, line_signal n ⟨t.Section, t.Out⟩ = some (-1)) ∧ line_signal n ⟨s.Section, s.Out⟩ = some r.To ∧ (r.To = -1 ∨ 0 ≤ r.To) ∧ (r.To < 0 → ∃ x, line_joined n ⟨s.Section, s.Out⟩ = some (false, x))
theorem get_app {α : Type} {p : List α} {s t : α} {i : Nat} (h : (p ++ [s])[i]? = some t) : p[i]? = some t ∨ (i = p.length ∧ t = s) := by
  rcases Nat.lt_trichotomy i p.length with hi | hi | hi
  · rw [List.getElem?_append_left hi] at h; exact .inl h
  · subst hi; simp at h; exact .inr ⟨rfl, h.symm⟩
  · rw [List.getElem?_append_right (by omega)] at h
    have : i - p.length = (i - p.length - 1) + 1 := by omega
    rw [this] at h
    simp at h
theorem ext_ok {n : S_api_Net} {g : S_api_Signal} {p : List S_api_Step} (h : Part n g p) {s : S_api_Step} (hw : WayOk n (atE g p) s) (hh : s.Section ≠ g.Section) (hs : ∀ t ∈ p, t.Section ≠ s.Section) (hl : p.length + 1 ≤ 16) :
    PathOk n (p ++ [s]) ∧ (∀ t, (p ++ [s])[0]? = some t → line_joined n ⟨g.Section, g.End⟩ = some (true, ⟨t.Section, t.In⟩)) ∧ ∀ t ∈ p ++ [s], t.Section ≠ g.Section := by
  obtain ⟨w1, w2, w3, w4⟩ := hw
  refine ⟨⟨by simp; omega, fun i t ht => ?_, fun i q t hq ht => ?_, fun i j a b hij ha hb => ?_⟩, fun t ht => ?_, fun t ht => ?_⟩
  · rcases get_app ht with ht | ⟨_, rfl⟩
    · exact h.path.step i t ht
    · exact ⟨w2, w3, w4⟩
  · rcases get_app ht with ht' | ⟨hi, rfl⟩
    · have hlt : i + 1 < p.length := (List.getElem?_eq_some_iff.1 ht').1
      rcases get_app hq with hq | ⟨hi, _⟩
      · exact h.path.join i q t hq ht'
      · omega
    · rcases get_app hq with hq | ⟨hi2, _⟩
      · have hlast : p.getLast? = some q := by
          rw [List.getLast?_eq_getElem?, show p.length - 1 = i by omega]; exact hq
        have : atE g p = ⟨q.Section, q.Out⟩ := by unfold atE; rw [hlast]
        rw [← this]; exact w1
      · omega
  · rcases get_app hb with hb' | ⟨hj, rfl⟩
    · have hlt : j < p.length := (List.getElem?_eq_some_iff.1 hb').1
      rcases get_app ha with ha | ⟨hi, _⟩
      · exact h.path.once i j a b hij ha hb'
      · omega
    · rcases get_app ha with ha | ⟨hi, _⟩
      · exact hs a (List.mem_of_getElem? ha)
      · omega
  · rcases get_app ht with ht' | ⟨h0, rfl⟩
    · exact h.first t ht'
    · have hnil : p = [] := List.length_eq_zero_iff.1 h0.symm
      subst hnil
      exact w1
  · rcases List.mem_append.1 ht with ht | ht
    · exact h.home t ht
    · rw [List.mem_singleton.1 ht]; exact hh
structure SI (l : List S_api_Route) (k : Int) (b : Bool) : Prop where
  le : (l.length : Int) ≤ k
  hi : k ≤ 81
  lo : b = false → k ≤ 80
abbrev GT : Type := List ByteArray × List S_api_Section × List S_api_Link × List S_api_Signal × List S_api_Gate × Int × Bool × List S_api_Route
def Post (n : S_api_Net) (g : S_api_Signal) (from_ : Int) (l : List S_api_Route) (x : GT) : Prop :=
  ∃ k b new, x = (n.Stations, n.Sections, n.Links, n.Signals, n.Gates, k, b, l ++ new) ∧ SI (l ++ new) k b ∧ ∀ r ∈ new, RouteOk n g from_ r
abbrev RecT : Type := Int → S_line_end → List S_api_Step → List ByteArray → List S_api_Section → List S_api_Link → List S_api_Signal → List S_api_Gate → List S_api_Route → Int → Bool → Option GT
theorem step_tot {n : S_api_Net} (hn : NetOk n) {g : S_api_Signal} {from_ : Int} (hg : idx n.Signals from_ = some g) {rec_ : RecT} {p : List S_api_Step} (hp : Part n g p) {l : List S_api_Route} {k : Int} {b : Bool} (hs : SI l k b)
    (hrec : ∀ s l' k', Part n g (p ++ [s]) → SI l' k' false → Tot (rec_ from_ ⟨s.Section, s.Out⟩ (p ++ [s]) n.Stations n.Sections n.Links n.Signals n.Gates l' k' false) (Post n g from_ l')) :
    Tot (line_finder_grow_v2_step rec_ from_ (atE g p) p n.Stations n.Sections n.Links n.Signals n.Gates l k b) (Post n g from_ l) := by
  unfold line_finder_grow_v2_step line_walk
  refine tot_bind' hg (tot_bind' rfl ?_)
  refine tot_bind (ways_tot hn (atE g p)) fun ws _ hws => ?_
  refine tot_loop (I := fun _ s => Post n g from_ l s) (J := fun s => Post n g from_ l s) (E := fun s => Post n g from_ l s) ⟨k, b, [], by simp, by simpa using hs, by simp⟩ (fun i e s he hI => ?_) (fun s h => h) (fun s h => tot_some h) (fun s h => tot_some h)
  obtain ⟨k1, b1, new, rfl, hsi, hnew⟩ := hI
  have hw := hws.1 e (List.mem_of_getElem? he)
  unfold line_finder_grow_v2_b1
  have same : ∀ (k2 : Int) (b2 : Bool), SI (l ++ new) k2 b2 → Post n g from_ l (n.Stations, n.Sections, n.Links, n.Signals, n.Gates, k2, b2, l ++ new) := fun k2 b2 h => ⟨k2, b2, new, rfl, h, hnew⟩
  refine tot_ifb (fun hb1 => tot_some (same k1 b1 hsi)) fun hb1 => ?_
  have hb1 : b1 = false := hb1
  subst hb1
  have hk := hsi.lo rfl
  have h0 : (0 : Int) ≤ k1 := by have := hsi.le; omega
  have cnt : ∀ (rs : List S_api_Route), Tot (line_finder_count n.Stations n.Sections n.Links n.Signals n.Gates rs k1 false) (fun x => ∃ b2, x = (n.Stations, n.Sections, n.Links, n.Signals, n.Gates, k1 + 1, b2) ∧ (b2 = false → k1 + 1 ≤ 80)) := by
    intro rs
    unfold line_finder_count
    refine tot_ifb (fun h => by cases h) fun _ => tot_some ⟨_, by rw [w64_id (by omega) (by omega)], fun h => ?_⟩
    have := of_decide_eq_false h
    omega
  refine tot_bind (P := fun c => c = true ↔ (e.Section = g.Section ∨ ∃ t ∈ p, t.Section = e.Section)) ?_ fun c _ hc => tot_ifb (fun hct => ?_) fun hcf => ?_
  · refine tot_ifb (fun h => tot_some ⟨fun _ => .inl (by simpa using h), fun _ => rfl⟩) fun h => ?_
    have h : e.Section ≠ g.Section := by simpa using h
    exact tot_bind (stands_tot p e.Section) fun c _ hc => tot_some (hc.trans ⟨.inr, fun q => q.resolve_left h⟩)
  · refine tot_bind (cnt _) fun x _ hx => ?_
    obtain ⟨b2, rfl, hb2⟩ := hx
    exact tot_some (same (k1 + 1) b2 ⟨by have := hsi.le; omega, by omega, hb2⟩)
  have hne : ¬ (e.Section = g.Section ∨ ∃ t ∈ p, t.Section = e.Section) := fun h => by rw [hc.2 h] at hcf; cases hcf
  have hps := hp.short
  refine tot_bind' (x := p ++ [e]) ?_ ?_
  · rw [clone_eq (by omega)]
    show (gapp 24 p [e]).bind _ = _
    rw [gapp_eq (by simp [apRoom]; omega) (by simp [maxLen]; omega)]
    rfl
  refine tot_ifb (fun _ => tot_some (same k1 true ⟨hsi.le, hsi.hi, fun h => by cases h⟩)) fun hlen => ?_
  have hlen : p.length + 1 ≤ 16 := by
    have := of_decide_eq_false hlen
    simp at this
    omega
  obtain ⟨x1, x2, x3⟩ := ext_ok hp hw (fun h => hne (.inl h)) (fun t ht h => hne (.inr ⟨t, ht, h⟩)) hlen
  obtain ⟨to, hto, hto2⟩ := signal_any n ⟨e.Section, e.Out⟩
  refine tot_bind' hto ?_
  obtain ⟨y, hy, _⟩ := joined_tot n ⟨e.Section, e.Out⟩
  refine tot_bind' (x := y.1) (by
    show (line_joined n ⟨e.Section, e.Out⟩).bind _ = _
    rw [hy]; rfl) ?_
  refine tot_bind (P := fun c => c = true ↔ (y.1 = true ∧ to < 0)) ?_ fun c _ hc2 => tot_ifb (fun hct => ?_) fun hcf2 => ?_
  · refine tot_ifb (fun h => tot_some ?_) fun h => tot_some ⟨fun q => (by cases q), fun q => (by rw [q.1] at h; cases h)⟩
    rw [decide_eq_true_iff]
    exact ⟨fun q => ⟨h, q⟩, fun q => q.2⟩
  · obtain ⟨_, htn⟩ := hc2.1 hct
    have hto3 : to = -1 := by omega
    subst hto3
    have hpart : Part n g (p ++ [e]) := ⟨x1, x2, x3, fun t ht => by
      rcases List.mem_append.1 ht with ht | ht
      · exact hp.free t ht
      · rw [List.mem_singleton.1 ht]; exact hto, by simp; omega⟩
    refine tot_bind (hrec e (l ++ new) k1 hpart hsi) fun x _ hx => ?_
    obtain ⟨k2, b2, new2, rfl, hsi2, hnew2⟩ := hx
    refine tot_some ⟨k2, b2, new ++ new2, by simp, by rw [← List.append_assoc]; exact hsi2, fun r hr => ?_⟩
    rcases List.mem_append.1 hr with hr | hr
    · exact hnew r hr
    · exact hnew2 r hr
  · have hle := hsi.le
    refine tot_bind' (gapp_eq (by simp [apRoom] at hle ⊢; omega) (by simp [maxLen] at hle ⊢; omega)) ?_
    refine tot_bind (cnt _) fun x _ hx => ?_
    obtain ⟨b2, rfl, hb2⟩ := hx
    refine tot_some ⟨k1 + 1, b2, new ++ [⟨from_, to, p ++ [e]⟩], by simp, ⟨by simp at hle ⊢; omega, by omega, hb2⟩, fun r hr => ?_⟩
    rcases List.mem_append.1 hr with hr | hr
    · exact hnew r hr
    · rw [List.mem_singleton.1 hr]
      refine ⟨rfl, p, e, rfl, x1, x2, x3, hp.free, hto, hto2, fun hneg => ?_⟩
      obtain ⟨y1, y2⟩ := y
      cases y1 with
      | true => rw [hc2.2 ⟨rfl, hneg⟩] at hcf2; cases hcf2
      | false => exact ⟨y2, hy⟩
theorem grow_tot {n : S_api_Net} (hn : NetOk n) {g : S_api_Signal} {from_ : Int} (hg : idx n.Signals from_ = some g) : ∀ (m : Nat) (p : List S_api_Step) (l : List S_api_Route) (k : Int) (b : Bool), Part n g p → SI l k b → 16 - p.length < m →
    Tot (line_finder_grow_v2_n m from_ (atE g p) p n.Stations n.Sections n.Links n.Signals n.Gates l k b) (Post n g from_ l)
  | 0, p, l, k, b, _, _, h => by omega
  | m + 1, p, l, k, b, hp, hs, h => step_tot hn hg hp hs fun s l' k' hp' hs' => by
    have := grow_tot hn hg m (p ++ [s]) l' k' false hp' hs' (by have := hp'.short; simp at this ⊢; omega)
    have he : atE g (p ++ [s]) = ⟨s.Section, s.Out⟩ := by unfold atE; simp
    rw [he] at this
    exact this
end Lr
set_option linter.unusedVariables false
set_option linter.unusedSimpArgs false
set_option maxRecDepth 100000
namespace Lr
open Go Hk Hd Pl
structure RI (n : S_api_Net) (i : Nat) (l : List S_api_Route) : Prop where
  ok : ∀ r ∈ l, 0 ≤ r.From ∧ r.From < i ∧ ∃ g, idx n.Signals r.From = some g ∧ RouteOk n g r.From r
  sorted : ∀ (a b : Nat) r s, a < b → l[a]? = some r → l[b]? = some s → r.From ≤ s.From
theorem routes_tot {n : S_api_Net} (hn : NetOk n) : Tot (line_routes n) (fun x => (x.1 ≠ 0 ∧ x.2 = []) ∨ (x.1 = 0 ∧ RI n n.Signals.length x.2 ∧ x.2.length ≤ 81)) := by
  unfold line_routes
  refine tot_loopX (I := fun i s => ∃ k b l, s = (n.Stations, n.Sections, n.Links, n.Signals, n.Gates, k, b, l) ∧ SI l k b ∧ RI n i l) (J := fun s => ∃ k b l, s = (n.Stations, n.Sections, n.Links, n.Signals, n.Gates, k, b, l) ∧ SI l k b ∧ RI n n.Signals.length l) (E := fun _ => False)
    ⟨0, false, [], rfl, ⟨by simp, by omega, fun _ => by omega⟩, ⟨fun r hr => by simp at hr, fun a b r s _ h => by simp at h⟩⟩ (fun i g s hg hI => ?_) (fun s h => h) (fun s ⟨k, b, l, h1, h2, h3⟩ => ?_) (fun x => x.elim)
  · obtain ⟨k, b, l, rfl, hs, hr⟩ := hI
    have hgi : idx n.Signals (i : Int) = some g := idx_nat hg
    have hp : Part n g [] := ⟨⟨by simp, fun i s h => by simp at h, fun i q s h => by simp at h, fun i j s t _ h => by simp at h⟩, fun s h => by simp at h, fun s h => by simp at h, fun s h => by simp at h, by simp⟩
    have hst := step_tot hn hgi (rec_ := line_finder_grow_v2) hp hs fun s l' k' hp' hs' => by
      have := grow_tot hn hgi bigN ([] ++ [s]) l' k' false hp' hs' (by unfold bigN; omega)
      have he : atE g ([] ++ [s]) = ⟨s.Section, s.Out⟩ := rfl
      rw [he] at this
      exact this
    unfold line_routes_b1
    refine tot_bind (P := Post n g i l) (show Tot (line_finder_grow_v2_step line_finder_grow_v2 i (atE g []) [] n.Stations n.Sections n.Links n.Signals n.Gates l k b) (Post n g i l) from hst) fun x _ hx => tot_some ?_
    obtain ⟨k2, b2, new, rfl, hsi, hnew⟩ := hx
    refine ⟨k2, b2, l ++ new, rfl, hsi, fun r hr2 => ?_, fun a c r t hac ha hc => ?_⟩
    · rcases List.mem_append.1 hr2 with h | h
      · obtain ⟨q1, q2, q3⟩ := hr.ok r h
        exact ⟨q1, by omega, q3⟩
      · have hf := (hnew r h).from_
        rw [hf]
        exact ⟨by omega, by omega, g, hgi, hnew r h⟩
    · have key : ∀ {m : Nat} {r : S_api_Route}, (l ++ new)[m]? = some r → (l[m]? = some r ∧ r.From < i) ∨ (l.length ≤ m ∧ r.From = i) := by
        intro m r h
        by_cases q : m < l.length
        · rw [List.getElem?_append_left q] at h
          exact .inl ⟨h, (hr.ok r (List.mem_of_getElem? h)).2.1⟩
        · rw [List.getElem?_append_right (by omega)] at h
          exact .inr ⟨by omega, (hnew r (List.mem_of_getElem? h)).from_⟩
      rcases key ha with ⟨a1, a2⟩ | ⟨a1, a2⟩ <;> rcases key hc with ⟨c1, c2⟩ | ⟨c1, c2⟩
      · exact hr.sorted a c r t hac a1 c1
      · omega
      · have := (List.getElem?_eq_some_iff.1 c1).1
        omega
      · omega
  · subst h1
    refine tot_ifb (fun _ => tot_some (.inl ⟨by decide, rfl⟩)) fun _ => tot_some (.inr ⟨rfl, h3, by have := h2.le; have := h2.hi; show l.length ≤ 81; omega⟩)
theorem joined_has {n : S_api_Net} (hn : NetOk n) {e x : S_line_end} (h : line_joined n e = some (true, x)) : Has n e := by
  obtain ⟨y, hy, hy2⟩ := joined_tot n e
  rw [h] at hy
  injection hy with hy
  subst hy
  rcases hy2 with ⟨_, l, hl, ⟨q, _⟩ | ⟨q, _⟩⟩ | ⟨q, _⟩
  · rw [← q]; exact (hn.links.has l hl).1
  · rw [← q]; exact (hn.links.has l hl).2.1
  · cases q
theorem checkEnd_eq {n : S_api_Net} (hn : NetOk n) (hc : line_Check n = some 0) {e : S_line_end} (h : Has n e) : line_checkEnd n e = some 0 := by
  refine tot_eq ?_
  unfold line_checkEnd
  refine tot_bind' hc ?_
  refine tot_bind (has_tot hn.len e) fun b _ hb => ?_
  rw [hb.2 h]
  exact tot_some rfl
theorem next_tot {n : S_api_Net} (hn : NetOk n) (hc : line_Check n = some 0) {a b : Int} (h : Has n ⟨a, b⟩) {y : Bool × S_line_end} (hy : line_joined n ⟨a, b⟩ = some y) :
    line_Next n a b = some (if y.1 = true then (y.2.section_, y.2.end_, 0) else (0, 0, 9)) := by
  refine tot_eq ?_
  unfold line_Next
  refine tot_bind' (checkEnd_eq hn hc h) ?_
  refine tot_bind' hy ?_
  obtain ⟨y1, y2⟩ := y
  cases y1
  · exact tot_some rfl
  · exact tot_some rfl
theorem signalAt_eq {n : S_api_Net} (hn : NetOk n) (hc : line_Check n = some 0) {a b r : Int} (h : Has n ⟨a, b⟩) (hr : line_signal n ⟨a, b⟩ = some r) : line_SignalAt n a b = some (if r < 0 then (0, 9) else (r, 0)) := by
  refine tot_eq ?_
  unfold line_SignalAt
  refine tot_bind' (checkEnd_eq hn hc h) ?_
  refine tot_bind' hr ?_
  by_cases q : r < 0
  · rw [if_pos q, decide_eq_true q]; exact tot_some rfl
  · rw [if_neg q, decide_eq_false q]; exact tot_some rfl
theorem runs_eq {n : S_api_Net} (hn : NetOk n) (hc : line_Check n = some 0) {r : S_api_Route} {g : S_api_Signal} (h0 : 0 ≤ r.From) (h1 : r.From < n.Signals.length) (hg : idx n.Signals r.From = some g) (h : RouteOk n g r.From r) : fishkeep1_routeRuns n r = some true := by
  obtain ⟨p, s, hst, hpath, hfirst, hhome, hfree, hto, hto2, hend⟩ := h.ex
  refine tot_eq ?_
  unfold fishkeep1_routeRuns
  rw [hst]
  have hlen : (p ++ [s]).length = p.length + 1 := by simp
  have hl60 := hpath.len
  rw [hlen] at hl60
  obtain ⟨e, he, hq⟩ := path_tot hn hc (p ++ [s])
  have := hq.2 hpath
  subst this
  refine tot_bind' (x := false) ?_ ?_
  · rw [decide_eq_false (by omega), decide_eq_false (by omega)]
    have : ((((p ++ [s]).length : Nat) : Int) == 0) = false := by rw [hlen]; simp; omega
    rw [this]
    show (line_CheckPath n (p ++ [s])).bind _ = _
    rw [he]; rfl
  show Tot ((idx n.Signals r.From).bind _) _
  refine tot_bind' hg ?_
  obtain ⟨t, ht⟩ : ∃ t, (p ++ [s])[0]? = some t := ⟨_, List.getElem?_eq_getElem (by rw [hlen]; omega)⟩
  have hj := hfirst t ht
  refine tot_bind' (next_tot hn hc (joined_has hn hj) hj) ?_
  have ht0 : idx (p ++ [s]) (0 : Int) = some t := idx_nat (i := 0) ht
  refine tot_bind' (x := false) ?_ ?_
  · show (idx (p ++ [s]) 0).bind _ = _
    rw [ht0]
    show ifb (t.Section != t.Section) _ _ = _
    have : (t.Section != t.Section) = false := by simp
    rw [this]
    show some (t.In != t.In) = _
    simp
  show Tot ((forX _ (p ++ [s]) ()).bind _) _
  refine tot_allX (P := fun _ _ => True) (E := fun _ => False) (fun i x hx => ?_) (fun _ => ?_) (fun y hy => hy.elim)
  · unfold fishkeep1_routeRuns_b1
    rw [hst]
    obtain ⟨w1, w2, w3⟩ := hpath.step i x hx
    have hh : (x.Section == g.Section) = false := by
      have := hhome x (List.mem_of_getElem? hx)
      simpa using this
    rw [hlen]
    have hw : w64 (((p.length + 1 : Nat) : Int) - 1) = (p.length : Int) := by rw [w64_id (by omega) (by omega)]; omega
    rw [hw, hh]
    rcases get_app hx with hx' | ⟨hi, rfl⟩
    · have hlt : i < p.length := (List.getElem?_eq_some_iff.1 hx').1
      refine tot_bind' (signalAt_eq hn hc w2 (hfree x (List.mem_of_getElem? hx'))) ?_
      have hil : ((i : Int) == (p.length : Int)) = false := by simp; omega
      rw [hil]
      exact tot_some trivial
    · refine tot_bind' (signalAt_eq hn hc w2 hto) ?_
      have hil : ((i : Int) == (p.length : Int)) = true := by simp [hi]
      rw [hil]
      rcases hto2 with q | q
      · rw [q]
        exact tot_some trivial
      · rw [if_neg (by omega)]
        refine tot_bind' (x := false) (by simp [ifb]) (tot_some trivial)
  · have hlast : idx (p ++ [s]) (w64 ((((p ++ [s]).length : Nat) : Int) - 1)) = some s := by
      rw [hlen, w64_id (by omega) (by omega), show ((p.length + 1 : Nat) : Int) - 1 = (p.length : Int) by omega]
      exact idx_nat (by simp)
    refine tot_bind' hlast ?_
    obtain ⟨w1, w2, w3⟩ := hpath.step p.length s (by simp)
    obtain ⟨y, hy, _⟩ := joined_tot n ⟨s.Section, s.Out⟩
    refine tot_bind' (next_tot hn hc w2 hy) ?_
    rcases hto2 with q | q
    · obtain ⟨x, hx⟩ := hend (by omega)
      rw [hy] at hx
      injection hx with hx
      rw [hx, q]
      exact tot_some rfl
    · rw [decide_eq_true q]
      exact tot_some rfl
theorem awake : fishkeep1_awakeLine = some () := by kernel_rfl
theorem law (n : S_api_Net) (hi : NetIn n) : fishkeep1_LineRuns n = some true := by
  refine tot_eq ?_
  unfold fishkeep1_LineRuns
  refine tot_bind' awake ?_
  refine tot_bind (P := fun x => (x.1 ≠ 0 ∧ x.2 = []) ∨ (x.1 = 0 ∧ line_Check n = some 0 ∧ NetOk n ∧ RI n n.Signals.length x.2 ∧ x.2.length ≤ 81)) ?_ fun x _ hx => ?_
  · unfold line_Routes
    refine tot_bind (check_tot hi) fun e he hq => tot_ifb (fun h => tot_some (.inl ⟨by simpa using h, rfl⟩)) fun h => ?_
    have h0 : e = 0 := by simpa using h
    subst h0
    refine tot_bind (routes_tot (hq rfl)) fun y _ hy => tot_some ?_
    exact hy.imp (fun h => h) fun h => ⟨h.1, he, hq rfl, h.2⟩
  · rcases hx with ⟨h1, h2⟩ | ⟨h1, hc, hn, hr, h81⟩
    · refine tot_ifb (fun _ => tot_some (by rw [h2]; rfl)) fun h => absurd (by simpa using h) h1
    · refine tot_ifb (fun h => absurd h1 (by simpa using h)) fun _ => ?_
      refine tot_allX (P := fun _ _ => True) (E := fun _ => False) (fun i r hir => ?_) (fun _ => tot_some rfl) (fun y hy => hy.elim)
      unfold fishkeep1_LineRuns_b1
      obtain ⟨q1, q2, g, q3, q4⟩ := hr.ok r (List.mem_of_getElem? hir)
      refine tot_bind' (x := false) ?_ (tot_some trivial)
      rw [runs_eq hn hc q1 q2 q3 q4]
      show ifb (decide ((i : Int) > 0)) _ _ = _
      by_cases h0 : (i : Int) > 0
      · rw [decide_eq_true h0]
        have hlt : i < x.2.length := (List.getElem?_eq_some_iff.1 hir).1
        show (idx x.2 (w64 ((i : Int) - 1))).bind _ = _
        rw [w64_id (by omega) (by omega), show (i : Int) - 1 = ((i - 1 : Nat) : Int) by omega, idx_get (by omega)]
        show some (decide (x.2[i - 1].From > r.From)) = _
        have := hr.sorted (i - 1) i x.2[i - 1] r (by omega) (List.getElem?_eq_getElem (by omega)) hir
        rw [decide_eq_false (by omega)]
      · rw [decide_eq_false h0]; rfl
end Lr
