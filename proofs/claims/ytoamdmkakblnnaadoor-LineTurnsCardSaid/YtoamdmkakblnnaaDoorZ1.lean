/- The net: ends, sections, what is joined. -/
import Derived.Test.YtoamdmkakblnnaaDoorZP
import Derived.Test.YtoamdmkakblnnaaDoorK5
set_option linter.unusedVariables false
set_option linter.unusedSimpArgs false
set_option maxRecDepth 100000
namespace Lt
open Go Hk Hd Pl
theorem mfind_same {α β : Type} {eq : α → α → Bool} (he : ∀ a b, eq a b = true ↔ a = b) (x : α) (y : β) : ∀ m : List (α × β), mfind eq x (mset eq x y m) = some y
  | [] => by
    show cond (eq x x) (some y) none = _
    rw [(he x x).2 rfl]; rfl
  | (a, b) :: r => by
    show mfind eq x (cond (eq x a) ((x, y) :: r) ((a, b) :: mset eq x y r)) = some y
    cases hq : eq x a with
    | true =>
      show cond (eq x x) (some y) (mfind eq x r) = _
      rw [(he x x).2 rfl]; rfl
    | false =>
      show cond (eq x a) (some b) (mfind eq x (mset eq x y r)) = _
      rw [hq]
      exact mfind_same he x y r
theorem mfind_other {α β : Type} {eq : α → α → Bool} (he : ∀ a b, eq a b = true ↔ a = b) {x z : α} (y : β) (h : z ≠ x) : ∀ m : List (α × β), mfind eq z (mset eq x y m) = mfind eq z m
  | [] => by
    show cond (eq z x) (some y) none = _
    cases hq : eq z x with
    | true => exact absurd ((he z x).1 hq) h
    | false => rfl
  | (a, b) :: r => by
    show mfind eq z (cond (eq x a) ((x, y) :: r) ((a, b) :: mset eq x y r)) = cond (eq z a) (some b) (mfind eq z r)
    cases hq : eq x a with
    | true =>
      have := (he x a).1 hq
      subst this
      show cond (eq z x) (some y) (mfind eq z r) = _
      cases hz : eq z x with
      | true => exact absurd ((he z x).1 hz) h
      | false => rfl
    | false =>
      show cond (eq z a) (some b) (mfind eq z (mset eq x y r)) = _
      rw [mfind_other he y h r]
theorem ieq_iff (a b : Int) : ieq a b = true ↔ a = b := by unfold ieq; simp
theorem end_ext {a b : S_line_end} (h1 : a.section_ = b.section_) (h2 : a.end_ = b.end_) : a = b := by cases a; cases b; simp at h1 h2; simp [h1, h2]
theorem keq_iff (a b : S_line_end) : S_line_end.keq a b = true ↔ a = b := by
  unfold S_line_end.keq
  simp only [Bool.and_eq_true, ieq_iff, and_true]
  exact ⟨fun h => end_ext h.1 h.2, fun h => by subst h; exact ⟨rfl, rfl⟩⟩
def endsI (k : Int) : Int := if k = 1 then 2 else if k = 2 then 3 else if k = 3 then 4 else 0
theorem ends_eq (k : Int) : line_ends k = some (endsI k) := by
  unfold line_ends endsI
  by_cases h1 : k = 1
  · simp [h1, ifb]
  · by_cases h2 : k = 2
    · simp [h2, ifb]
    · by_cases h3 : k = 3
      · simp [h3, ifb]
      · have e1 : (k == 1) = false := by simpa using h1
        have e2 : (k == 2) = false := by simpa using h2
        have e3 : (k == 3) = false := by simpa using h3
        rw [e1, e2, e3, if_neg h1, if_neg h2, if_neg h3]
        rfl
theorem within_eq (a l h : Int) : line_within a l h = some (decide (l ≤ a ∧ a ≤ h)) := by
  unfold line_within
  by_cases h1 : l ≤ a
  · have : decide (a ≥ l) = true := decide_eq_true h1
    rw [this]
    simp [ifb, h1]
  · have : decide (a ≥ l) = false := decide_eq_false h1
    rw [this]
    simp [ifb, h1]
def zS : S_api_Section := ⟨0, 0, 0, 0, 0, 0, false⟩
def sec (n : S_api_Net) (s : Int) : S_api_Section := nth zS n.Sections s
def Has (n : S_api_Net) (e : S_line_end) : Prop := 0 ≤ e.section_ ∧ e.section_ < n.Sections.length ∧ 0 ≤ e.end_ ∧ e.end_ < endsI (sec n e.section_).Kind
theorem endsI_range (k : Int) : 0 ≤ endsI k ∧ endsI k ≤ 4 := by unfold endsI; repeat' split <;> omega
theorem has_tot {n : S_api_Net} (hl : n.Sections.length ≤ 60) (e : S_line_end) : Tot (line_has n e) (fun b => b = true ↔ Has n e) := by
  unfold line_has
  have hw : w64 ((n.Sections.length : Int) - 1) = (n.Sections.length : Int) - 1 := w64_id (by omega) (by omega)
  refine tot_bind (P := fun b => b = true ↔ Has n e) ?_ fun b _ hb => tot_some hb
  refine tot_bind' (within_eq _ _ _) ?_
  rw [hw]
  refine tot_ifb (fun h => ?_) fun h => ?_
  · obtain ⟨h0, h1⟩ := of_decide_eq_true h
    refine tot_bind' (idx_nth zS h0 (by omega)) ?_
    refine tot_bind' (ends_eq _) ?_
    have hr := endsI_range (nth zS n.Sections e.section_).Kind
    rw [w64_id (by omega) (by omega)]
    refine tot_bind' (within_eq _ _ _) (tot_some ?_)
    rw [decide_eq_true_iff]
    unfold Has sec
    exact ⟨fun ⟨a, b⟩ => ⟨h0, by omega, a, by omega⟩, fun ⟨_, _, a, b⟩ => ⟨a, by omega⟩⟩
  · refine tot_some ⟨fun h => (by cases h), fun hh => ?_⟩
    exact absurd ⟨hh.1, by have := hh.2.1; omega⟩ (of_decide_eq_false h)
def eA (l : S_api_Link) : S_line_end := ⟨l.A, l.EndA⟩
def eB (l : S_api_Link) : S_line_end := ⟨l.B, l.EndB⟩
def JR (n : S_api_Net) (e : S_line_end) (y : Bool × S_line_end) : Prop :=
  (y.1 = true ∧ ∃ l ∈ n.Links, (eA l = e ∧ y.2 = eB l) ∨ (eB l = e ∧ y.2 = eA l)) ∨ (y.1 = false ∧ ∀ l ∈ n.Links, eA l ≠ e ∧ eB l ≠ e)
theorem test_tot {a b c d : Int} : Tot (ifb (a == b) (some (c == d)) (some false)) (fun t => t = true ↔ a = b ∧ c = d) := by
  refine tot_ifb (fun h => tot_some ?_) fun h => tot_some ?_
  · have : a = b := by simpa using h
    simp [this]
  · have : a ≠ b := by simpa using h
    simp [this]
theorem joined_tot (n : S_api_Net) (e : S_line_end) : Tot (line_joined n e) (JR n e) := by
  unfold line_joined
  refine tot_allX (P := fun _ l => eA l ≠ e ∧ eB l ≠ e) (E := fun y => y.1 = true ∧ ∃ l ∈ n.Links, (eA l = e ∧ y.2 = eB l) ∨ (eB l = e ∧ y.2 = eA l)) (fun i l hl => ?_) (fun h => ?_) (fun y hy => tot_some (.inl hy))
  · unfold line_joined_b1
    have hm := List.mem_of_getElem? hl
    refine tot_bind test_tot fun b _ hb => tot_ifb (fun h => tot_some ⟨rfl, l, hm, .inl ⟨end_ext (hb.1 h).1 (hb.1 h).2, rfl⟩⟩) fun h => ?_
    refine tot_bind test_tot fun c _ hc => tot_ifb (fun h2 => tot_some ⟨rfl, l, hm, .inr ⟨end_ext (hc.1 h2).1 (hc.1 h2).2, rfl⟩⟩) fun h2 => tot_some ?_
    refine ⟨fun q => ?_, fun q => ?_⟩
    · have : b = true := hb.2 (by rw [← q]; exact ⟨rfl, rfl⟩)
      rw [h] at this; cases this
    · have : c = true := hc.2 (by rw [← q]; exact ⟨rfl, rfl⟩)
      rw [h2] at this; cases this
  · refine tot_some (.inr ⟨rfl, fun l hl => ?_⟩)
    obtain ⟨i, hi⟩ := List.mem_iff_getElem?.1 hl
    exact h i l hi
structure LinksOk (n : S_api_Net) : Prop where
  has : ∀ l ∈ n.Links, Has n (eA l) ∧ Has n (eB l) ∧ l.A < l.B
  once : ∀ (i j : Nat) l l', n.Links[i]? = some l → n.Links[j]? = some l' → i ≠ j → eA l ≠ eA l' ∧ eA l ≠ eB l' ∧ eB l ≠ eA l' ∧ eB l ≠ eB l'
theorem joined_back {n : S_api_Net} (h : LinksOk n) {e x : S_line_end} (hj : JR n e (true, x)) {y : Bool × S_line_end} (hy : JR n x y) : y = (true, e) := by
  rcases hj with ⟨_, l, hl, hlx⟩ | ⟨hf, _⟩
  · have hx : eA l = x ∨ eB l = x := hlx.elim (fun q => .inr q.2.symm) (fun q => .inl q.2.symm)
    rcases hy with ⟨hy1, l', hl', hly⟩ | ⟨_, hn⟩
    · obtain ⟨i, hi⟩ := List.mem_iff_getElem?.1 hl
      obtain ⟨k, hk⟩ := List.mem_iff_getElem?.1 hl'
      have hx' : eA l' = x ∨ eB l' = x := hly.elim (fun q => .inl q.1) (fun q => .inr q.1)
      have hik : i = k := by
        by_cases q : i = k
        · exact q
        · obtain ⟨o1, o2, o3, o4⟩ := h.once i k l l' hi hk q
          rcases hx with hx | hx <;> rcases hx' with hx' | hx'
          · exact absurd (hx.trans hx'.symm) o1
          · exact absurd (hx.trans hx'.symm) o2
          · exact absurd (hx.trans hx'.symm) o3
          · exact absurd (hx.trans hx'.symm) o4
      subst hik
      rw [hi] at hk
      injection hk with hk
      subst hk
      have hne : eA l ≠ eB l := fun q => by
        have h1 := (h.has l hl).2.2
        have h2 : l.A = l.B := congrArg S_line_end.section_ q
        omega
      obtain ⟨y1, y2⟩ := y
      have hy1 : y1 = true := hy1
      subst hy1
      congr 1
      rcases hlx with ⟨q1, q2⟩ | ⟨q1, q2⟩ <;> rcases hly with ⟨q3, q4⟩ | ⟨q3, q4⟩
      · exact absurd (q3.trans q2) hne
      · exact q4.trans q1
      · exact q4.trans q1
      · exact absurd (q2.symm.trans q3.symm) hne
    · have := hn l hl
      rcases hx with hx | hx
      · exact absurd hx this.1
      · exact absurd hx this.2
  · cases hf
def outsL (k i : Int) : List Int := if k = 2 then (if i = 0 then [1, 2] else [0]) else [Hd.ixor .i64 i 1]
theorem outs_eq (k i : Int) : line_outs k i = some (outsL k i) := by
  unfold line_outs outsL
  by_cases h2 : k = 2
  · have e2 : (k == 2) = true := by simpa using h2
    rw [e2, if_pos h2]
    by_cases h0 : i = 0
    · have e0 : (i == 0) = true := by simpa using h0
      rw [e0, if_pos h0]; rfl
    · have e0 : (i == 0) = false := by simpa using h0
      rw [e0, if_neg h0]; rfl
  · have e2 : (k == 2) = false := by simpa using h2
    rw [e2, if_neg h2]; rfl
theorem index_tot (xs : List Int) (x : Int) : Tot (slices_Index_int_int xs x) (fun r => r ≥ 0 ↔ x ∈ xs) := by
  unfold slices_Index_int_int
  refine tot_allX (P := fun _ y => x ≠ y) (E := fun r => r ≥ 0 ∧ x ∈ xs) (fun i y hy => ?_) (fun h => ?_) (fun r hr => tot_some ⟨fun _ => hr.2, fun _ => hr.1⟩)
  · unfold slices_Index_int_int_b1
    refine tot_ifb (fun h => tot_some ?_) fun h => tot_some ?_
    · have : x = y := by simpa using h
      exact ⟨by show (i : Int) ≥ 0; omega, this ▸ List.mem_of_getElem? hy⟩
    · simpa using h
  · refine tot_some ⟨fun hr => absurd hr (by omega), fun hm => ?_⟩
    obtain ⟨i, hi⟩ := List.mem_iff_getElem?.1 hm
    exact absurd rfl (h i x hi)
theorem contains_tot (xs : List Int) (x : Int) : Tot (slices_Contains_int_int xs x) (fun b => b = true ↔ x ∈ xs) := by
  unfold slices_Contains_int_int
  refine tot_bind (index_tot xs x) fun r _ hr => tot_some ?_
  rw [decide_eq_true_iff]
  exact hr
theorem xor1 (i : Int) (h0 : 0 ≤ i) (h1 : i < 4) : Hd.ixor .i64 i 1 = if i = 0 then 1 else if i = 1 then 0 else if i = 2 then 3 else 2 := by
  have : i = 0 ∨ i = 1 ∨ i = 2 ∨ i = 3 := by omega
  rcases this with rfl | rfl | rfl | rfl <;> decide
theorem outs_back {k i o : Int} (i0 : 0 ≤ i) (i1 : i < endsI k) (o0 : 0 ≤ o) (o1 : o < endsI k) (h : o ∈ outsL k i) : i ∈ outsL k o := by
  unfold outsL at *
  unfold endsI at *
  by_cases h2 : k = 2
  · subst h2
    simp at *
    by_cases hi : i = 0
    · subst hi
      simp at h
      rcases h with rfl | rfl <;> simp
    · simp [hi] at h
      subst h
      simp
      omega
  · simp only [h2, if_false] at *
    have i4 : i < 4 := by split at i1 <;> (try split at i1) <;> omega
    have o4 : o < 4 := by split at o1 <;> (try split at o1) <;> omega
    rw [xor1 i i0 i4] at h
    rw [xor1 o o0 o4]
    simp only [List.mem_singleton] at *
    have : i = 0 ∨ i = 1 ∨ i = 2 ∨ i = 3 := by omega
    rcases this with rfl | rfl | rfl | rfl <;> simp at h <;> subst h <;> simp
end Lt
set_option linter.unusedVariables false
set_option linter.unusedSimpArgs false
set_option maxRecDepth 100000
namespace Lt
open Go Hk Hd Pl
structure SecOk (s : S_api_Section) : Prop where
  kind : s.Kind = 1 ∨ s.Kind = 2 ∨ s.Kind = 3
  len : 10 ≤ s.Length ∧ s.Length ≤ 3000
  grade : -40 ≤ s.Grade ∧ s.Grade ≤ 40
  cross : s.Kind = 3 → s.Grade = 0
structure NetOk (n : S_api_Net) : Prop where
  len : n.Sections.length ≤ 60
  secs : ∀ s ∈ n.Sections, SecOk s
  links : LinksOk n
theorem name_tot {s : ByteArray} (h : s.size ≤ maxLen) : Tot (line_name s) (fun _ => True) := by
  unfold line_name
  have : sbytes s = some ((sl8 s).map fun b => (b.toNat : Int)) := by
    unfold sbytes
    rw [if_pos (by unfold maxLen at h; omega)]
  refine tot_bind' this ?_
  refine tot_allX (P := fun _ _ => True) (E := fun _ => True) (fun i x hx => ?_) (fun _ => ?_) (fun y _ => tot_some trivial)
  · unfold line_name_b1
    refine tot_bind (P := fun _ => True) (tot_ifb (fun _ => tot_some trivial) fun _ => tot_some trivial) fun b _ _ => tot_ifb (fun _ => tot_some trivial) fun _ => tot_some trivial
  · exact tot_bind (P := fun _ => True) (tot_ifb (fun _ => tot_some trivial) fun _ => tot_some trivial) fun b _ _ => tot_some trivial
theorem containsS_tot (xs : List ByteArray) (x : ByteArray) : Tot (slices_Contains_string_string xs x) (fun _ => True) := by
  unfold slices_Contains_string_string slices_Index_string_string
  refine tot_bind (P := fun _ => True) ?_ fun _ _ _ => tot_some trivial
  refine tot_allX (P := fun _ _ => True) (E := fun _ => True) (fun i y hy => ?_) (fun _ => tot_some trivial) (fun y _ => tot_some trivial)
  unfold slices_Index_string_string_b1
  exact tot_ifb (fun _ => tot_some trivial) fun _ => tot_some trivial
theorem section_tot (s : S_api_Section) (m : Int) : Tot (line_checkSection s m) (fun e => e = 0 → SecOk s) := by
  unfold line_checkSection
  refine tot_bind' (ends_eq _) ?_
  refine tot_ifb (fun _ => tot_some fun h => by cases h) fun hk => ?_
  have hk : endsI s.Kind ≠ 0 := by simpa using hk
  have kind : s.Kind = 1 ∨ s.Kind = 2 ∨ s.Kind = 3 := by
    unfold endsI at hk
    by_cases h1 : s.Kind = 1
    · exact .inl h1
    · by_cases h2 : s.Kind = 2
      · exact .inr (.inl h2)
      · by_cases h3 : s.Kind = 3
        · exact .inr (.inr h3)
        · simp [h1, h2, h3] at hk
  refine tot_bind (P := fun b => b = false → (10 ≤ s.Length ∧ s.Length ≤ 3000) ∧ (-40 ≤ s.Grade ∧ s.Grade ≤ 40)) ?_ fun b _ hb => ?_
  · refine tot_bind' (within_eq _ _ _) (tot_ifb (fun _ => tot_some fun h => by cases h) fun h1 => ?_)
    refine tot_bind' (within_eq _ _ _) (tot_ifb (fun _ => tot_some fun h => by cases h) fun h2 => ?_)
    refine tot_bind' (within_eq _ _ _) (tot_some fun _ => ?_)
    exact ⟨by simpa using h1, by simpa using h2⟩
  refine tot_ifb (fun _ => tot_some fun h => by cases h) fun hb2 => ?_
  obtain ⟨hl, hg⟩ := hb hb2
  refine tot_bind (P := fun _ => True) ?_ fun c _ _ => tot_ifb (fun _ => tot_some fun h => by cases h) fun _ => ?_
  · refine tot_ifb (fun _ => ?_) fun _ => tot_ifb (fun _ => tot_bind' (within_eq _ _ _) (tot_some trivial)) fun _ => tot_some trivial
    refine tot_bind' (within_eq _ _ _) (tot_ifb (fun _ => tot_some trivial) fun _ => tot_ifb (fun _ => tot_bind' (within_eq _ _ _) (tot_some trivial)) fun _ => tot_some trivial)
  have gr : ∀ {Q : Bool → Prop}, (Q true) → ((s.Kind = 3 → s.Grade = 0) → Q false) → Tot (ifb (s.Grade != 0) (some (s.Kind == 3)) (some false)) Q := by
    intro Q h1 h2
    refine tot_ifb (fun h => ?_) fun h => tot_some (h2 fun _ => by simpa using h)
    cases hq : s.Kind == 3 with
    | true => exact tot_some h1
    | false => exact tot_some (h2 fun h3 => by rw [h3] at hq; cases hq)
  refine tot_bind (P := fun b => b = false → (s.Kind = 3 → s.Grade = 0)) ?_ fun d _ hd => tot_ifb (fun _ => tot_some fun h => by cases h) fun h => tot_some fun _ => ⟨kind, hl, hg, hd h⟩
  have g2 : Tot (ifb (s.Station != 0) (ifb (!(s.Kind == 1)) (some true) (ifb (s.Grade != 0) (some (s.Kind == 3)) (some false))) (ifb (s.Grade != 0) (some (s.Kind == 3)) (some false))) (fun b => b = false → (s.Kind = 3 → s.Grade = 0)) :=
    tot_ifb (fun _ => tot_ifb (fun _ => tot_some fun h => by cases h) fun _ => gr (fun h => by cases h) fun h _ => h) fun _ => gr (fun h => by cases h) fun h _ => h
  exact tot_ifb (fun _ => tot_ifb (fun _ => tot_some fun h => by cases h) fun _ => g2) fun _ => g2
theorem compare_tot (a b : Int) : Tot (cmp_Compare_int a b) (fun _ => True) := by
  unfold cmp_Compare_int cmp_isNaN_int
  refine tot_bind (P := fun _ => True) (tot_some trivial) fun x _ _ => tot_bind (P := fun _ => True) (tot_some trivial) fun y _ _ => ?_
  exact tot_ifb (fun _ => tot_ifb (fun _ => tot_some trivial) fun _ => tot_some trivial) fun _ => tot_ifb (fun _ => tot_some trivial) fun _ => tot_ifb (fun _ => tot_some trivial) fun _ => tot_ifb (fun _ => tot_some trivial) fun _ => tot_some trivial
theorem or_tot (xs : List Int) : Tot (cmp_Or_int xs) (fun _ => True) := by
  unfold cmp_Or_int
  refine tot_allX (P := fun _ _ => True) (E := fun _ => True) (fun i y hy => ?_) (fun _ => tot_some trivial) (fun y _ => tot_some trivial)
  unfold cmp_Or_int_b1
  exact tot_ifb (fun _ => tot_some trivial) fun _ => tot_some trivial
def seenOf (n : S_api_Net) (i : Nat) (e : S_line_end) : Prop := ∃ j l, j < i ∧ n.Links[j]? = some l ∧ (eA l = e ∨ eB l = e)
structure LI (n : S_api_Net) (i : Nat) (s : List (S_line_end × Bool)) : Prop where
  seen : ∀ e, (mfind S_line_end.keq e s).getD false = true ↔ seenOf n i e
  has : ∀ j l, j < i → n.Links[j]? = some l → Has n (eA l) ∧ Has n (eB l) ∧ l.A < l.B
  once : ∀ (j k : Nat) l l', j < k → k < i → n.Links[j]? = some l → n.Links[k]? = some l' → eA l ≠ eA l' ∧ eA l ≠ eB l' ∧ eB l ≠ eA l' ∧ eB l ≠ eB l'
theorem links_tot {n : S_api_Net} (hl : n.Sections.length ≤ 60) (hn : n.Links.length ≤ maxLen) : Tot (line_checkLinks n) (fun e => e = 0 → LinksOk n) := by
  unfold line_checkLinks
  refine tot_loopX (I := LI n) (J := fun _ => LinksOk n) (E := fun e => e ≠ 0) ⟨fun e => ⟨fun h => (by cases h), fun ⟨j, _, h, _⟩ => (by omega)⟩, fun j l h => (by omega), fun j k l l' _ h => by omega⟩ (fun i l s hil hI => ?_) (fun s hI => ?_) (fun s hJ => tot_some fun _ => hJ) (fun e he => tot_some fun h => absurd h he)
  · unfold line_checkLinks_b1
    refine tot_bind' rfl ?_
    refine tot_bind (P := fun b => b = false → Has n (eA l) ∧ Has n (eB l)) ?_ fun b _ hb => tot_ifb (fun _ => tot_some (by show (3 : Int) ≠ 0; decide)) fun hbf => ?_
    · refine tot_bind (has_tot hl (eA l)) fun c _ hc => tot_ifb (fun _ => tot_some fun h => by cases h) fun hcf => ?_
      refine tot_bind (has_tot hl (eB l)) fun d _ hd => tot_some fun hdf => ?_
      exact ⟨hc.1 (by simpa using hcf), hd.1 (by simpa using hdf)⟩
    obtain ⟨ha, hb⟩ := hb hbf
    refine tot_ifb (fun _ => tot_some (by show (1 : Int) ≠ 0; decide)) fun h1 => tot_ifb (fun _ => tot_some (by show (5 : Int) ≠ 0; decide)) fun h2 => ?_
    have hab : l.A < l.B := by
      have h1 : l.A ≠ l.B := by simpa using h1
      have h2 : ¬ l.A > l.B := by simpa using h2
      omega
    have hi : i < n.Links.length := (List.getElem?_eq_some_iff.1 hil).1
    refine tot_bind (P := fun c => c = .go () ∨ c = .out 5) ?_ fun c _ hc => tot_on (fun u hu => ?_) (fun x hx => ?_)
    · refine tot_ifb (fun h0 => ?_) fun _ => tot_some (.inl rfl)
      have h0 : (i : Int) > 0 := of_decide_eq_true h0
      unfold maxLen at hn
      rw [w64_id (by omega) (by omega), show (i : Int) - 1 = ((i - 1 : Nat) : Int) by omega]
      refine tot_bind (P := fun _ => True) (eq_tot (idx_get (by omega)) trivial) fun q _ _ => ?_
      refine tot_bind (compare_tot _ _) fun _ _ _ => tot_bind (compare_tot _ _) fun _ _ _ => tot_bind (or_tot _) fun _ _ _ => tot_ifb (fun _ => tot_some (.inr rfl)) fun _ => tot_some (.inl rfl)
    · refine tot_bind (P := fun b => b = false → ¬ seenOf n i (eA l) ∧ ¬ seenOf n i (eB l)) ?_ fun b _ hb2 => tot_ifb (fun _ => tot_some (by show (6 : Int) ≠ 0; decide)) fun hb3 => tot_some ?_
      · refine tot_ifb (fun _ => tot_some fun h => by cases h) fun h => tot_some fun h2 => ⟨fun q => ?_, fun q => ?_⟩
        · have := (hI.seen (eA l)).2 q
          rw [show (mfind S_line_end.keq (eA l) s).getD false = false from h] at this; cases this
        · have := (hI.seen (eB l)).2 q
          rw [show (mfind S_line_end.keq (eB l) s).getD false = false from h2] at this; cases this
      · obtain ⟨n1, n2⟩ := hb2 hb3
        show LI n (i + 1) (mset S_line_end.keq (eB l) true (mset S_line_end.keq (eA l) true s))
        refine ⟨fun e => ?_, fun j l' hj hl' => ?_, fun j k l1 l2 hjk hk e1 e2 => ?_⟩
        · have hnew : seenOf n (i + 1) e ↔ seenOf n i e ∨ eA l = e ∨ eB l = e := by
            constructor
            · rintro ⟨j, l', hj, hl', he⟩
              by_cases q : j = i
              · subst q
                rw [hil] at hl'
                injection hl' with hl'
                subst hl'
                exact .inr he
              · exact .inl ⟨j, l', by omega, hl', he⟩
            · rintro (⟨j, l', hj, hl', he⟩ | he)
              · exact ⟨j, l', by omega, hl', he⟩
              · exact ⟨i, l, by omega, hil, he⟩
          rw [hnew]
          by_cases q1 : e = eB l
          · subst q1
            rw [mfind_same keq_iff]
            exact ⟨fun _ => .inr (.inr rfl), fun _ => rfl⟩
          · rw [mfind_other keq_iff _ q1]
            by_cases q2 : e = eA l
            · subst q2
              rw [mfind_same keq_iff]
              exact ⟨fun _ => .inr (.inl rfl), fun _ => rfl⟩
            · rw [mfind_other keq_iff _ q2, hI.seen e]
              exact ⟨.inl, fun h => h.elim id fun h => h.elim (fun h => absurd h.symm q2) fun h => absurd h.symm q1⟩
        · by_cases q : j = i
          · subst q
            rw [hil] at hl'
            injection hl' with hl'
            subst hl'
            exact ⟨ha, hb, hab⟩
          · exact hI.has j l' (by omega) hl'
        · by_cases q : k = i
          · subst q
            rw [hil] at e2
            injection e2 with e2
            subst e2
            exact ⟨fun h => n1 ⟨j, l1, hjk, e1, .inl h⟩, fun h => n2 ⟨j, l1, hjk, e1, .inl h⟩, fun h => n1 ⟨j, l1, hjk, e1, .inr h⟩, fun h => n2 ⟨j, l1, hjk, e1, .inr h⟩⟩
          · exact hI.once j k l1 l2 hjk (by omega) e1 e2
    · rcases hc with hc | hc
      · rw [hc] at hx; cases hx
      · rw [hc] at hx
        injection hx with hx
        subst hx
        exact tot_some (by show (5 : Int) ≠ 0; decide)
  · refine ⟨fun l hm => ?_, fun i j l l' hi hj hne => ?_⟩
    · obtain ⟨i, hi⟩ := List.mem_iff_getElem?.1 hm
      exact hI.has i l (List.getElem?_eq_some_iff.1 hi).1 hi
    · by_cases q : i < j
      · exact hI.once i j l l' q (List.getElem?_eq_some_iff.1 hj).1 hi hj
      · obtain ⟨a, b, c, d⟩ := hI.once j i l' l (by omega) (List.getElem?_eq_some_iff.1 hi).1 hj hi
        exact ⟨a.symm, c.symm, b.symm, d.symm⟩
end Lt
set_option linter.unusedVariables false
set_option linter.unusedSimpArgs false
set_option maxRecDepth 100000
namespace Lt
open Go Hk Hd Pl
theorem joined_any (n : S_api_Net) (e : S_line_end) : Tot (line_joined n e) (fun _ => True) := tot_mono (joined_tot n e) fun _ _ => trivial
theorem signals_tot {n : S_api_Net} (hl : n.Sections.length ≤ 60) (hn : n.Signals.length ≤ maxLen) : Tot (line_checkSignals n) (fun _ => True) := by
  unfold line_checkSignals
  refine tot_allX (P := fun _ _ => True) (E := fun _ => True) (fun i x hx => ?_) (fun _ => tot_some trivial) (fun y _ => tot_some trivial)
  unfold line_checkSignals_b1
  refine tot_bind (has_tot hl _) fun b _ hb => tot_ifb (fun _ => tot_some trivial) fun hbf => ?_
  have hh := hb.1 (by simpa using hbf)
  refine tot_bind (joined_any n _) fun y _ _ => ?_
  refine tot_bind (P := fun _ => True) (tot_ifb (fun _ => tot_some trivial) fun _ => ?_) fun c _ _ => tot_ifb (fun _ => tot_some trivial) fun _ => tot_ifb (fun h0 => ?_) fun _ => tot_some trivial
  · exact tot_bind' (idx_nth zS hh.1 hh.2.1) (tot_some trivial)
  · have h0 : (i : Int) > 0 := of_decide_eq_true h0
    have hi : i < n.Signals.length := (List.getElem?_eq_some_iff.1 hx).1
    unfold maxLen at hn
    rw [w64_id (by omega) (by omega), show (i : Int) - 1 = ((i - 1 : Nat) : Int) by omega]
    refine tot_bind (P := fun _ => True) (eq_tot (idx_get (by omega)) trivial) fun q _ _ => ?_
    exact tot_bind (compare_tot _ _) fun _ _ _ => tot_bind (compare_tot _ _) fun _ _ _ => tot_bind (or_tot _) fun _ _ _ => tot_ifb (fun _ => tot_some trivial) fun _ => tot_some trivial
theorem gates_tot {n : S_api_Net} (hl : n.Sections.length ≤ 60) (hn : n.Gates.length ≤ maxLen) : Tot (line_checkGates n) (fun _ => True) := by
  unfold line_checkGates
  refine tot_allX (P := fun _ _ => True) (E := fun _ => True) (fun i x hx => ?_) (fun _ => tot_some trivial) (fun y _ => tot_some trivial)
  unfold line_checkGates_b1
  refine tot_bind' (within_eq _ _ _) (tot_ifb (fun _ => tot_some trivial) fun h => ?_)
  rw [w64_id (by omega) (by omega)] at h
  have h : 0 ≤ x.Section ∧ x.Section ≤ (n.Sections.length : Int) - 1 := by simpa using h
  refine tot_bind' (idx_nth zS h.1 (by omega)) (tot_ifb (fun _ => tot_some trivial) fun _ => ?_)
  refine tot_bind' (within_eq _ _ _) (tot_ifb (fun _ => tot_some trivial) fun _ => ?_)
  refine tot_bind (P := fun _ => True) (tot_ifb (fun h0 => ?_) fun _ => tot_some trivial) fun _ _ _ => tot_ifb (fun _ => tot_some trivial) fun _ => tot_some trivial
  have h0 : (i : Int) > 0 := of_decide_eq_true h0
  have hi : i < n.Gates.length := (List.getElem?_eq_some_iff.1 hx).1
  unfold maxLen at hn
  rw [w64_id (by omega) (by omega), show (i : Int) - 1 = ((i - 1 : Nat) : Int) by omega]
  exact tot_bind (P := fun _ => True) (eq_tot (idx_get (by omega)) trivial) fun q _ _ => tot_some trivial
structure NetIn (n : S_api_Net) : Prop where
  st : n.Stations.length ≤ maxLen
  sz : ∀ s ∈ n.Stations, s.size ≤ maxLen
  li : n.Links.length ≤ maxLen
  si : n.Signals.length ≤ maxLen
  ga : n.Gates.length ≤ maxLen
theorem check_tot {n : S_api_Net} (h : NetIn n) : Tot (line_Check n) (fun e => e = 0 → NetOk n) := by
  unfold line_Check
  refine tot_ifb (fun _ => tot_some fun h => by cases h) fun _ => ?_
  refine tot_bind (P := fun b => b = false → n.Sections.length ≤ 60) ?_ fun b _ hb => tot_ifb (fun _ => tot_some fun h => by cases h) fun hbf => ?_
  · refine tot_ifb (fun _ => tot_some fun h => by cases h) fun _ => tot_ifb (fun _ => tot_some fun h => by cases h) fun h2 => ?_
    have h2 : ¬ (n.Sections.length : Int) > 60 := of_decide_eq_false h2
    have h3 : n.Sections.length ≤ 60 := by omega
    exact tot_ifb (fun _ => tot_some fun _ => h3) fun _ => tot_ifb (fun _ => tot_some fun _ => h3) fun _ => tot_some fun _ => h3
  have hl := hb hbf
  refine tot_allX (P := fun _ _ => True) (E := fun e => e ≠ 0) (fun i s hs => ?_) (fun _ => ?_) (fun e he => tot_some fun h => absurd h he)
  · unfold line_Check_b1
    refine tot_bind (name_tot (h.sz s (List.mem_of_getElem? hs))) fun b _ _ => tot_ifb (fun _ => tot_some (by show (1 : Int) ≠ 0; decide)) fun _ => ?_
    have hi : i < n.Stations.length := (List.getElem?_eq_some_iff.1 hs).1
    refine tot_bind' (gcut_eq (Int.le_refl _) (by omega) (by omega)) ?_
    exact tot_bind (containsS_tot _ _) fun c _ _ => tot_ifb (fun _ => tot_some (by show (6 : Int) ≠ 0; decide)) fun _ => tot_some trivial
  · refine tot_allX (P := fun _ s => SecOk s) (E := fun e => e ≠ 0) (fun i s hs => ?_) (fun hsec => ?_) (fun e he => tot_some fun h => absurd h he)
    · unfold line_Check_b2
      exact tot_bind (section_tot s _) fun e _ he => tot_ifb (fun hne => tot_some (by simpa using hne)) fun h0 => tot_some (he (by simpa using h0))
    · refine tot_bind (links_tot hl h.li) fun e _ he => tot_ifb (fun hne => tot_some fun h => absurd h (by simpa using hne)) fun h0 => ?_
      refine tot_bind (signals_tot hl h.si) fun e2 _ _ => tot_ifb (fun hne => tot_some fun h => absurd h (by simpa using hne)) fun _ => ?_
      refine tot_bind (gates_tot hl h.ga) fun e3 _ _ => tot_ifb (fun hne => tot_some fun h => absurd h (by simpa using hne)) fun _ => tot_some fun _ => ?_
      refine ⟨hl, fun s hs => ?_, he (by simpa using h0)⟩
      obtain ⟨i, hi⟩ := List.mem_iff_getElem?.1 hs
      exact hsec i s hi
structure PathOk (n : S_api_Net) (p : List S_api_Step) : Prop where
  len : p.length ≤ 60
  step : ∀ (i : Nat) s, p[i]? = some s → Has n ⟨s.Section, s.In⟩ ∧ Has n ⟨s.Section, s.Out⟩ ∧ s.Out ∈ outsL (sec n s.Section).Kind s.In
  join : ∀ (i : Nat) q s, p[i]? = some q → p[i + 1]? = some s → line_joined n ⟨q.Section, q.Out⟩ = some (true, ⟨s.Section, s.In⟩)
  once : ∀ (i j : Nat) s t, i < j → p[i]? = some s → p[j]? = some t → s.Section ≠ t.Section
structure PI (n : S_api_Net) (p : List S_api_Step) (i : Nat) (m : List (Int × Bool)) : Prop where
  seen : ∀ x, (mfind ieq x m).getD false = true ↔ ∃ (j : Nat) (t : S_api_Step), j < i ∧ p[j]? = some t ∧ t.Section = x
  step : ∀ (j : Nat) s, j < i → p[j]? = some s → Has n ⟨s.Section, s.In⟩ ∧ Has n ⟨s.Section, s.Out⟩ ∧ s.Out ∈ outsL (sec n s.Section).Kind s.In
  join : ∀ (j : Nat) q s, j + 1 < i → p[j]? = some q → p[j + 1]? = some s → line_joined n ⟨q.Section, q.Out⟩ = some (true, ⟨s.Section, s.In⟩)
  once : ∀ (j k : Nat) s t, j < k → k < i → p[j]? = some s → p[k]? = some t → s.Section ≠ t.Section
theorem path_tot {n : S_api_Net} (hn : NetOk n) (hc : line_Check n = some 0) (p : List S_api_Step) : Tot (line_CheckPath n p) (fun e => e = 0 ↔ PathOk n p) := by
  unfold line_CheckPath
  refine tot_bind' hc ?_
  show Tot (ifb (decide ((p.length : Int) > 60)) _ _) _
  refine tot_ifb (fun h => tot_some ⟨fun h => (by cases h), fun hp => absurd hp.len (by have := of_decide_eq_true h; omega)⟩) fun h => ?_
  have hlen : p.length ≤ 60 := by have : ¬ (p.length : Int) > 60 := of_decide_eq_false h; omega
  refine tot_loopX (I := PI n p) (J := fun _ => PathOk n p) (E := fun e => e ≠ 0 ∧ ¬ PathOk n p) ⟨fun x => ⟨fun h => (by cases h), fun ⟨j, _, h, _⟩ => (by omega)⟩, fun j s h => (by omega), fun j q s h => (by omega), fun j k s t _ h => (by omega)⟩ (fun i s m his hI => ?_) (fun m hI => ?_) (fun m hJ => tot_some ⟨fun _ => hJ, fun _ => rfl⟩) (fun e he => tot_some ⟨fun h => absurd h he.1, fun h => absurd h he.2⟩)
  · unfold line_CheckPath_b1
    refine tot_bind (P := fun b => b = false ↔ (Has n ⟨s.Section, s.In⟩ ∧ Has n ⟨s.Section, s.Out⟩)) ?_ fun b _ hb => tot_ifb (fun hbt => tot_some ⟨by decide, fun hp => ?_⟩) fun hbf => ?_
    · refine tot_bind (has_tot hn.len ⟨s.Section, s.In⟩) fun c _ hc => tot_ifb (fun h => tot_some ⟨fun h => (by cases h), fun ⟨h1, _⟩ => ?_⟩) fun h => ?_
      · have := hc.2 h1; rw [this] at h; cases h
      · refine tot_bind (has_tot hn.len ⟨s.Section, s.Out⟩) fun d _ hd => tot_some ?_
        have h1 := hc.1 (by simpa using h)
        cases d with
        | true => exact ⟨fun _ => ⟨h1, hd.1 rfl⟩, fun _ => rfl⟩
        | false => exact ⟨fun h => (by cases h), fun ⟨_, h2⟩ => (by have := hd.2 h2; cases this)⟩
    · obtain ⟨h1, h2, _⟩ := hp.step i s his
      rw [hb.2 ⟨h1, h2⟩] at hbt; cases hbt
    obtain ⟨h1, h2⟩ := hb.1 hbf
    refine tot_bind' (idx_nth zS h1.1 h1.2.1) ?_
    refine tot_bind' (outs_eq _ _) ?_
    refine tot_bind (contains_tot _ _) fun c _ hc => tot_ifb (fun hct => tot_some ⟨by decide, fun hp => ?_⟩) fun hcf => ?_
    · obtain ⟨_, _, h3⟩ := hp.step i s his
      rw [hc.2 h3] at hct; cases hct
    have h3 : s.Out ∈ outsL (sec n s.Section).Kind s.In := hc.1 (by simpa using hcf)
    have hi : i < p.length := (List.getElem?_eq_some_iff.1 his).1
    refine tot_bind (P := fun c => (c = .go () ∧ ∀ j q, j + 1 = i → p[j]? = some q → line_joined n ⟨q.Section, q.Out⟩ = some (true, ⟨s.Section, s.In⟩)) ∨ (c = .out 5 ∧ ¬ PathOk n p)) ?_ fun c _ hc2 => tot_on (fun u hu => ?_) (fun x hx => ?_)
    · refine tot_ifb (fun h0 => ?_) fun h0 => tot_some (.inl ⟨rfl, fun j q hj => ?_⟩)
      · have h0 : (i : Int) > 0 := of_decide_eq_true h0
        rw [w64_id (by omega) (by omega), show (i : Int) - 1 = ((i - 1 : Nat) : Int) by omega]
        have hq : p[i - 1]? = some p[i - 1] := List.getElem?_eq_getElem (by omega)
        refine tot_bind' (idx_get (by omega)) ?_
        refine tot_bind (joined_any n _) fun y hy _ => ?_
        refine tot_bind (P := fun b => b = false ↔ y = (true, ⟨s.Section, s.In⟩)) ?_ fun b _ hb => tot_ifb (fun h => tot_some (.inr ⟨rfl, fun hp => ?_⟩)) fun h => tot_some (.inl ⟨rfl, fun j q hj hjq => ?_⟩)
        · obtain ⟨y1, y2⟩ := y
          refine tot_ifb (fun h => tot_some ⟨fun h => (by cases h), fun h2 => ?_⟩) fun h => tot_some ?_
          · injection h2 with h2 _; rw [h2] at h; cases h
          · have hy1 : y1 = true := by simpa using h
            subst hy1
            cases hq2 : (ieq y2.section_ s.Section && (ieq y2.end_ s.In && true)) with
            | true =>
              simp only [Bool.and_eq_true, ieq_iff, and_true] at hq2
              exact ⟨fun _ => by rw [end_ext (a := y2) (b := ⟨s.Section, s.In⟩) hq2.1 hq2.2], fun _ => rfl⟩
            | false =>
              refine ⟨fun h => (by cases h), fun h2 => ?_⟩
              injection h2 with _ h2
              rw [h2] at hq2
              simp [ieq] at hq2
        · have h5 := hp.join (i - 1) _ s hq (by rw [show i - 1 + 1 = i by omega]; exact his)
          rw [hy] at h5
          injection h5 with h5
          rw [hb.2 h5] at h; cases h
        · have : j = i - 1 := by omega
          subst this
          rw [hq] at hjq
          injection hjq with hjq
          rw [← hjq, hy, hb.1 h]
      · have h0 : ¬ (i : Int) > 0 := of_decide_eq_false h0
        omega
    · rcases hc2 with ⟨_, hj⟩ | ⟨h5, _⟩
      · refine tot_ifb (fun hs => tot_some ⟨by decide, fun hp => ?_⟩) fun hs => tot_some ?_
        · obtain ⟨j, t, hjt, hpj, ht⟩ := (hI.seen s.Section).1 hs
          exact hp.once j i t s hjt hpj his ht
        · show PI n p (i + 1) (mset ieq s.Section true m)
          refine ⟨fun x => ?_, fun j t hjt hpj => ?_, fun j q t hjt hq ht => ?_, fun j k a b hjk hk ha hb2 => ?_⟩
          · by_cases q : x = s.Section
            · subst q
              rw [mfind_same ieq_iff]
              exact ⟨fun _ => ⟨i, s, by omega, his, rfl⟩, fun _ => rfl⟩
            · rw [mfind_other ieq_iff _ q, hI.seen x]
              constructor
              · rintro ⟨j, t, a, b, c⟩; exact ⟨j, t, by omega, b, c⟩
              · rintro ⟨j, t, a, b, c⟩
                by_cases e : j = i
                · subst e
                  rw [his] at b
                  injection b with b
                  subst b
                  exact absurd c.symm q
                · exact ⟨j, t, by omega, b, c⟩
          · by_cases e : j = i
            · subst e
              rw [his] at hpj
              injection hpj with hpj
              subst hpj
              exact ⟨h1, h2, h3⟩
            · exact hI.step j t (by omega) hpj
          · by_cases e : j + 1 = i
            · rw [e, his] at ht
              injection ht with ht
              subst ht
              exact hj j q e hq
            · exact hI.join j q t (by omega) hq ht
          · by_cases e : k = i
            · subst e
              rw [his] at hb2
              injection hb2 with hb2
              subst hb2
              intro hab
              have := (hI.seen s.Section).2 ⟨j, a, hjk, ha, hab⟩
              rw [show (mfind ieq s.Section m).getD false = false from hs] at this
              cases this
            · exact hI.once j k a b hjk (by omega) ha hb2
      · rw [hu] at h5; cases h5
    · rcases hc2 with ⟨h5, _⟩ | ⟨h5, h6⟩
      · rw [hx] at h5; cases h5
      · rw [hx] at h5
        injection h5 with h5
        subst h5
        exact tot_some ⟨by decide, h6⟩
  · exact ⟨hlen, fun i s h => hI.step i s (List.getElem?_eq_some_iff.1 h).1 h, fun i q s hq hs => hI.join i q s (List.getElem?_eq_some_iff.1 hs).1 hq hs, fun i j s t hij hs ht => hI.once i j s t hij (List.getElem?_eq_some_iff.1 ht).1 hs ht⟩
end Lt
set_option linter.unusedVariables false
set_option linter.unusedSimpArgs false
set_option maxRecDepth 100000
namespace Lt
open Go Hk Hd Pl
def flip (s : S_api_Step) : S_api_Step := ⟨s.Section, s.Out, s.In⟩
def rev (p : List S_api_Step) : List S_api_Step := (p.map flip).reverse
theorem rev_len (p : List S_api_Step) : (rev p).length = p.length := by simp [rev]
theorem rev_rev (p : List S_api_Step) : rev (rev p) = p := by
  have : flip ∘ flip = id := rfl
  simp [rev, this]
theorem rev_get (p : List S_api_Step) (i : Nat) (h : i < p.length) : (rev p)[i]? = (p[p.length - 1 - i]?).map flip := by
  unfold rev
  rw [List.getElem?_reverse (by simpa using h), List.length_map, List.getElem?_map]
theorem rev_get' {p : List S_api_Step} {i : Nat} {s : S_api_Step} (h : (rev p)[i]? = some s) : i < p.length ∧ p[p.length - 1 - i]? = some (flip s) := by
  have hi : i < p.length := by rw [← rev_len p]; exact (List.getElem?_eq_some_iff.1 h).1
  rw [rev_get p i hi] at h
  obtain ⟨t, h1, h2⟩ := Option.map_eq_some_iff.1 h
  subst h2
  exact ⟨hi, h1⟩
theorem back_eq (p : List S_api_Step) (hp : p.length ≤ 60) : ∀ (k : Nat), k ≤ p.length → ∀ (n : Nat), k < n → ∃ l : List (Int × S_api_Step), collectY (it0_slices_Backward_api_Step_api_Step_1_b1 (some p)) n ((k : Int) - 1) = some l ∧ l.map (fun x => flip x.2) = rev (p.take k) ∧ l.length = k
  | 0, _, n + 1, _ => by
    refine ⟨[], ?_, rfl, rfl⟩
    show (it0_slices_Backward_api_Step_api_Step_1_b1 (some p) _).bind _ = _
    unfold it0_slices_Backward_api_Step_api_Step_1_b1
    rfl
  | k + 1, hk, n + 1, hn => by
    obtain ⟨l, h1, h2, h3⟩ := back_eq p hp k (by omega) n (by omega)
    have hx : idx p (((k + 1 : Nat) : Int) - 1) = some p[k] := by rw [show ((k + 1 : Nat) : Int) - 1 = (k : Int) by omega]; exact idx_get (by omega)
    refine ⟨(((k + 1 : Nat) : Int) - 1, p[k]) :: l, ?_, ?_, by simp [h3]⟩
    · show (it0_slices_Backward_api_Step_api_Step_1_b1 (some p) _).bind _ = _
      unfold it0_slices_Backward_api_Step_api_Step_1_b1
      have : decide (((k + 1 : Nat) : Int) - 1 ≥ 0) = true := decide_eq_true (by omega)
      rw [this]
      show ((idx p _).bind _ : Option _).bind _ = _
      rw [hx]
      show (collectY (it0_slices_Backward_api_Step_api_Step_1_b1 (some p)) n (w64 ((((k + 1 : Nat) : Int) - 1) - 1))).map (fun l => (((k + 1 : Nat) : Int) - 1, p[k]) :: l) = _
      rw [w64_id (by omega) (by omega), show (((k + 1 : Nat) : Int) - 1) - 1 = (k : Int) - 1 by omega, h1]
      rfl
    · rw [List.map_cons, h2]
      have : p.take (k + 1) = p.take k ++ [p[k]] := by rw [List.take_add_one, List.getElem?_eq_getElem (show k < p.length by omega)]; rfl
      rw [this]
      unfold rev
      rw [List.map_append, List.reverse_append]
      rfl
theorem reverse_eq {p : List S_api_Step} (hp : p.length ≤ 60) : line_Reverse p = some (rev p) := by
  refine tot_eq ?_
  unfold line_Reverse slices_Backward_api_Step_api_Step
  refine tot_bind' rfl ?_
  obtain ⟨l, h1, h2, h3⟩ := back_eq p hp p.length (Nat.le_refl _) bigN (by unfold bigN; omega)
  rw [List.take_length] at h2
  have hb : it0_slices_Backward_api_Step_api_Step_1 (some p) = some l := by
    show collectY _ bigN (w64 ((p.length : Int) - 1)) = _
    rw [w64_id (by omega) (by omega)]
    exact h1
  refine tot_bind' hb ?_
  refine tot_loop (I := fun i s => s = (l.take i).map (fun x => flip x.2)) (J := fun s => s = rev p) (E := fun _ => False) (by simp) (fun i x s hx hI => ?_) (fun s hI => ?_) (fun s hJ => tot_some hJ) (fun x => x.elim)
  · unfold line_Reverse_b1
    have hi : i < l.length := (List.getElem?_eq_some_iff.1 hx).1
    have hsl : s.length ≤ 60 := by rw [hI]; simp; omega
    refine tot_bind' (gapp_eq (by simp [apRoom]; omega) (by simp [maxLen]; omega)) (tot_some ?_)
    show s ++ _ = _
    rw [hI, List.take_add_one, hx]
    simp [flip]
  · rw [hI, List.take_length, h2]
theorem rev_path {n : S_api_Net} (hn : NetOk n) {p : List S_api_Step} (h : PathOk n p) : PathOk n (rev p) := by
  refine ⟨by rw [rev_len]; exact h.len, fun i s hs => ?_, fun i q s hq hs => ?_, fun i j s t hij hs ht => ?_⟩
  · obtain ⟨hi, hs⟩ := rev_get' hs
    obtain ⟨h1, h2, h3⟩ := h.step _ _ hs
    exact ⟨h2, h1, outs_back h1.2.2.1 h1.2.2.2 h2.2.2.1 h2.2.2.2 h3⟩
  · obtain ⟨hi, hq⟩ := rev_get' hq
    obtain ⟨hj, hs⟩ := rev_get' hs
    have h1 := h.join (p.length - 1 - (i + 1)) _ _ hs (by rw [show p.length - 1 - (i + 1) + 1 = p.length - 1 - i by omega]; exact hq)
    obtain ⟨y, hy, hy2⟩ := joined_tot n ⟨q.Section, q.Out⟩
    obtain ⟨z, hz, hz2⟩ := joined_tot n ⟨s.Section, s.In⟩
    have h1 : line_joined n ⟨s.Section, s.In⟩ = some (true, ⟨q.Section, q.Out⟩) := h1
    rw [hz] at h1
    injection h1 with h1
    subst h1
    have := joined_back hn.links hz2 hy2
    rw [hy, this]
  · obtain ⟨hi, hs⟩ := rev_get' hs
    obtain ⟨hj, ht⟩ := rev_get' ht
    exact (h.once _ _ _ _ (by omega) ht hs).symm
def lenOf (n : S_api_Net) (s : S_api_Step) : Int := (sec n s.Section).Length
theorem sum_range {n : S_api_Net} (hn : NetOk n) : ∀ (l : List S_api_Step), (∀ s ∈ l, Has n ⟨s.Section, s.In⟩) → 0 ≤ (l.map (lenOf n)).sum ∧ (l.map (lenOf n)).sum ≤ 3000 * l.length
  | [], _ => by simp
  | s :: l, h => by
    have ih := sum_range hn l fun t ht => h t (by simp [ht])
    have hs := h s (by simp)
    have := (hn.secs _ (nth_mem zS hs.1 hs.2.1)).len
    have : 10 ≤ lenOf n s ∧ lenOf n s ≤ 3000 := this
    simp only [List.map_cons, List.sum_cons, List.length_cons]
    omega
theorem length_eq {n : S_api_Net} (hn : NetOk n) (hc : line_Check n = some 0) {p : List S_api_Step} (h : PathOk n p) : line_Length n p = some ((p.map (lenOf n)).sum, 0) := by
  obtain ⟨e, he, hq⟩ := path_tot hn hc p
  have := hq.2 h
  subst this
  refine tot_eq ?_
  unfold line_Length
  refine tot_bind' he ?_
  show Tot ((forX (line_Length_b1 n) p 0).bind _) _
  refine tot_loopX (I := fun i s => s = ((p.take i).map (lenOf n)).sum) (J := fun s => s = (p.map (lenOf n)).sum) (E := fun _ => False) (by simp) (fun i x s hx hI => ?_) (fun s hI => by rw [hI, List.take_length]) (fun s hJ => tot_some (by rw [hJ])) (fun x => x.elim)
  unfold line_Length_b1
  obtain ⟨h1, _, _⟩ := h.step i x hx
  refine tot_bind' (idx_nth zS h1.1 h1.2.1) (tot_some ?_)
  show w64 (s + lenOf n x) = _
  have hs := sum_range hn (p.take (i + 1)) fun t ht => by
    obtain ⟨j, hj⟩ := List.mem_iff_getElem?.1 (List.mem_of_mem_take ht)
    exact (h.step j t hj).1
  have he : ((p.take (i + 1)).map (lenOf n)).sum = s + lenOf n x := by
    rw [hI, List.take_add_one, hx]
    simp
  have hl := h.len
  have : (p.take (i + 1)).length ≤ 60 := by rw [List.length_take]; omega
  rw [← he, w64_id (by omega) (by omega)]
theorem length_rev {n : S_api_Net} (p : List S_api_Step) : ((rev p).map (lenOf n)).sum = (p.map (lenOf n)).sum := by
  unfold rev
  rw [List.map_reverse, List.sum_reverse, List.map_map]
  rfl
def pc (n : S_api_Net) (s : S_api_Step) : S_api_Piece :=
  ⟨w64 (100 * (sec n s.Section).Length), if s.In ≠ 0 then w64 (0 - (sec n s.Section).Grade) else (sec n s.Section).Grade, if (sec n s.Section).Kind = 2 ∧ (s.In = 2 ∨ s.Out = 2) then (sec n s.Section).Slow else (sec n s.Section).Speed⟩
theorem profile_eq {n : S_api_Net} (hn : NetOk n) (hc : line_Check n = some 0) {p : List S_api_Step} (h : PathOk n p) : line_Profile n p = some (0, p.map (pc n)) := by
  obtain ⟨e, he, hq⟩ := path_tot hn hc p
  have := hq.2 h
  subst this
  refine tot_eq ?_
  unfold line_Profile
  refine tot_bind' he ?_
  show Tot ((forX (line_Profile_b1 n) p []).bind _) _
  refine tot_loopX (I := fun i s => s = (p.take i).map (pc n)) (J := fun s => s = p.map (pc n)) (E := fun _ => False) (by simp) (fun i x s hx hI => ?_) (fun s hI => by rw [hI, List.take_length]) (fun s hJ => tot_some (by rw [hJ])) (fun x => x.elim)
  unfold line_Profile_b1
  obtain ⟨h1, _, _⟩ := h.step i x hx
  have hi : i < p.length := (List.getElem?_eq_some_iff.1 hx).1
  have hl := h.len
  have hsl : s.length ≤ 60 := by rw [hI]; simp; omega
  refine tot_bind' (idx_nth zS h1.1 h1.2.1) ?_
  refine tot_bind (P := fun g => g = (pc n x).Grade) ?_ fun g _ hg => tot_bind (P := fun v => v = (pc n x).Speed) ?_ fun v _ hv => ?_
  · refine tot_ifb (fun q => tot_some ?_) fun q => tot_some ?_
    · have q : x.In ≠ 0 := by simpa using q
      show _ = if x.In ≠ 0 then _ else _
      rw [if_pos q]; rfl
    · have q : x.In = 0 := by simpa using q
      show _ = if x.In ≠ 0 then _ else _
      rw [if_neg (by simp [q])]; rfl
  · refine tot_bind (P := fun b => b = true ↔ ((sec n x.Section).Kind = 2 ∧ (x.In = 2 ∨ x.Out = 2))) ?_ fun b _ hb => tot_ifb (fun q => tot_some ?_) fun q => tot_some ?_
    · refine tot_ifb (fun q => ?_) fun q => tot_some ⟨fun h => (by cases h), fun ⟨h, _⟩ => ?_⟩
      · have q : (sec n x.Section).Kind = 2 := by simpa [sec] using q
        refine tot_ifb (fun r => tot_some ⟨fun _ => ⟨q, .inl (by simpa using r)⟩, fun _ => rfl⟩) fun r => tot_some ?_
        have r : x.In ≠ 2 := by simpa using r
        rw [beq_iff_eq]
        exact ⟨fun h => ⟨q, .inr h⟩, fun ⟨_, h⟩ => h.resolve_left r⟩
      · have : ((sec n x.Section).Kind == 2) = true := by simpa using h
        rw [show ((sec n x.Section).Kind == 2) = false from q] at this; cases this
    · show _ = if _ then _ else _
      rw [if_pos (hb.1 q)]; rfl
    · show _ = if _ then _ else _
      rw [if_neg (fun h => by rw [hb.2 h] at q; cases q)]; rfl
  · refine tot_bind' (gapp_eq (by simp [apRoom]; omega) (by simp [maxLen]; omega)) (tot_some ?_)
    show s ++ _ = _
    rw [hI, List.take_add_one, hx, hg, hv]
    simp
    rfl
theorem piece_back {n : S_api_Net} (hn : NetOk n) {s : S_api_Step} (h1 : Has n ⟨s.Section, s.In⟩) (h2 : Has n ⟨s.Section, s.Out⟩) (h3 : s.Out ∈ outsL (sec n s.Section).Kind s.In) :
    (pc n s).Length = (pc n (flip s)).Length ∧ (pc n s).Grade = w64 (0 - (pc n (flip s)).Grade) ∧ (pc n s).Speed = (pc n (flip s)).Speed := by
  have ok := hn.secs _ (nth_mem zS h1.1 h1.2.1)
  have ok : SecOk (sec n s.Section) := ok
  refine ⟨rfl, ?_, ?_⟩
  · show (if s.In ≠ 0 then w64 (0 - (sec n s.Section).Grade) else (sec n s.Section).Grade) = w64 (0 - (if s.Out ≠ 0 then w64 (0 - (sec n s.Section).Grade) else (sec n s.Section).Grade))
    have hg := ok.grade
    rw [w64_id (by omega) (by omega)]
    have key : (s.In ≠ 0 ∧ s.Out = 0) ∨ (s.In = 0 ∧ s.Out ≠ 0) ∨ (sec n s.Section).Grade = 0 := by
      have a0 : 0 ≤ s.In := h1.2.2.1
      have a1 : s.In < endsI (sec n s.Section).Kind := h1.2.2.2
      unfold outsL at h3
      rcases ok.kind with k | k | k
      · rw [k] at h3 a1
        have a1 : s.In < 2 := a1
        rw [if_neg (by decide), List.mem_singleton, xor1 s.In a0 (by omega)] at h3
        have : s.In = 0 ∨ s.In = 1 := by omega
        rcases this with q | q <;> rw [q] at h3 <;> simp at h3 <;> omega
      · rw [k, if_pos rfl] at h3
        by_cases q : s.In = 0
        · rw [if_pos q] at h3
          simp at h3
          omega
        · rw [if_neg q] at h3
          simp at h3
          omega
      · exact .inr (.inr (ok.cross k))
    rcases key with ⟨a, b⟩ | ⟨a, b⟩ | a
    · rw [if_pos a, if_neg (by simp [b]), w64_id (by omega) (by omega)]
    · rw [if_neg (by simp [a]), if_pos b, w64_id (by omega) (by omega)]; omega
    · rw [a]; simp [w64_id]
  · show (if (sec n s.Section).Kind = 2 ∧ (s.In = 2 ∨ s.Out = 2) then _ else _) = (if (sec n s.Section).Kind = 2 ∧ (s.Out = 2 ∨ s.In = 2) then _ else _)
    by_cases q : (sec n s.Section).Kind = 2 ∧ (s.In = 2 ∨ s.Out = 2)
    · rw [if_pos q, if_pos ⟨q.1, q.2.symm⟩]; rfl
    · rw [if_neg q, if_neg fun r => q ⟨r.1, r.2.symm⟩]; rfl
theorem equal_self (p : List S_api_Step) : slices_Equal_api_Step_api_Step p p = some true := by
  refine tot_eq ?_
  unfold slices_Equal_api_Step_api_Step
  refine tot_ifb (fun h => by simp at h) fun _ => ?_
  refine tot_allX (P := fun _ _ => True) (E := fun _ => False) (fun i x hx => ?_) (fun _ => tot_some rfl) (fun y h => h.elim)
  unfold slices_Equal_api_Step_api_Step_b1
  refine tot_bind' (idx_nat hx) ?_
  refine tot_ifb (fun h => by simp [ieq] at h) fun _ => tot_some trivial
theorem awake : fishkeep1_awakeLine = some () := by kernel_rfl
theorem law (n : S_api_Net) (p : List S_api_Step) (hi : NetIn n) : fishkeep1_LineTurns n p = some true := by
  refine tot_eq ?_
  unfold fishkeep1_LineTurns
  refine tot_bind' awake ?_
  obtain ⟨e, he, hq⟩ := check_tot hi
  by_cases h0 : e = 0
  · subst h0
    have hn := hq rfl
    obtain ⟨e2, he2, hq2⟩ := path_tot hn he p
    refine tot_bind' he2 (tot_ifb (fun _ => tot_some rfl) fun hz => ?_)
    have h := hq2.1 (by simpa using hz)
    have hr := rev_path hn h
    have hlr : (rev p).length = p.length := rev_len p
    obtain ⟨e3, he3, hq3⟩ := path_tot hn he (rev p)
    have := hq3.2 hr
    subst this
    refine tot_bind' (reverse_eq h.len) ?_
    refine tot_bind' (length_eq hn he h) ?_
    refine tot_bind' (length_eq hn he hr) ?_
    refine tot_bind' (profile_eq hn he h) ?_
    refine tot_bind' (profile_eq hn he hr) ?_
    refine tot_bind' (x := false) ?_ ?_
    · refine (congrArg (fun o => Option.bind o _) he3).trans ?_
      have e1 : ((p.map (lenOf n)).sum != ((rev p).map (lenOf n)).sum) = false := by rw [length_rev]; simp
      have e4 : ((((p.map (pc n)).length : Nat) : Int) != (p.length : Int)) = false := by simp
      have e5 : (((((rev p).map (pc n)).length : Nat) : Int) != (p.length : Int)) = false := by simp [hlr]
      show (ifb ((p.map (lenOf n)).sum != ((rev p).map (lenOf n)).sum) (some true) (ifb ((((p.map (pc n)).length : Nat) : Int) != (p.length : Int)) (some true) (some (((((rev p).map (pc n)).length : Nat) : Int) != (p.length : Int))))) = some false
      rw [e1, e4, e5]
      rfl
    · show Tot ((forX (fishkeep1_LineTurns_b1 (0, (rev p).map (pc n))) (p.map (pc n)) ()).bind _) _
      refine tot_allX (P := fun _ _ => True) (E := fun _ => False) (fun i x hx => ?_) (fun _ => ?_) (fun y hy => hy.elim)
      · unfold fishkeep1_LineTurns_b1
        rw [List.getElem?_map] at hx
        obtain ⟨s, hs, rfl⟩ := Option.map_eq_some_iff.1 hx
        have hip : i < p.length := (List.getElem?_eq_some_iff.1 hs).1
        have hl := h.len
        have hy : ((rev p).map (pc n))[p.length - 1 - i]? = some (pc n (flip s)) := by
          rw [List.getElem?_map, rev_get p _ (by omega), show p.length - 1 - (p.length - 1 - i) = i by omega, hs]
          rfl
        have hix : idx ((rev p).map (pc n)) (w64 (w64 (((((rev p).map (pc n)).length : Nat) : Int) - 1) - (i : Int))) = some (pc n (flip s)) := by
          rw [List.length_map, hlr, w64_id (x := (p.length : Int) - 1) (by omega) (by omega), w64_id (by omega) (by omega), show (p.length : Int) - 1 - (i : Int) = ((p.length - 1 - i : Nat) : Int) by omega]
          exact idx_nat hy
        refine tot_bind' hix ?_
        obtain ⟨h1, h2, h3⟩ := h.step i s hs
        obtain ⟨b1, b2, b3⟩ := piece_back hn h1 h2 h3
        have c1 : ((pc n s).Length != (pc n (flip s)).Length) = false := by rw [b1]; simp
        have c2 : ((pc n s).Grade != w64 (0 - (pc n (flip s)).Grade)) = false := by rw [← b2]; simp
        have c3 : ((pc n s).Speed != (pc n (flip s)).Speed) = false := by rw [b3]; simp
        rw [c1, c2, c3]
        exact tot_some trivial
      · refine tot_bind' (reverse_eq (by rw [hlr]; exact h.len)) ?_
        rw [rev_rev]
        exact tot_bind' (equal_self p) (tot_some rfl)
  · have : line_CheckPath n p = some e := by
      unfold line_CheckPath
      rw [he]
      show ifb (e != 0) _ _ = _
      have : (e != 0) = true := by simpa using h0
      rw [this]
      rfl
    refine tot_bind' this (tot_ifb (fun _ => tot_some rfl) fun hz => absurd (by simpa using hz) h0)
end Lt
