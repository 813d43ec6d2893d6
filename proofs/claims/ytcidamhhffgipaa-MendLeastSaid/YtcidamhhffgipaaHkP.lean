/- The plain side: what it takes to show that a pure function gives an answer, and which. -/
import Derived.Test.YtcidamhhffgipaaHkO
set_option linter.unusedVariables false
set_option linter.unusedSimpArgs false
namespace Hk
open Go

/-- it has an answer, and of that Q holds -/
def Tot {α : Type} (o : Option α) (Q : α → Prop) : Prop := ∃ x, o = some x ∧ Q x
theorem tot_some {α : Type} {x : α} {Q : α → Prop} (h : Q x) : Tot (some x) Q := ⟨x, rfl, h⟩
theorem tot_mono {α : Type} {o : Option α} {P Q : α → Prop} (h : Tot o P) (hq : ∀ x, P x → Q x) : Tot o Q := let ⟨x, h1, h2⟩ := h; ⟨x, h1, hq x h2⟩
theorem tot_bind {α β : Type} {o : Option α} {k : α → Option β} {P : α → Prop} {Q : β → Prop} (h : Tot o P) (hk : ∀ x, o = some x → P x → Tot (k x) Q) : Tot (o.bind k) Q := by
  obtain ⟨x, h1, h2⟩ := h
  obtain ⟨y, h3, h4⟩ := hk x h1 h2
  exact ⟨y, by rw [h1]; exact h3, h4⟩
theorem tot_of {α : Type} {o : Option α} {x : α} {Q : α → Prop} (h : o = some x) (hq : Q x) : Tot o Q := ⟨x, h, hq⟩
/-- behind something whose answer is known -/
theorem tot_bind' {α β : Type} {o : Option α} {k : α → Option β} {x : α} {Q : β → Prop} (h : o = some x) (hk : Tot (k x) Q) : Tot (o.bind k) Q := by
  rw [h]; exact hk
theorem tot_ifb {α : Type} {b : Bool} {x y : Option α} {Q : α → Prop} (ht : b = true → Tot x Q) (hf : b = false → Tot y Q) : Tot (ifb b x y) Q := by
  cases b
  · exact hf rfl
  · exact ht rfl
theorem ifb_true {α : Type} (x y : Option α) : ifb true x y = x := rfl
theorem ifb_false {α : Type} (x y : Option α) : ifb false x y = y := rfl
theorem ifb_dec {α : Type} {p : Prop} [Decidable p] (x y : Option α) : ifb (decide p) x y = if p then x else y := by
  by_cases h : p <;> simp [h, ifb]
theorem ifb_some {b x y : Bool} : ifb b (some x) (some y) = some (if b = true then x else y) := by cases b <;> rfl
theorem ifb_or {b : Bool} {y : Bool} : ifb b (some true) (some y) = some (b || y) := by cases b <;> rfl
theorem ifb_and {b : Bool} {y : Bool} : ifb b (some y) (some false) = some (b && y) := by cases b <;> rfl
theorem tot_some_iff {α : Type} {x : α} {Q : α → Prop} : Tot (some x) Q ↔ Q x := ⟨fun ⟨y, h1, h2⟩ => by injection h1 with h1; subst h1; exact h2, tot_some⟩
theorem tot_none_iff {α : Type} {Q : α → Prop} : Tot (none : Option α) Q ↔ False := ⟨fun ⟨y, h1, _⟩ => (by cases h1), False.elim⟩
theorem tot_bind_iff {α β : Type} {o : Option α} {k : α → Option β} {Q : β → Prop} : Tot (o.bind k) Q ↔ Tot o (fun x => Tot (k x) Q) := by
  constructor
  · rintro ⟨y, h1, h2⟩
    obtain ⟨x, h3, h4⟩ := Option.bind_eq_some_iff.1 h1
    exact ⟨x, h3, y, h4, h2⟩
  · rintro ⟨x, h1, y, h2, h3⟩
    exact ⟨y, by rw [h1]; exact h2, h3⟩
theorem tot_ifb_iff {α : Type} {b : Bool} {x y : Option α} {Q : α → Prop} : Tot (ifb b x y) Q ↔ (b = true → Tot x Q) ∧ (b = false → Tot y Q) := by
  cases b <;> simp [ifb]
theorem tot_idx_iff {α : Type} {xs : List α} {i : Nat} {Q : α → Prop} : Tot (idx xs (i : Int)) Q ↔ ∃ h : i < xs.length, Q xs[i] := by
  unfold idx
  rw [if_pos (by omega), Int.toNat_natCast]
  constructor
  · rintro ⟨x, h1, h2⟩
    obtain ⟨h, rfl⟩ := List.getElem?_eq_some_iff.1 h1
    exact ⟨h, h2⟩
  · rintro ⟨h, h2⟩
    exact ⟨_, List.getElem?_eq_getElem h, h2⟩
theorem tot_eq {α : Type} {o : Option α} {x : α} (h : Tot o (· = x)) : o = some x := by obtain ⟨y, h1, rfl⟩ := h; exact h1
theorem eq_tot {α : Type} {o : Option α} {x : α} {Q : α → Prop} (h : o = some x) (hq : Q x) : Tot o Q := ⟨x, h, hq⟩
/-- the element of a list by a number -/
def nth {α : Type} (z : α) (xs : List α) (i : Int) : α := (xs[i.toNat]?).getD z
theorem idx_nth {α : Type} (z : α) {xs : List α} {i : Int} (h0 : 0 ≤ i) (h1 : i < xs.length) : idx xs i = some (nth z xs i) := by
  unfold idx nth
  rw [if_pos h0, List.getElem?_eq_getElem (by omega)]; rfl
theorem tot_idx {α : Type} (z : α) {xs : List α} {i : Int} {Q : α → Prop} (h0 : 0 ≤ i) (h1 : i < xs.length) (hq : Q (nth z xs i)) : Tot (idx xs i) Q := ⟨_, idx_nth z h0 h1, hq⟩
theorem nth_mem {α : Type} (z : α) {xs : List α} {i : Int} (h0 : 0 ≤ i) (h1 : i < xs.length) : nth z xs i ∈ xs := by
  unfold nth
  rw [List.getElem?_eq_getElem (by omega)]
  exact List.getElem_mem _
theorem nth_nat {α : Type} (z : α) {xs : List α} {i : Nat} {x : α} (h : xs[i]? = some x) : nth z xs (i : Int) = x := by simp [nth, h]
theorem nth_get {α : Type} (z : α) {xs : List α} {i : Nat} (h : i < xs.length) : nth z xs (i : Int) = xs[i] := by simp [nth, h]
theorem setI_length {α : Type} (xs : List α) (i : Int) (v : α) : (setI xs i v).length = xs.length := by simp [setI]
theorem nth_setI {α : Type} (z : α) {xs : List α} {i j : Int} {v : α} (hi : 0 ≤ i) (hj : 0 ≤ j) (hl : j < xs.length) : nth z (setI xs i v) j = if j = i then v else nth z xs j := by
  unfold nth setI
  by_cases h : j = i
  · subst h
    rw [if_pos rfl, List.getElem?_set_self (by omega)]; rfl
  · rw [if_neg h, List.getElem?_set_ne (by omega)]
theorem nth_setI_self {α : Type} (z : α) {xs : List α} {i : Int} {v : α} (hi : 0 ≤ i) (hl : i < xs.length) : nth z (setI xs i v) i = v := by rw [nth_setI z hi hi hl, if_pos rfl]
theorem nth_setI_ne {α : Type} (z : α) {xs : List α} {i j : Int} {v : α} (hi : 0 ≤ i) (hj : 0 ≤ j) (h : j ≠ i) : nth z (setI xs i v) j = nth z xs j := by
  unfold nth setI
  rw [List.getElem?_set_ne (by omega)]
theorem mem_setI {α : Type} {xs : List α} {i : Int} {v x : α} (h : x ∈ setI xs i v) : x = v ∨ x ∈ xs := by
  unfold setI at h
  rcases List.mem_or_eq_of_mem_set h with h | h
  · exact .inr h
  · exact .inl h
theorem gapp_eq {α : Type} {bytes : Nat} {xs ys : List α} (h1 : (xs.length + ys.length) * bytes ≤ apRoom) (h2 : xs.length + ys.length ≤ maxLen) : gapp bytes xs ys = some (xs ++ ys) := by
  unfold gapp; rw [if_pos ⟨h1, h2⟩]
theorem gmake_eq {α : Type} {bytes : Nat} {n : Int} {z : α} (h0 : 0 ≤ n) (h1 : bytes * n.toNat ≤ mkRoom) (h2 : n.toNat ≤ maxLen) : gmake bytes n z = some (List.replicate n.toNat z) := by
  unfold gmake; rw [if_pos ⟨h0, h1, h2⟩]
theorem gcut_eq {α : Type} {xs : List α} {l k : Int} (h0 : 0 ≤ l) (h1 : l ≤ k) (h2 : k ≤ xs.length) : gcut xs l k = some ((xs.take k.toNat).drop l.toNat) := by
  unfold gcut; rw [if_pos ⟨h0, h1, h2⟩]
theorem gcut_tail {α : Type} {x : α} {xs : List α} : gcut (x :: xs) 1 ((x :: xs).length : Int) = some xs := by
  rw [gcut_eq (by omega) (by simp; omega) (by omega)]
  simp
theorem glim_eq {n : Int} (h : n ≤ 9223372036854775807) : glim n = some () := by unfold glim; rw [if_pos h]
theorem nth_replicate {α : Type} {z v : α} {n : Nat} {i : Int} (h0 : 0 ≤ i) (h1 : i < n) : nth z (List.replicate n v) i = v := by
  unfold nth
  rw [List.getElem?_replicate, if_pos (by omega)]; rfl
/-! ### loops -/
theorem tot_forO {α σ X : Type} {body : Nat → α → σ → Option (Ctl σ X)} {E : Ctl σ X → Prop} {I : Nat → σ → Prop} (xs : List α)
    (hstep : ∀ i x s, xs[i]? = some x → I i s → Tot (body i x s) (fun c => match c with | .go s' => I (i + 1) s' | .out y => E (.out y))) (hend : ∀ s, I xs.length s → E (.go s)) :
    ∀ (k : Nat) (s : σ), k ≤ xs.length → I k s → Tot (forO body k (xs.drop k) s) E := by
  intro k
  induction hm : xs.length - k generalizing k with
  | zero =>
    intro s hk hI
    have : k = xs.length := by omega
    subst this
    rw [List.drop_length]
    exact tot_some (hend s hI)
  | succ m ih =>
    intro s hk hI
    have hlt : k < xs.length := by omega
    rw [List.drop_eq_getElem_cons hlt]
    simp only [forO]
    refine tot_bind (hstep k _ s (List.getElem?_eq_getElem hlt) hI) fun c _ hc => ?_
    cases c with
    | go s' => exact ih (k + 1) (by omega) s' (by omega) hc
    | out y => exact tot_some hc
theorem tot_forC {α σ X : Type} {body : Nat → α → σ → Option (Ctl σ (Ctl σ X))} {E : Ctl σ X → Prop} {xs : List α} {s : σ} (I : Nat → σ → Prop) (h0 : I 0 s)
    (hstep : ∀ i x s, xs[i]? = some x → I i s → Tot (body i x s) (fun c => match c with | .go s' => I (i + 1) s' | .out y => E y)) (hend : ∀ s, I xs.length s → E (.go s)) : Tot (forC body xs s) E := by
  unfold forC
  have := tot_forO (body := body) (E := fun c => E c.flat) (I := I) xs (fun i x s hx hI => tot_mono (hstep i x s hx hI) fun c hc => by cases c <;> exact hc) hend 0 s (by omega) h0
  obtain ⟨c, h1, h2⟩ := this
  exact ⟨c.flat, by rw [List.drop_zero] at h1; rw [h1]; rfl, h2⟩
theorem tot_iter {σ X : Type} {body : σ → Option (Ctl σ X)} {E : X → Prop} {s : σ} (I : σ → Prop) (μ : σ → Nat) (h0 : I s) (hμ : μ s < bigN)
    (hstep : ∀ s, I s → Tot (body s) (fun c => match c with | .go s' => I s' ∧ μ s' < μ s | .out y => E y)) : Tot (iter body s) E := by
  have key : ∀ (n : Nat) (s : σ), I s → μ s < n → Tot (iterN body n s) E := by
    intro n
    induction n with
    | zero => intro s _ h; omega
    | succ n ih =>
      intro s hI hn
      simp only [iterN]
      refine tot_bind (hstep s hI) fun c _ hc => ?_
      cases c with
      | go s' => exact ih s' hc.1 (by have := hc.2; omega)
      | out y => exact tot_some hc
  exact key bigN s h0 hμ
/-- behind a loop that is left only at its end -/
theorem tot_on {σ X β : Type} {c : Ctl σ X} {F : σ → Option β} {H : X → Option β} {Q : β → Prop} (hg : ∀ s, c = .go s → Tot (F s) Q) (ho : ∀ x, c = .out x → Tot (H x) Q) : Tot (Ctl.on c F H) Q := by
  cases c with
  | go s => exact hg s rfl
  | out x => exact ho x rfl
/-- loop, and what follows -/
theorem tot_loop {α σ X β : Type} {body : Nat → α → σ → Option (Ctl σ (Ctl σ X))} {xs : List α} {s : σ} {F : σ → Option β} {H : X → Option β} {Q : β → Prop} (I : Nat → σ → Prop) (J : σ → Prop) (E : X → Prop) (h0 : I 0 s)
    (hstep : ∀ i x s, xs[i]? = some x → I i s → Tot (body i x s) (fun c => match c with | .go s' => I (i + 1) s' | .out (.go s') => J s' | .out (.out y) => E y)) (hend : ∀ s, I xs.length s → J s)
    (hF : ∀ s, J s → Tot (F s) Q) (hH : ∀ x, E x → Tot (H x) Q) : Tot ((forC body xs s).bind fun c => Ctl.on c F H) Q := by
  refine tot_bind (P := fun c => match c with | .go s => J s | .out y => E y) (tot_forC I h0 (fun i x s hx hI => tot_mono (hstep i x s hx hI) fun c hc => ?_) hend) fun c _ hc => ?_
  · rcases c with s' | (s' | y) <;> exact hc
  · cases c with
    | go s => exact hF s hc
    | out y => exact hH y hc
/-- a loop over a list that goes on, or leaves with an answer -/
theorem tot_all' {α β X : Type} {body : Nat → α → Unit → Option (Ctl Unit (Ctl Unit X))} {xs : List α} {F : Unit → Option β} {H : X → Option β} {Q : β → Prop} (P : Nat → α → Prop) (E : X → Prop)
    (hstep : ∀ i x, xs[i]? = some x → Tot (body i x ()) (fun c => match c with | .go _ => P i x | .out (.go _) => False | .out (.out y) => E y))
    (hF : (∀ (i : Nat) x, xs[i]? = some x → P i x) → Tot (F ()) Q) (hH : ∀ y, E y → Tot (H y) Q) : Tot ((forC body xs ()).bind fun c => Ctl.on c F H) Q := by
  refine tot_loop (I := fun k _ => ∀ i x, i < k → xs[i]? = some x → P i x) (J := fun _ => ∀ (i : Nat) x, xs[i]? = some x → P i x) (E := E) (fun i x h => by omega) (fun i x s hx hI => tot_mono (hstep i x hx) fun c hc => ?_) (fun s hI i x hx => hI i x (List.getElem?_eq_some_iff.1 hx).1 hx) (fun s hJ => hF hJ) hH
  rcases c with _ | (_ | y)
  · intro j y hj hy
    by_cases h : j = i
    · subst h; rw [hx] at hy; injection hy with hy; subst hy; exact hc
    · exact hI j y (by omega) hy
  · exact hc.elim
  · exact hc
theorem w64_id {x : Int} (h0 : -9223372036854775808 ≤ x) (h1 : x ≤ 9223372036854775807) : w64 x = x := w64_eq h0 h1
theorem w64_range (x : Int) : -9223372036854775808 ≤ w64 x ∧ w64 x ≤ 9223372036854775807 := by
  unfold w64; rw [IntKind.wrap_i64]; omega
theorem gmin_eq (x y : Int) : gmin x y = min x y := by unfold gmin; omega
end Hk
