/- MendLeast, the plain side: one try of the solver. -/
import Derived.Test.YtcidamhhffgipaaMendA
set_option linter.unusedVariables false
set_option linter.unusedSimpArgs false
namespace Hk
open Go

abbrev nI (xs : List Int) (i : Int) : Int := nth 0 xs i
abbrev nB (xs : List Bool) (i : Int) : Bool := nth false xs i
abbrev nO (xs : List (List S_mend_Arc)) (i : Int) : List S_mend_Arc := nth [] xs i
theorem idx_nI {xs : List Int} {i : Int} (h0 : 0 ≤ i) (h1 : i < xs.length) : idx xs i = some (nI xs i) := idx_nth 0 h0 h1
theorem idx_nB {xs : List Bool} {i : Int} (h0 : 0 ≤ i) (h1 : i < xs.length) : idx xs i = some (nB xs i) := idx_nth false h0 h1
theorem idx_nO {xs : List (List S_mend_Arc)} {i : Int} (h0 : 0 ≤ i) (h1 : i < xs.length) : idx xs i = some (nO xs i) := idx_nth [] h0 h1
def sumI : List Int → Int
  | [] => 0
  | x :: xs => x + sumI xs
theorem sumI_set : ∀ (xs : List Int) (k : Nat) (v : Int), k < xs.length → sumI (xs.set k v) = sumI xs - nI xs k + v
  | [], k, v, h => by simp at h
  | x :: xs, 0, v, h => by simp [sumI, nth]; omega
  | x :: xs, k + 1, v, h => by
    have := sumI_set xs k v (by simpa using h)
    simp only [List.set_cons_succ, sumI, this, nI, nth] 
    simp
    omega
theorem sumI_setI {xs : List Int} {i v : Int} (h0 : 0 ≤ i) (h1 : i < xs.length) : sumI (setI xs i v) = sumI xs - nI xs i + v := by
  unfold setI
  rw [sumI_set xs i.toNat v (by omega), Int.toNat_of_nonneg h0]
theorem sumI_le {c : Int} : ∀ (xs : List Int), (∀ x ∈ xs, x ≤ c) → sumI xs ≤ xs.length * c
  | [], _ => by simp [sumI]
  | x :: xs, h => by
    have h1 := sumI_le xs fun y hy => h y (by simp [hy])
    have h2 := h x (by simp)
    simp only [sumI, List.length_cons]
    have : ((xs.length + 1 : Nat) : Int) * c = xs.length * c + c := by rw [Int.natCast_add, Int.add_mul]; simp
    omega
theorem le_sumI : ∀ (xs : List Int), (∀ x ∈ xs, 0 ≤ x) → 0 ≤ sumI xs ∧ ∀ x ∈ xs, x ≤ sumI xs
  | [], _ => by simp [sumI]
  | x :: xs, h => by
    obtain ⟨h1, h2⟩ := le_sumI xs fun y hy => h y (by simp [hy])
    have h3 := h x (by simp)
    refine ⟨by simp only [sumI]; omega, fun y hy => ?_⟩
    simp only [sumI]
    rcases List.mem_cons.1 hy with rfl | hy
    · omega
    · have := h2 y hy; omega
theorem sumI_zero (n : Nat) : sumI (List.replicate n 0) = 0 := by
  induction n with
  | zero => rfl
  | succ n ih => simp [List.replicate_succ, sumI, ih]
theorem all_nth {α : Type} (z : α) {xs : List α} {P : α → Prop} (h : ∀ i : Int, 0 ≤ i → i < xs.length → P (nth z xs i)) : ∀ x ∈ xs, P x := fun x hx => by
  obtain ⟨i, hi⟩ := List.getElem?_of_mem hx
  have := h i (by omega) (by have := (List.getElem?_eq_some_iff.1 hi).1; omega)
  rwa [nth_nat z hi] at this

/-- the seconds that keep all -/
structure Feas (n : Nat) (R : Int → Int) (A : List S_mend_Arc) (u : Int → Int) : Prop where
  ready : ∀ v : Int, 0 ≤ v → v < n → R v ≤ u v
  arcs : ∀ a ∈ A, u a.From + a.Len ≤ u a.To
/-- what holds of a state of the solver's work, whatever is still to be done -/
structure Work (n : Nat) (R : Int → Int) (A : List S_mend_Arc) (last : List Int) (T : Int) (t r : List Int) (ok : Bool) (w : List Bool) (q : List Int) : Prop where
  lt : t.length = n
  lr : r.length = n
  lw : w.length = n
  ll : last.length = n
  up : ∀ v : Int, 0 ≤ v → v < n → nI t v ≤ T
  low : ∀ v : Int, 0 ≤ v → v < n → 0 ≤ R v ∧ R v ≤ nI t v
  tight : ∀ v : Int, 0 ≤ v → v < n → nI t v = R v ∨ ∃ a ∈ A, a.To = v ∧ nI t v ≤ nI t a.From + a.Len
  least : ∀ u, Feas n R A u → ∀ v : Int, 0 ≤ v → v < n → nI t v ≤ u v
  r0 : ∀ v : Int, 0 ≤ v → v < n → 0 ≤ nI r v
  q0 : ∀ v ∈ q, 0 ≤ v ∧ v < n
  wq : ∀ v : Int, 0 ≤ v → v < n → nB w v = true → v ∈ q
  qr : (q.length : Int) ≤ sumI r
  okt : ok = true → ∀ v : Int, 0 ≤ v → v < n → nI t v ≤ 1099511627776
  okl : ok = true → ∀ v : Int, 0 ≤ v → v < n → 0 ≤ nI last v → nI t v ≤ nI last v
  okr : ok = true → ∀ v : Int, 0 ≤ v → v < n → nI r v ≤ 65536
/-- from one state to the next, over an arc -/
structure Step (n : Nat) (a : S_mend_Arc) (t r : List Int) (ok : Bool) (w : List Bool) (q : List Int) (t' r' : List Int) (ok' : Bool) (w' : List Bool) (q' : List Int) : Prop where
  ge : ∀ v : Int, 0 ≤ v → v < n → nI t v ≤ nI t' v
  same : ∀ v : Int, 0 ≤ v → v < n → v ≠ a.To → nI t' v = nI t v
  sat : nI t' a.From + a.Len ≤ nI t' a.To
  still : ∀ v : Int, 0 ≤ v → v < n → nB w' v = false → nB w v = false ∧ nI t' v = nI t v
  sum : (sumI r' = sumI r ∧ q'.length = q.length) ∨ (sumI r' = sumI r + 1 ∧ q'.length ≤ q.length + 1)
theorem try_tot {n : Nat} {R : Int → Int} {A : List S_mend_Arc} {last t r q : List Int} {ok : Bool} {w : List Bool} {T T' : Int} {outs : List (List S_mend_Arc)} {a : S_mend_Arc}
    (hn : n ≤ 24) (hAg : ∀ a ∈ A, GoodArc n a) (ha : GoodArc n a) (hA : a ∈ A) (hW : Work n R A last T t r ok w q) (hT : T ≤ 4611686018427387904) (hS : sumI r ≤ 1073741824) (hT1 : nI t a.From + a.Len ≤ T') (hTT : T ≤ T') :
    Tot (mend_solver_with_1_v2 a t last outs r ok w q) (fun x => Work n R A last T' x.1 x.2.1 x.2.2.1 x.2.2.2.1 x.2.2.2.2 ∧ Step n a t r ok w q x.1 x.2.1 x.2.2.1 x.2.2.2.1 x.2.2.2.2) := by
  obtain ⟨f0, f1, t0, t1, ne, l0, l1⟩ := ha
  have hW' := hW
  obtain ⟨lt, lr, lw, ll, up, low, tight, least, r0, q0, wq, qr, okt, okl, okr⟩ := hW
  have g1 := low a.From f0 f1
  have g2 := up a.From f0 f1
  have hr : ∀ x ∈ r, 0 ≤ x := all_nth 0 fun i h0 h1 => r0 i h0 (by omega)
  have hrs := le_sumI r hr
  have g3 : nI r a.To ≤ sumI r := hrs.2 _ (nth_mem 0 t0 (show a.To < r.length by omega))
  have g4 := r0 a.To t0 t1
  have e1 : w64 (nI t a.From + a.Len) = nI t a.From + a.Len := w64_id (by omega) (by omega)
  have e2 : w64 (nI r a.To + 1) = nI r a.To + 1 := w64_id (by omega) (by omega)
  unfold mend_solver_with_1_v2
  refine tot_bind' (idx_nI f0 (by omega)) ?_
  refine tot_bind' (idx_nI t0 (by omega)) ?_
  rw [e1]
  refine tot_ifb (fun h => tot_some (show Work n R A last T' t r ok w q ∧ Step n a t r ok w q t r ok w q from ?_)) fun h => ?_
  · -- nothing to do
    simp only [decide_eq_true_eq] at h
    exact ⟨⟨lt, lr, lw, ll, fun v h0 h1 => by have := up v h0 h1; omega, low, tight, least, r0, q0, wq, qr, okt, okl, okr⟩, ⟨fun v _ _ => by omega, fun v _ _ _ => rfl, h, fun v _ _ h => ⟨h, rfl⟩, .inl ⟨rfl, rfl⟩⟩⟩
  simp only [decide_eq_false_iff_not, Int.not_le] at h
  refine tot_bind' (idx_nI t0 (by omega)) ?_
  rw [e2]
  -- whether it stays right
  refine tot_bind (P := fun b => b = true → ok = true ∧ nI t a.From + a.Len ≤ 1099511627776 ∧ (0 ≤ nI last a.To → nI t a.From + a.Len ≤ nI last a.To) ∧ nI r a.To + 1 ≤ 65536) ?_ fun b _ hb => ?_
  · have e3 : idx (setI r a.To (nI r a.To + 1)) a.To = some (nI r a.To + 1) :=
      (idx_nI t0 (by rw [setI_length]; omega)).trans (congrArg some (nth_setI_self 0 t0 (by omega)))
    refine tot_ifb (fun hok => ?_) fun _ => tot_some (by simp)
    refine tot_bind' (idx_nI t0 (by omega)) ?_
    rw [e3]
    simp only [Option.bind_some, tot_ifb_iff, tot_some_iff, decide_eq_true_eq, decide_eq_false_iff_not]
    refine ⟨fun h1 => ⟨fun h2 h3 => ⟨hok, h2, fun h4 => by omega, h3⟩, fun _ h => by simp at h⟩, fun h1 => ⟨fun h2 => ⟨fun h3 h4 => ⟨hok, h3, fun _ => h2, h4⟩, fun _ h => by simp at h⟩, fun _ h => by simp at h⟩⟩
  refine tot_bind' (idx_nB t0 (by omega)) ?_
  -- the state behind it, with a list of what is to be done
  have fin : ∀ (w' : List Bool) (q' : List Int), w'.length = n → (∀ v : Int, 0 ≤ v → v < n → nB w' v = if v = a.To then true else nB w v) → (∀ v ∈ q', 0 ≤ v ∧ v < n) → (∀ v ∈ q, v ∈ q') → a.To ∈ q' → q'.length ≤ q.length + 1 →
      Work n R A last T' (setI t a.To (nI t a.From + a.Len)) (setI r a.To (nI r a.To + 1)) b w' q' ∧
        Step n a t r ok w q (setI t a.To (nI t a.From + a.Len)) (setI r a.To (nI r a.To + 1)) b w' q' := by
    intro w' q' lw' hw' hq0 hqq haq hql
    have ht : ∀ v : Int, 0 ≤ v → v < n → nI (setI t a.To (nI t a.From + a.Len)) v = if v = a.To then nI t a.From + a.Len else nI t v := fun v h0 h1 => nth_setI 0 t0 h0 (by omega)
    have hr' : ∀ v : Int, 0 ≤ v → v < n → nI (setI r a.To (nI r a.To + 1)) v = if v = a.To then nI r a.To + 1 else nI r v := fun v h0 h1 => nth_setI 0 t0 h0 (by omega)
    have hsum : sumI (setI r a.To (nI r a.To + 1)) = sumI r + 1 := by rw [sumI_setI t0 (by omega)]; omega
    have htf : nI (setI t a.To (nI t a.From + a.Len)) a.From = nI t a.From := by rw [ht _ f0 f1, if_neg ne]
    refine ⟨⟨by rw [setI_length]; exact lt, by rw [setI_length]; exact lr, lw', ll, fun v h0 h1 => ?_, fun v h0 h1 => ?_, fun v h0 h1 => ?_, fun u hu v h0 h1 => ?_, fun v h0 h1 => ?_, hq0, fun v h0 h1 hv => ?_, by rw [hsum]; omega, fun hb' v h0 h1 => ?_, fun hb' v h0 h1 hl => ?_, fun hb' v h0 h1 => ?_⟩,
      ⟨fun v h0 h1 => ?_, fun v h0 h1 hv => ?_, ?_, fun v h0 h1 hv => ?_, .inr ⟨hsum, hql⟩⟩⟩
    · rw [ht v h0 h1]; split
      · exact hT1
      · have := up v h0 h1; omega
    · rw [ht v h0 h1]
      have := low v h0 h1
      split
      · rename_i hv; subst hv; omega
      · exact this
    · by_cases hv : v = a.To
      · subst hv
        exact .inr ⟨a, hA, rfl, by rw [ht _ h0 h1, if_pos rfl, htf]; omega⟩
      · rw [ht v h0 h1, if_neg hv]
        rcases tight v h0 h1 with h' | ⟨b', hb', e, hle⟩
        · exact .inl h'
        · refine .inr ⟨b', hb', e, ?_⟩
          by_cases hbf : b'.From = a.To
          · rw [hbf] at hle ⊢
            rw [ht _ t0 t1, if_pos rfl]; omega
          · rw [ht _ (hAg _ hb').f0 (hAg _ hb').f1, if_neg hbf]; exact hle
    · rw [ht v h0 h1]
      split
      · rename_i hv; subst hv
        have k1 := least u hu a.From f0 f1
        have k2 := hu.arcs a hA
        omega
      · exact least u hu v h0 h1
    · rw [hr' v h0 h1]; split
      · omega
      · exact r0 v h0 h1
    · rw [hw' v h0 h1] at hv
      by_cases hva : v = a.To
      · subst hva; exact haq
      · rw [if_neg hva] at hv; exact hqq _ (wq v h0 h1 hv)
    · obtain ⟨k1, k2, k3, k4⟩ := hb hb'
      rw [ht v h0 h1]; split
      · exact k2
      · exact okt k1 v h0 h1
    · obtain ⟨k1, k2, k3, k4⟩ := hb hb'
      rw [ht v h0 h1]; split
      · rename_i hv; subst hv; exact k3 hl
      · exact okl k1 v h0 h1 hl
    · obtain ⟨k1, k2, k3, k4⟩ := hb hb'
      rw [hr' v h0 h1]; split
      · exact k4
      · exact okr k1 v h0 h1
    · rw [ht v h0 h1]; split
      · rename_i hv; subst hv; omega
      · omega
    · rw [ht v h0 h1, if_neg hv]
    · rw [htf, ht _ t0 t1, if_pos rfl]; omega
    · rw [hw' v h0 h1] at hv
      by_cases hva : v = a.To
      · rw [if_pos hva] at hv; cases hv
      · rw [if_neg hva] at hv
        exact ⟨hv, by rw [ht v h0 h1, if_neg hva]⟩
  refine tot_ifb (fun hw => ?_) fun hw => tot_some ?_
  · refine tot_bind' (gapp_eq (by simp only [apRoom, List.length_singleton]; omega) (by simp only [maxLen, List.length_singleton]; omega)) (tot_some ?_)
    exact fin _ _ (by rw [setI_length]; exact lw) (fun v h0 h1 => nth_setI false t0 h0 (by omega)) (fun v hv => by
      rcases List.mem_append.1 hv with hv | hv
      · exact q0 v hv
      · rw [List.mem_singleton.1 hv]; exact ⟨t0, t1⟩) (fun v hv => List.mem_append_left _ hv) (by simp) (by simp)
  · have hw' : nB w a.To = true := by simpa using hw
    exact fin w q lw (fun v h0 h1 => by
      by_cases hv : v = a.To
      · rw [if_pos hv, hv]; exact hw'
      · rw [if_neg hv]) q0 (fun v hv => hv) (wq _ t0 t1 hw') (by omega)
end Hk
