/- MendLeast, the plain side: a solver with further arcs. -/
import Derived.Test.YtcidamhhffgipaaMendB
set_option linter.unusedVariables false
set_option linter.unusedSimpArgs false
namespace Hk
open Go

/-- a solver that is right for the arcs A -/
structure Solved (n : Nat) (R : Int → Int) (A : List S_mend_Arc) (K : Nat) (t last : List Int) (outs : List (List S_mend_Arc)) : Prop where
  lt : t.length = n
  ll : last.length = n
  lo : outs.length = n
  up : ∀ v : Int, 0 ≤ v → v < n → nI t v ≤ 1099511627776
  low : ∀ v : Int, 0 ≤ v → v < n → 0 ≤ R v ∧ R v ≤ nI t v
  tight : ∀ v : Int, 0 ≤ v → v < n → nI t v = R v ∨ ∃ a ∈ A, a.To = v ∧ nI t v ≤ nI t a.From + a.Len
  least : ∀ u, Feas n R A u → ∀ v : Int, 0 ≤ v → v < n → nI t v ≤ u v
  lasts : ∀ v : Int, 0 ≤ v → v < n → 0 ≤ nI last v → nI t v ≤ nI last v
  sat : ∀ a ∈ A, nI t a.From + a.Len ≤ nI t a.To
  mem : ∀ v : Int, 0 ≤ v → v < n → ∀ a, a ∈ nO outs v ↔ a ∈ A ∧ a.From = v
  len : ∀ v : Int, 0 ≤ v → v < n → (nO outs v).length ≤ K

theorem clone_eq {xs : List Int} (h : xs.length ≤ 1000000) : slices_Clone_int_int xs = some xs := by
  unfold slices_Clone_int_int
  rw [gapp_eq (by simp only [apRoom, List.length_nil]; omega) (by simp only [maxLen, List.length_nil]; omega)]; simp
theorem cloneA_eq {xs : List S_mend_Arc} (h : xs.length ≤ 1000000) : slices_Clone_mend_Arc_mend_Arc_v2 xs = some xs := by
  unfold slices_Clone_mend_Arc_mend_Arc_v2
  rw [gapp_eq (by simp only [apRoom, List.length_nil]; omega) (by simp only [maxLen, List.length_nil]; omega)]; simp
theorem cloneO_eq {xs : List (List S_mend_Arc)} (h : xs.length ≤ 1000000) : slices_Clone_mend_Arc_mend_Arc xs = some xs := by
  unfold slices_Clone_mend_Arc_mend_Arc
  rw [gapp_eq (by simp only [apRoom, List.length_nil]; omega) (by simp only [maxLen, List.length_nil]; omega)]; simp
theorem bound_tot (t l : List Int) (o : List (List S_mend_Arc)) : Tot (mend_solver_bound t l o) (fun _ => True) := by
  unfold mend_solver_bound mend_greatest_int
  refine tot_bind (P := fun _ => True) (tot_loop (I := fun _ _ => True) (J := fun _ => True) (E := fun _ => False) trivial (fun i x s _ _ => tot_some trivial) (fun _ _ => trivial) (fun _ _ => tot_some trivial) (fun _ h => h.elim)) fun x _ _ => ?_
  refine tot_loop (I := fun _ _ => True) (J := fun _ => True) (E := fun _ => False) trivial (fun i x s _ _ => ?_) (fun _ _ => trivial) (fun _ _ => tot_some trivial) (fun _ h => h.elim)
  unfold mend_solver_bound_b6
  exact tot_loop (I := fun _ _ => True) (J := fun _ => True) (E := fun _ => False) trivial (fun i x s _ _ => tot_some trivial) (fun _ _ => trivial) (fun _ _ => tot_some trivial) (fun _ h => h.elim)
theorem mem_take_succ {α : Type} {xs : List α} {k : Nat} {x y : α} (h : xs[k]? = some x) (hy : y ∈ xs.take (k + 1)) : y ∈ xs.take k ∨ y = x := by
  obtain ⟨hl, rfl⟩ := List.getElem?_eq_some_iff.1 h
  rw [List.take_succ_eq_append_getElem hl] at hy
  rcases List.mem_append.1 hy with hy | hy
  · exact .inl hy
  · exact .inr (List.mem_singleton.1 hy)
theorem mem_take_get {α : Type} {xs : List α} {k : Nat} {x : α} (h : xs[k]? = some x) : x ∈ xs.take (k + 1) := by
  obtain ⟨hl, rfl⟩ := List.getElem?_eq_some_iff.1 h
  rw [List.take_succ_eq_append_getElem hl]
  exact List.mem_append_right _ (List.mem_singleton.2 rfl)
theorem mem_take_mono {α : Type} {xs : List α} {k : Nat} {y : α} (hy : y ∈ xs.take k) : y ∈ xs.take (k + 1) := (List.take_sublist_take_left (by omega)).subset hy

/-- the arcs are laid beside those that were there -/
theorem outs_tot {n : Nat} {A B : List S_mend_Arc} {K : Nat} {outs : List (List S_mend_Arc)} {β : Type} {F : List (List S_mend_Arc) → Option β} {H : Empty → Option β} {Q : β → Prop} (hB : ∀ a ∈ B, GoodArc n a) (hBl : B.length ≤ 250) (hK : K ≤ 100000) (lo : outs.length = n)
    (ho : ∀ v : Int, 0 ≤ v → v < n → ∀ a, a ∈ nO outs v ↔ a ∈ A ∧ a.From = v) (hl : ∀ v : Int, 0 ≤ v → v < n → (nO outs v).length ≤ K)
    (hF : ∀ outs', outs'.length = n → (∀ v : Int, 0 ≤ v → v < n → ∀ a, a ∈ nO outs' v ↔ a ∈ A ++ B ∧ a.From = v) → (∀ v : Int, 0 ≤ v → v < n → (nO outs' v).length ≤ K + B.length) → Tot (F outs') Q) :
    Tot ((forC mend_solver_with_b6 B outs).bind fun c => Ctl.on c F H) Q := by
  refine tot_loop (I := fun k o => o.length = n ∧ (∀ v : Int, 0 ≤ v → v < n → ∀ a, a ∈ nO o v ↔ (a ∈ A ∨ a ∈ B.take k) ∧ a.From = v) ∧ (∀ v : Int, 0 ≤ v → v < n → (nO o v).length ≤ K + k) ∧ k ≤ B.length)
    (J := fun o => o.length = n ∧ (∀ v : Int, 0 ≤ v → v < n → ∀ a, a ∈ nO o v ↔ a ∈ A ++ B ∧ a.From = v) ∧ (∀ v : Int, 0 ≤ v → v < n → (nO o v).length ≤ K + B.length)) (E := fun _ => False)
    ⟨lo, fun v h0 h1 a => by rw [ho v h0 h1 a]; simp, fun v h0 h1 => hl v h0 h1, by omega⟩ (fun k a o hx hI => ?_) (fun o ⟨h1, h2, h3, _⟩ => ⟨h1, fun v h0 h1 a => by rw [h2 v h0 h1 a, List.take_length, List.mem_append], h3⟩) (fun o ⟨h1, h2, h3⟩ => hF o h1 h2 h3) (fun _ h => h.elim)
  obtain ⟨lo', ho', hl', hk⟩ := hI
  have ha := hB a (List.mem_of_getElem? hx)
  have hkl := (List.getElem?_eq_some_iff.1 hx).1
  have hf := hl' a.From ha.f0 ha.f1
  unfold mend_solver_with_b6
  simp only [tot_bind_iff, tot_some_iff]
  refine eq_tot (idx_nO ha.f0 (by have := ha.f1; omega)) ?_
  refine eq_tot (cloneA_eq (by omega)) ?_
  refine eq_tot (gapp_eq (by simp only [apRoom, List.length_singleton]; omega) (by simp only [maxLen, List.length_singleton]; omega)) ?_
  have hs : ∀ v : Int, 0 ≤ v → v < n → nO (setI o a.From (nO o a.From ++ [a])) v = if v = a.From then nO o a.From ++ [a] else nO o v := fun v h0 h1 => nth_setI [] ha.f0 h0 (by omega)
  refine ⟨by rw [setI_length]; exact lo', fun v h0 h1 b => ?_, fun v h0 h1 => ?_, by omega⟩
  · rw [hs v h0 h1]
    by_cases hv : v = a.From
    · subst hv
      rw [if_pos rfl, List.mem_append, ho' _ h0 h1 b]
      constructor
      · rintro (⟨h | h, e⟩ | h)
        · exact ⟨.inl h, e⟩
        · exact ⟨.inr (mem_take_mono h), e⟩
        · rw [List.mem_singleton.1 h]; exact ⟨.inr (mem_take_get hx), rfl⟩
      · rintro ⟨h | h, e⟩
        · exact .inl ⟨.inl h, e⟩
        · rcases mem_take_succ hx h with h | rfl
          · exact .inl ⟨.inr h, e⟩
          · exact .inr (by simp)
    · rw [if_neg hv, ho' v h0 h1 b]
      constructor
      · rintro ⟨h | h, e⟩
        · exact ⟨.inl h, e⟩
        · exact ⟨.inr (mem_take_mono h), e⟩
      · rintro ⟨h | h, e⟩
        · exact ⟨.inl h, e⟩
        · rcases mem_take_succ hx h with h | rfl
          · exact ⟨.inr h, e⟩
          · exact absurd e.symm hv
  · rw [hs v h0 h1]
    split
    · rw [List.length_append, List.length_singleton]; omega
    · have := hl' v h0 h1; omega
/-- the times of the solver, as they are to be -/
structure Done (n : Nat) (R : Int → Int) (A : List S_mend_Arc) (last : List Int) (t : List Int) : Prop where
  lt : t.length = n
  up : ∀ v : Int, 0 ≤ v → v < n → nI t v ≤ 1099511627776
  low : ∀ v : Int, 0 ≤ v → v < n → 0 ≤ R v ∧ R v ≤ nI t v
  tight : ∀ v : Int, 0 ≤ v → v < n → nI t v = R v ∨ ∃ a ∈ A, a.To = v ∧ nI t v ≤ nI t a.From + a.Len
  least : ∀ u, Feas n R A u → ∀ v : Int, 0 ≤ v → v < n → nI t v ≤ u v
  lasts : ∀ v : Int, 0 ≤ v → v < n → 0 ≤ nI last v → nI t v ≤ nI last v
  sat : ∀ a ∈ A, nI t a.From + a.Len ≤ nI t a.To
/-- the search's state between two rounds -/
structure Between (n : Nat) (R : Int → Int) (A : List S_mend_Arc) (last t r : List Int) (ok : Bool) (w : List Bool) (q : List Int) : Prop where
  work : Work n R A last 1099520000000 t r ok w q
  sat : ∀ a ∈ A, nB w a.From = false → nI t a.From + a.Len ≤ nI t a.To
  sum : sumI r ≤ 2000000
theorem Between.done {n : Nat} {R : Int → Int} {A : List S_mend_Arc} {last t r : List Int} {w : List Bool} (hA : ∀ a ∈ A, GoodArc n a) (h : Between n R A last t r true w []) : Done n R A last t :=
  ⟨h.work.lt, h.work.okt rfl, h.work.low, h.work.tight, h.work.least, h.work.okl rfl, fun a ha => h.sat a ha (by
    cases hw : nB w a.From
    · rfl
    · have := h.work.wq a.From (hA a ha).f0 (hA a ha).f1 hw; simp at this)⟩
theorem sum_le {n : Nat} {r : List Int} (hn : n ≤ 24) (lr : r.length = n) (h : ∀ v : Int, 0 ≤ v → v < n → nI r v ≤ 65536) : sumI r ≤ 1572864 := by
  have := sumI_le (c := 65536) r (all_nth 0 fun i h0 h1 => h i h0 (by omega))
  omega
/-- one round -/
theorem round_tot {n : Nat} {R : Int → Int} {A : List S_mend_Arc} {last t r q : List Int} {ok : Bool} {w : List Bool} {K : Nat} {outs : List (List S_mend_Arc)} {s0 : List Int × List Int × List (List S_mend_Arc)} {bd : Int}
    (hn : n ≤ 24) (hA : ∀ a ∈ A, GoodArc n a) (hK : K ≤ 400000) (lo : outs.length = n) (ho : ∀ v : Int, 0 ≤ v → v < n → ∀ a, a ∈ nO outs v ↔ a ∈ A ∧ a.From = v) (hl : ∀ v : Int, 0 ≤ v → v < n → (nO outs v).length ≤ K) (h0 : s0.2.1 = last)
    (hB : Between n R A last t r ok w q) :
    Tot (mend_solver_with_b10 s0 outs bd (t, r, w, q, ok)) (fun c => match c with
      | .go s' => Between n R A last s'.1 s'.2.1 s'.2.2.2.2 s'.2.2.1 s'.2.2.2.1 ∧ 2 * (2000000 - sumI s'.2.1) + s'.2.2.2.1.length < 2 * (2000000 - sumI r) + q.length
      | .out (.go s') => s'.2.2.2.2 = true → Done n R A last s'.1
      | .out (.out x) => x.2 = false) := by
  unfold mend_solver_with_b10
  simp only []
  refine tot_bind (P := fun b => (b = true → ok = true ∧ q ≠ []) ∧ (b = false → ok = true → q = [])) ?_ fun b _ hb => ?_
  · simp only [tot_ifb_iff, tot_some_iff, decide_eq_true_eq, decide_eq_false_iff_not]
    refine ⟨fun h => ⟨fun h' => ⟨h', fun e => by subst e; simp at h⟩, fun h' e => by rw [e] at h'; cases h'⟩, fun h => ⟨fun h' => (by cases h'), fun _ _ => ?_⟩⟩
    exact List.eq_nil_of_length_eq_zero (by omega)
  refine tot_ifb (fun h => ?_) fun h => tot_some fun hok => (by
    replace hok : ok = true := hok
    have := hb.2 h hok
    subst this; subst hok
    exact hB.done hA)
  obtain ⟨hok, hq⟩ := hb.1 h
  subst hok
  obtain ⟨v, q', rfl⟩ : ∃ v q', q = v :: q' := by
    cases q with
    | nil => exact absurd rfl hq
    | cons v q' => exact ⟨v, q', rfl⟩
  have hW := hB.work
  have hv := hW.q0 v (by simp)
  have hvl := hl v hv.1 hv.2
  refine tot_bind' (show idx (v :: q') 0 = some v from rfl) ?_
  refine tot_bind' gcut_tail ?_
  refine tot_bind' (idx_nB hv.1 (by have := hW.lw; omega)) ?_
  refine tot_bind' (idx_nI hv.1 (by have := hW.lt; omega)) ?_
  refine tot_ifb (fun _ => tot_some rfl) fun _ => ?_
  refine tot_bind' (idx_nO hv.1 (by omega)) ?_
  have hS := sum_le hn hW.lr (hW.okr rfl)
  have htv := hW.okt rfl v hv.1 hv.2
  refine tot_loop
    (I := fun k s => Work n R A last 1099520000000 s.2.2.1 s.2.2.2.1 s.2.2.2.2 s.1 s.2.1 ∧ nI s.2.2.1 v = nI t v ∧ sumI s.2.2.2.1 ≤ sumI r + k ∧ (s.2.1.length : Int) - sumI s.2.2.2.1 ≤ q'.length - sumI r ∧ sumI r ≤ sumI s.2.2.2.1 ∧
      ∀ a ∈ A, nB s.1 a.From = false → (a.From ≠ v ∨ a ∈ (nO outs v).take k) → nI s.2.2.1 a.From + a.Len ≤ nI s.2.2.1 a.To)
    (J := fun s => Between n R A last s.2.2.1 s.2.2.2.1 s.2.2.2.2 s.1 s.2.1 ∧ 2 * (2000000 - sumI s.2.2.2.1) + s.2.1.length < 2 * (2000000 - sumI r) + (q'.length + 1)) (E := fun _ => False) ?_ (fun k a s hx hI => ?_) (fun s hI => ?_) (fun s hJ => tot_some ?_) (fun _ h => h.elim)
  · have hw : ∀ u : Int, 0 ≤ u → u < n → nB (setI w v false) u = if u = v then false else nB w u := fun u h0 h1 => nth_setI false hv.1 h0 (by have := hW.lw; omega)
    refine ⟨⟨hW.lt, hW.lr, by rw [setI_length]; exact hW.lw, hW.ll, hW.up, hW.low, hW.tight, hW.least, hW.r0, fun u hu => hW.q0 u (by simp [hu]), fun u h0 h1 hu => ?_, ?_, hW.okt, hW.okl, hW.okr⟩, rfl, by simp, by simp, by simp, fun a ha hwa hd => ?_⟩
    · rw [hw u h0 h1] at hu
      split at hu
      · cases hu
      · rename_i hne
        have := hW.wq u h0 h1 hu
        rcases List.mem_cons.1 this with h | h
        · exact absurd h hne
        · exact h
    · have := hW.qr
      simp at this
      show (q'.length : Int) ≤ sumI r
      omega
    · simp at hd
      have hg := hA a ha
      simp only at hwa
      rw [hw _ hg.f0 hg.f1, if_neg hd] at hwa
      exact hB.sat a ha hwa
  · obtain ⟨kW, kv, ks, kq, kr, ksat⟩ := hI
    have hal := (List.getElem?_eq_some_iff.1 hx).1
    have ham := (ho v hv.1 hv.2 a).1 (List.mem_of_getElem? hx)
    have hg := hA a ham.1
    have htry := try_tot (outs := outs) hn hA hg ham.1 kW (by omega) (by omega) (T' := 1099520000000) (by rw [ham.2, kv]; have := hg.l1; omega) (by omega)
    unfold mend_solver_with_b11
    rw [h0]
    refine tot_bind htry fun x _ hx' => tot_some ?_
    obtain ⟨xW, xS⟩ := hx'
    refine ⟨xW, ?_, ?_, ?_, ?_, fun b hb hwb hd => ?_⟩
    · rw [xS.same v hv.1 hv.2 (fun e => hg.ne (ham.2.trans e)), kv]
    · rcases xS.sum with ⟨e, _⟩ | ⟨e, _⟩ <;> simp only [e] <;> omega
    · rcases xS.sum with ⟨e, e'⟩ | ⟨e, e'⟩ <;> simp only [e] <;> omega
    · rcases xS.sum with ⟨e, e'⟩ | ⟨e, e'⟩ <;> simp only [e] <;> omega
    · have hgb := hA b hb
      obtain ⟨w1, t1⟩ := xS.still b.From hgb.f0 hgb.f1 hwb
      simp only at t1 ⊢
      rw [t1]
      have hge := xS.ge b.To hgb.t0 hgb.t1
      have old : (b.From ≠ v ∨ b ∈ (nO outs v).take k) → nI s.2.2.1 b.From + b.Len ≤ nI x.1 b.To := fun hd => by
        have := ksat b hb w1 hd
        omega
      rcases hd with hd | hd
      · exact old (.inl hd)
      · rcases mem_take_succ hx hd with hd | rfl
        · exact old (.inr hd)
        · have := xS.sat
          rw [t1] at this; exact this
  · obtain ⟨kW, kv, ks, kq, kr, ksat⟩ := hI
    refine ⟨⟨kW, fun a ha hwa => ksat a ha hwa ?_, by omega⟩, by omega⟩
    by_cases hf : a.From = v
    · right
      rw [List.take_length]
      exact (ho v hv.1 hv.2 a).2 ⟨ha, hf⟩
    · exact .inl hf
  · exact hJ
end Hk
