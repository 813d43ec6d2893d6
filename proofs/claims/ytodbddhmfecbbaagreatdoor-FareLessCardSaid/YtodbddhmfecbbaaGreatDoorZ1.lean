/- FareLess: conditions: how many nodes they have, what their checks say, that they hold or not. -/
import Derived.Test.YtodbddhmfecbbaaGreatDoorZP
import Derived.Test.YtodbddhmfecbbaaGreatDoorK5
set_option linter.unusedVariables false
set_option linter.unusedSimpArgs false
set_option maxRecDepth 100000
namespace Wr
open Go Hk Hd Pl

theorem awake : fishkeep2_awakeFare = some true := rfl
theorem fares : fishkeep2_fares = some true := by kernel_rfl
theorem fwithin_eq (a b c : Int) : fare_within a b c = some (decide (b ≤ a ∧ a ≤ c)) := by
  unfold fare_within
  by_cases h1 : a ≥ b <;> by_cases h2 : a ≤ c <;> simp [ifb, h1, h2]
theorem rwithin_eq (a b c : Int) : fishref2_within a b c = some (decide (b ≤ a ∧ a ≤ c)) := fwithin_eq a b c
abbrev Cond := S_fare_Cond
theorem eta (c : Cond) : S_fare_Cond.mk c.Kind c.A c.B c.Kids = c := by cases c; rfl

/-! ### nodes and levels -/
mutual
inductive Sz : Cond → Int → Int → Prop
  | mk (c : Cond) (n d : Int) : SzL c.Kids n d → Sz c (n + 1) (d + 1)
inductive SzL : List Cond → Int → Int → Prop
  | nil : SzL [] 0 0
  | snoc (l : List Cond) (k : Cond) (n d n' d' : Int) : SzL l n d → Sz k n' d' → SzL (l ++ [k]) (n + n') (max d d')
end
theorem SzL.inv {l : List Cond} {n d : Int} (h : SzL l n d) : (l = [] ∧ n = 0 ∧ d = 0) ∨ ∃ l' k n1 d1 n2 d2, l = l' ++ [k] ∧ n = n1 + n2 ∧ d = max d1 d2 ∧ SzL l' n1 d1 ∧ Sz k n2 d2 := by
  cases h with
  | nil => exact .inl ⟨rfl, rfl, rfl⟩
  | snoc l' k n1 d1 n2 d2 h1 h2 => exact .inr ⟨l', k, n1, d1, n2, d2, rfl, rfl, rfl, h1, h2⟩
theorem Sz.inv {c : Cond} {n d : Int} (h : Sz c n d) : SzL c.Kids (n - 1) (d - 1) := by
  cases h with
  | mk c n d h => rw [show n + 1 - 1 = n from by omega, show d + 1 - 1 = d from by omega]; exact h
/-- by the number of nodes: all parts are in bounds -/
theorem szl_bounds : ∀ (m : Nat) {l : List Cond} {n d : Int}, SzL l n d → l.length ≤ m → (∀ {k n d}, k ∈ l → Sz k n d → 1 ≤ n ∧ 1 ≤ d ∧ d ≤ n) → 0 ≤ n ∧ 0 ≤ d ∧ d ≤ n ∧ (l.length : Int) ≤ n
  | 0, l, n, d, h, hl, hk => by
    rcases h.inv with ⟨rfl, rfl, rfl⟩ | ⟨l', k, n1, d1, n2, d2, rfl, rfl, rfl, h1, h2⟩
    · simp
    · simp at hl
  | m + 1, l, n, d, h, hl, hk => by
    rcases h.inv with ⟨rfl, rfl, rfl⟩ | ⟨l', k, n1, d1, n2, d2, rfl, rfl, rfl, h1, h2⟩
    · simp
    · have a := szl_bounds m h1 (by simp at hl; exact hl) fun hm hs => hk (by simp [hm]) hs
      have b := hk (by simp) h2
      simp only [List.length_append, List.length_cons, List.length_nil]
      omega
theorem size_kid {c k : Cond} (h : k ∈ c.Kids) : sizeOf k < sizeOf c := by
  cases c with
  | mk a b d l =>
    have := List.sizeOf_lt_of_mem h
    simp at this ⊢
    omega
theorem sz_bounds (c : Cond) : ∀ {n d : Int}, Sz c n d → 1 ≤ n ∧ 1 ≤ d ∧ d ≤ n := by
  intro n d h
  have := szl_bounds c.Kids.length h.inv (Nat.le_refl _) fun {k n d} hk hs => sz_bounds k hs
  omega
termination_by sizeOf c
decreasing_by exact size_kid hk
theorem SzL.bounds {l : List Cond} {n d : Int} (h : SzL l n d) : 0 ≤ n ∧ 0 ≤ d ∧ d ≤ n ∧ (l.length : Int) ≤ n := szl_bounds l.length h (Nat.le_refl _) fun {k _ _} _ hs => sz_bounds k hs
theorem szl_mem : ∀ (m : Nat) {l : List Cond} {n d : Int}, SzL l n d → l.length ≤ m → ∀ k ∈ l, ∃ n' d', Sz k n' d' ∧ n' ≤ n ∧ d' ≤ d
  | 0, l, n, d, h, hl, k, hk => by
    cases l with
    | nil => cases hk
    | cons _ _ => simp at hl
  | m + 1, l, n, d, h, hl, k, hk => by
    rcases h.inv with ⟨rfl, rfl, rfl⟩ | ⟨l', k', n1, d1, n2, d2, rfl, rfl, rfl, h1, h2⟩
    · cases hk
    · have b1 := h1.bounds
      have b2 := sz_bounds _ h2
      rcases List.mem_append.1 hk with hk | hk
      · obtain ⟨n', d', a, b, c⟩ := szl_mem m h1 (by simp at hl; exact hl) k hk
        exact ⟨n', d', a, by omega, by omega⟩
      · simp at hk
        subst hk
        exact ⟨n2, d2, h2, by omega, by omega⟩
theorem Sz.kid {c : Cond} {n d : Int} (h : Sz c n d) {k : Cond} (hk : k ∈ c.Kids) : ∃ n' d', Sz k n' d' ∧ n' ≤ n - 1 ∧ d' ≤ d - 1 := szl_mem _ h.inv (Nat.le_refl _) k hk
theorem szl_unique : ∀ (m : Nat) {l : List Cond} {n d n' d' : Int}, l.length ≤ m → (∀ {k n d n' d'}, k ∈ l → Sz k n d → Sz k n' d' → n = n' ∧ d = d') → SzL l n d → SzL l n' d' → n = n' ∧ d = d'
  | 0, l, n, d, n', d', hl, hk, h, h' => by
    cases l with
    | cons _ _ => simp at hl
    | nil =>
      rcases h.inv with ⟨_, rfl, rfl⟩ | ⟨l', k, n1, d1, n2, d2, e, _⟩
      · rcases h'.inv with ⟨_, rfl, rfl⟩ | ⟨l', k, n1, d1, n2, d2, e, _⟩
        · exact ⟨rfl, rfl⟩
        · simp at e
      · simp at e
  | m + 1, l, n, d, n', d', hl, hk, h, h' => by
    rcases h.inv with ⟨rfl, rfl, rfl⟩ | ⟨l1, k1, n1, d1, n2, d2, e1, rfl, rfl, a1, a2⟩
    · rcases h'.inv with ⟨_, rfl, rfl⟩ | ⟨l', k, n1, d1, n2, d2, e, _⟩
      · exact ⟨rfl, rfl⟩
      · simp at e
    · rcases h'.inv with ⟨e, _⟩ | ⟨l3, k3, n3, d3, n4, d4, e3, rfl, rfl, b1, b2⟩
      · rw [e1] at e; simp at e
      · obtain ⟨q1, q2⟩ := List.append_inj' (e1.symm.trans e3) rfl
        subst q1
        injection q2 with q2
        subst q2
        have c1 := szl_unique m (by rw [e1] at hl; simp at hl; exact hl) (fun hm => hk (by rw [e1]; simp [hm])) a1 b1
        have c2 := hk (by rw [e1]; simp) a2 b2
        rw [c1.1, c1.2, c2.1, c2.2]
        exact ⟨rfl, rfl⟩
theorem sz_unique (c : Cond) : ∀ {n d n' d' : Int}, Sz c n d → Sz c n' d' → n = n' ∧ d = d' := by
  intro n d n' d' h h'
  have := szl_unique c.Kids.length (Nat.le_refl _) (fun {k n d n' d'} hk h h' => sz_unique k h h') h.inv h'.inv
  omega
termination_by sizeOf c
decreasing_by exact size_kid hk
/-- what the document's count says -/
theorem shape_tot : ∀ (F : Nat) (c : Cond) (left : Int), 0 ≤ left → left ≤ 40 → left < F → Tot (fishref2_shape_n F c left) fun r => 0 ≤ r.1 ∧ r.1 ≤ left + 1 ∧ r.2 < left ∧ -1 ≤ r.2 ∧ (0 ≤ r.2 → ∃ n, Sz c n r.1 ∧ r.2 = left - n)
  | 0, c, left, h0, h1, hF => by omega
  | F + 1, c, left, h0, h1, hF => by
    show Tot (fishref2_shape_step (fishref2_shape_n F) c left) _
    unfold fishref2_shape_step
    rw [w64_id (x := left - 1) (by omega) (by omega)]
    refine tot_ifb (fun hc => tot_some ?_) fun hc => ?_
    · have hc : left - 1 < 0 := of_decide_eq_true hc
      exact ⟨by simp, by dsimp only; omega, by dsimp only; omega, by dsimp only; omega, fun h => by dsimp only at h; omega⟩
    · have hc : ¬ left - 1 < 0 := of_decide_eq_false hc
      refine tot_loopX (I := fun i s => 0 ≤ s.2 ∧ s.2 ≤ left - 1 ∧ 0 ≤ s.1 ∧ s.1 ≤ left ∧ ∃ n, SzL (c.Kids.take i) n s.1 ∧ s.2 = left - 1 - n)
        (J := fun s => 0 ≤ s.1 ∧ s.1 ≤ left ∧ s.2 ≤ left - 1 ∧ -1 ≤ s.2 ∧ (0 ≤ s.2 → ∃ n, SzL c.Kids n s.1 ∧ s.2 = left - 1 - n)) (E := fun _ => False) ⟨by dsimp only; omega, by simp, by simp, by dsimp only; omega, 0, .nil, by simp⟩ ?_ ?_ ?_ (fun _ h => h.elim)
      · rintro i x ⟨lv, lf⟩ hx ⟨g1, g2, g3, g4, n, g5, g6⟩
        dsimp only at g1 g2 g3 g4 g5 g6
        unfold fishref2_shape_b1
        rw [eta]
        refine tot_bind (shape_tot F x lf g1 (by omega) (by omega)) fun r _ hr => ?_
        obtain ⟨r1, r2⟩ := r
        obtain ⟨k1, k2, k3, k4, k5⟩ := hr
        dsimp only at k1 k2 k3 k4 k5
        dsimp only
        rw [gmax_eq]
        refine tot_ifb (fun hn => tot_some ?_) fun hn => tot_some ?_
        · have hn : r2 < 0 := of_decide_eq_true hn
          exact ⟨by dsimp only; omega, by dsimp only; omega, by dsimp only; omega, k4, fun h => by dsimp only at h; omega⟩
        · have hn : ¬ r2 < 0 := of_decide_eq_false hn
          obtain ⟨n', k6, k7⟩ := k5 (by omega)
          refine ⟨by dsimp only; omega, by dsimp only; omega, by dsimp only; omega, by dsimp only; omega, n + n', ?_, by dsimp only; omega⟩
          rw [List.take_add_one, hx]
          exact .snoc _ _ _ _ _ _ g5 k6
      · rintro ⟨lv, lf⟩ ⟨g1, g2, g3, g4, n, g5, g6⟩
        rw [List.take_length] at g5
        exact ⟨g3, g4, g2, by omega, fun _ => ⟨n, g5, g6⟩⟩
      · rintro ⟨lv, lf⟩ ⟨g1, g2, g3, g4, g5⟩
        dsimp only at g1 g2 g3 g4 g5
        refine tot_some ?_
        rw [w64_id (by omega) (by omega)]
        refine ⟨by dsimp only; omega, by dsimp only; omega, by dsimp only; omega, g4, fun h => ?_⟩
        obtain ⟨n, a, b⟩ := g5 h
        exact ⟨n + 1, .mk c n lv a, by dsimp only at *; omega⟩
/-- what the program's count says -/
theorem size_tot : ∀ (F : Nat) (c : Cond) (n d : Int), Sz c n d → n ≤ 1000 → d ≤ F → fare_Cond_size_n F c = some (n, d)
  | 0, c, n, d, h, h1, h2 => by have := sz_bounds c h; omega
  | F + 1, c, n, d, h, h1, h2 => by
    have hb := sz_bounds c h
    show fare_Cond_size_step (fare_Cond_size_n F) c = _
    unfold fare_Cond_size_step
    have hinv := h.inv
    have hib := hinv.bounds
    refine tot_eq (tot_loopX (I := fun i s => ∃ m e, SzL (c.Kids.take i) m e ∧ s = (m + 1, e) ∧ 0 ≤ m ∧ m ≤ 1000 * i ∧ 0 ≤ e ∧ e ≤ 1000) (J := fun s => s = (n, d - 1)) (E := fun _ => False) ⟨0, 0, .nil, rfl, by simp, by simp, by simp, by simp⟩ ?_ ?_ ?_ (fun _ h => h.elim))
    · rintro i x s hx ⟨m, e, g1, rfl, g2, g3, g4, g5⟩
      have hi := (List.getElem?_eq_some_iff.1 hx).1
      obtain ⟨n', d', k1, k2, k3⟩ := h.kid (List.mem_of_getElem? hx)
      have kb := sz_bounds _ k1
      unfold fare_Cond_size_b1
      rw [eta, size_tot F x n' d' k1 (by omega) (by omega), Option.bind_some]
      refine tot_some ⟨m + n', max e d', ?_, ?_, by omega, by omega, by omega, by omega⟩
      · rw [List.take_add_one, hx]
        exact .snoc _ _ _ _ _ _ g1 k1
      · dsimp only
        rw [w64_id (by omega) (by omega), gmax_eq]
        exact Prod.ext (by dsimp only; omega) rfl
    · rintro s ⟨m, e, g1, rfl, _⟩
      rw [List.take_length] at g1
      obtain ⟨q1, q2⟩ := szl_unique _ (Nat.le_refl _) (fun {k n d n' d'} _ h h' => sz_unique k h h') g1 hinv
      rw [q1, q2]
      exact Prod.ext (by dsimp only; omega) rfl
    · rintro s rfl
      exact tot_some (by dsimp only; rw [w64_id (by omega) (by omega)]; exact Prod.ext rfl (by dsimp only; omega))

/-! ### checks -/
/-- what is asked of a node -/
structure Loc (c : Cond) : Prop where
  kind : 0 ≤ c.Kind ∧ c.Kind ≤ 11
  not : c.Kind = 9 → c.Kids.length = 1
inductive Ok : Cond → Prop
  | mk (c : Cond) : Loc c → (∀ k ∈ c.Kids, Ok k) → Ok c
theorem Ok.loc {c : Cond} (h : Ok c) : Loc c := by cases h with | mk c a b => exact a
theorem Ok.kid {c : Cond} (h : Ok c) {k : Cond} (hk : k ∈ c.Kids) : Ok k := by cases h with | mk c a b => exact b k hk
def num (k : Int) : Int := if k = 2 ∨ k = 3 ∨ k = 4 ∨ k = 5 then 2 else if k = 6 ∨ k = 7 ∨ k = 8 then 1 else 0
theorem numbers_eq (k : Int) : fare_numbers k = some (num k) := by
  unfold fare_numbers num
  by_cases h2 : k = 2
  · subst h2; rfl
  by_cases h3 : k = 3
  · subst h3; rfl
  by_cases h4 : k = 4
  · subst h4; rfl
  by_cases h5 : k = 5
  · subst h5; rfl
  by_cases h6 : k = 6
  · subst h6; rfl
  by_cases h7 : k = 7
  · subst h7; rfl
  by_cases h8 : k = 8
  · subst h8; rfl
  have e : ∀ m : Int, k ≠ m → (k == m) = false := fun m h => by simpa using h
  rw [e 2 h2, e 3 h3, e 4 h4, e 5 h5, e 6 h6, e 7 h7, e 8 h8, if_neg (by omega), if_neg (by omega)]
  rfl
theorem rnumbers_eq (k : Int) : fishref2_numbersOf k = some (num k) := numbers_eq k
theorem node_eq : ∀ (F : Nat), fare_Cond_node_n F = fishref2_nodeFault_n F
  | 0 => rfl
  | F + 1 => by
    funext c
    show fare_Cond_node_step (fare_Cond_node_n F) c = fishref2_nodeFault_step (fishref2_nodeFault_n F) c
    rw [node_eq F]
    have hb : fare_Cond_node_b1 (fishref2_nodeFault_n F) = fishref2_nodeFault_b1 (fishref2_nodeFault_n F) := rfl
    unfold fare_Cond_node_step fishref2_nodeFault_step
    rw [hb]
    simp only [fwithin_eq, rwithin_eq, numbers_eq, rnumbers_eq, Option.bind_some]
    by_cases h1 : 0 ≤ c.Kind ∧ c.Kind ≤ 11
    · rw [decide_eq_true h1, Bool.not_true, ifb_false, ifb_false]
      refine congrArg (Option.bind _) (funext fun s25 => ?_)
      cases s25 with
      | true => rfl
      | false =>
        rw [ifb_false, ifb_false]
        refine congrArg (Option.bind _) (funext fun s28 => ?_)
        cases s28 with
        | true => rfl
        | false =>
          generalize forX (fishref2_nodeFault_b1 (fishref2_nodeFault_n F)) c.Kids () = W
          by_cases k9 : c.Kind = 9
          · rw [k9]
            by_cases hl : (c.Kids.length : Int) = 1
            · rw [hl]; simp [ifb, Ctl.on]
            · rw [show ((c.Kids.length : Int) != 1) = true from bne_iff_ne.2 hl]; simp [ifb, Ctl.on]
          · by_cases kg : 9 < c.Kind
            · have : c.Kind = 10 ∨ c.Kind = 11 := by omega
              rcases this with e | e <;> rw [e] <;> by_cases hl : (c.Kids.length : Int) < 2 <;> simp [ifb, hl, Ctl.on]
            · have e1 : c.Kind ≠ 10 := by omega
              have e2 : c.Kind ≠ 11 := by omega
              have e3 : c.Kind < 9 := by omega
              rw [show (c.Kind == 9) = false from beq_eq_false_iff_ne.2 k9, show (c.Kind == 10) = false from beq_eq_false_iff_ne.2 e1, show (c.Kind == 11) = false from beq_eq_false_iff_ne.2 e2]
              by_cases hl : 0 < c.Kids.length <;> simp [ifb, hl, Ctl.on, e3, kg]
    · rw [decide_eq_false h1]
      rfl
theorem node_tot : ∀ (F : Nat) (c : Cond) (n d : Int), Sz c n d → d ≤ F → Tot (fare_Cond_node_n F c) fun e => e = 0 → Ok c
  | 0, c, n, d, h, h2 => by have := sz_bounds c h; omega
  | F + 1, c, n, d, h, h2 => by
    show Tot (fare_Cond_node_step (fare_Cond_node_n F) c) _
    unfold fare_Cond_node_step
    simp only [fwithin_eq, numbers_eq, Option.bind_some]
    refine tot_ifb (fun _ => tot_some fun e => by omega) fun h1 => ?_
    simp only [Bool.not_eq_false', decide_eq_true_eq] at h1
    refine tot_bind (P := fun _ => True) ?_ fun s _ _ => ?_
    · exact tot_ifb (fun _ => tot_some trivial) fun _ => tot_some trivial
    refine tot_ifb (fun _ => tot_some fun e => by omega) fun _ => ?_
    refine tot_bind (P := fun _ => True) ?_ fun s _ _ => ?_
    · refine tot_ifb (fun _ => ?_) fun _ => ?_
      · refine tot_ifb (fun _ => tot_some trivial) fun _ => tot_ifb (fun _ => ?_) fun _ => tot_ifb (fun _ => tot_some trivial) fun _ => tot_some trivial
        exact tot_ifb (fun _ => tot_some trivial) fun _ => tot_ifb (fun _ => tot_some trivial) fun _ => tot_some trivial
      · refine tot_ifb (fun _ => ?_) fun _ => tot_ifb (fun _ => tot_some trivial) fun _ => tot_some trivial
        exact tot_ifb (fun _ => tot_some trivial) fun _ => tot_ifb (fun _ => tot_some trivial) fun _ => tot_some trivial
    refine tot_ifb (fun _ => tot_some fun e => by omega) fun _ => ?_
    refine tot_bind (P := fun s => s = false → Loc c) ?_ fun s _ hs => ?_
    · by_cases k9 : c.Kind = 9
      · rw [k9]
        by_cases hl : (c.Kids.length : Int) = 1
        · refine tot_of (x := false) ?_ fun _ => ⟨h1, fun _ => by omega⟩
          rw [hl]; simp [ifb]
        · refine tot_of (x := true) ?_ fun h => by cases h
          rw [show ((c.Kids.length : Int) != 1) = true from bne_iff_ne.2 hl]; simp [ifb]
      · have hloc : Loc c := ⟨h1, fun e => absurd e k9⟩
        have e : (c.Kind == 9) = false := by simpa using k9
        rw [e, ifb_false]
        refine tot_ifb (fun _ => ?_) fun _ => ?_
        · refine tot_ifb (fun _ => tot_some fun _ => hloc) fun _ => ?_
          exact tot_ifb (fun _ => tot_some fun _ => hloc) fun _ => tot_some fun _ => hloc
        · exact tot_ifb (fun _ => tot_some fun _ => hloc) fun _ => tot_some fun _ => hloc
    refine tot_ifb (fun _ => tot_some fun e => by omega) fun hf => ?_
    have hloc := hs hf
    refine tot_allX (P := fun _ k => Ok k) (E := fun e => e ≠ 0) (fun i x hx => ?_) (fun h => tot_some fun _ => .mk c hloc (mem_of_all h)) (fun e he => tot_some fun h => absurd h he)
    obtain ⟨n', d', k1, k2, k3⟩ := h.kid (List.mem_of_getElem? hx)
    unfold fare_Cond_node_b1
    rw [eta]
    refine tot_bind (node_tot F x n' d' k1 (by omega)) fun e _ he => ?_
    refine tot_ifb (fun hne => tot_some ?_) fun hne => tot_some (he (by simpa using hne))
    simpa using hne
/-- a condition that may be -/
structure CondOk (c : Cond) : Prop where
  ok : Ok c
  sz : ∃ n d, Sz c n d ∧ n ≤ 40 ∧ d ≤ 6
  fault : fare_Cond_check c = some 0
theorem condFault_tot (c : Cond) : Tot (fishref2_CondFault c) fun e => e = 0 → CondOk c := by
  unfold fishref2_CondFault
  rw [eta]
  refine tot_bind (shape_tot bigN c 40 (by omega) (by omega) (by unfold bigN; omega)) fun r _ hr => ?_
  obtain ⟨lv, lf⟩ := r
  obtain ⟨k1, k2, k3, k4, k5⟩ := hr
  dsimp only at k1 k2 k3 k4 k5
  refine tot_bind (P := fun b => b = false → 0 ≤ lf ∧ lv ≤ 6) ?_ fun b _ hb => ?_
  · refine tot_ifb (fun _ => tot_some fun h => by cases h) fun h1 => tot_some fun h2 => ?_
    have h1 : ¬ lf < 0 := of_decide_eq_false h1
    have h2 : ¬ lv > 6 := of_decide_eq_false h2
    omega
  refine tot_ifb (fun _ => tot_some fun e => by omega) fun hf => ?_
  obtain ⟨h1, h2⟩ := hb hf
  obtain ⟨n, hsz, hn⟩ := k5 h1
  have hnf : fishref2_nodeFault c = fare_Cond_node c := by
    show fishref2_nodeFault_n bigN c = fare_Cond_node_n bigN c
    rw [node_eq]
  rw [hnf]
  refine tot_bind (node_tot bigN c n lv hsz (by unfold bigN; omega)) fun e he hok => tot_some fun e0 => ?_
  subst e0
  refine ⟨hok rfl, ⟨n, lv, hsz, by omega, h2⟩, ?_⟩
  unfold fare_Cond_check
  rw [eta]
  have hsize : fare_Cond_size c = some (n, lv) := size_tot bigN c n lv hsz (by omega) (by unfold bigN; omega)
  rw [hsize, Option.bind_some]
  dsimp only
  rw [decide_eq_false (by omega : ¬ n > 40), decide_eq_false (by omega : ¬ lv > 6)]
  show ((fare_Cond_node c).bind fun x6 => some x6) = some 0
  have he : fare_Cond_node c = some 0 := he
  rw [he]
  rfl

/-! ### a condition holds or not -/
theorem index_tot (xs : List Int) (v : Int) : Tot (slices_Contains_int_int xs v) fun r => (r = true ↔ v ∈ xs) := by
  unfold slices_Contains_int_int slices_Index_int_int
  refine tot_bind (P := fun r => (0 ≤ r ∧ v ∈ xs) ∨ (r = -1 ∧ v ∉ xs)) ?_ fun r _ hr => tot_some ?_
  · refine tot_allX (P := fun _ x => v ≠ x) (E := fun r => 0 ≤ r ∧ v ∈ xs) (fun i x hx => ?_) (fun h => tot_some (Or.inr ⟨rfl, fun hm => ?_⟩)) (fun y hy => tot_some (Or.inl hy))
    · unfold slices_Index_int_int_b1
      refine tot_ifb (fun he => tot_some ?_) fun he => tot_some ?_
      · have he := beq_iff_eq.1 he
        subst he
        exact ⟨Int.natCast_nonneg _, List.mem_of_getElem? hx⟩
      · exact fun h => by rw [h] at he; simp at he
    · obtain ⟨i, hi⟩ := List.getElem?_of_mem hm
      exact h i v hi rfl
  · rcases hr with ⟨h1, h2⟩ | ⟨h1, h2⟩
    · simp [h1, h2]
    · subst h1; simp [h2]
theorem holds_tot (r : S_fare_Trip) (hr : 1 ≤ r.Zones.length ∧ r.Zones.length ≤ 10) : ∀ (F : Nat) (c : Cond) (n d : Int), Sz c n d → d ≤ F → Ok c → Tot (fare_Cond_holds_n F c r) fun _ => True
  | 0, c, n, d, h, h2, _ => by have := sz_bounds c h; omega
  | F + 1, c, n, d, h, h2, hok => by
    have kid : ∀ k ∈ c.Kids, Tot (fare_Cond_holds_n F k r) fun _ => True := fun k hk => by
      obtain ⟨n', d', k1, k2, k3⟩ := h.kid hk
      exact holds_tot r hr F k n' d' k1 (by omega) (hok.kid hk)
    have h1 : ∀ x : Int, Tot ((fare_Cond_holds_1 x (some c)).bind fun (y : Bool) => some y) fun _ => True := fun x => by
      unfold fare_Cond_holds_1
      rw [Option.bind_some, Option.bind_some, fwithin_eq]
      exact tot_some trivial
    show Tot (fare_Cond_holds_step (fare_Cond_holds_n F) c r) _
    unfold fare_Cond_holds_step
    rw [eta]
    refine tot_ifb (fun _ => tot_some trivial) fun _ => tot_ifb (fun _ => h1 _) fun _ => tot_ifb (fun _ => h1 _) fun _ => tot_ifb (fun _ => h1 _) fun _ => tot_ifb (fun _ => h1 _) fun _ => ?_
    refine tot_ifb (fun _ => tot_bind (index_tot _ _) fun _ _ _ => tot_some trivial) fun _ => ?_
    refine tot_ifb (fun _ => ?_) fun _ => tot_ifb (fun _ => ?_) fun _ => tot_ifb (fun h9 => ?_) fun _ => tot_ifb (fun _ => ?_) fun _ => tot_ifb (fun _ => ?_) fun _ => tot_some trivial
    · rw [idx_nth 0 (by omega) (by omega), Option.bind_some]; exact tot_some trivial
    · rw [w64_id (by omega) (by omega), idx_nth 0 (by omega) (by omega), Option.bind_some]; exact tot_some trivial
    · have h9 : c.Kind = 9 := beq_iff_eq.1 h9
      have hl := hok.loc.not h9
      rw [idx_nth c (by omega) (by omega), Option.bind_some, eta]
      exact tot_bind (kid _ (nth_mem c (by omega) (by omega))) fun _ _ _ => tot_some trivial
    · refine tot_bind (P := fun _ => True) ?_ fun _ _ _ => tot_some trivial
      unfold slices_ContainsFunc_fare_Cond_fare_Cond slices_IndexFunc_fare_Cond_fare_Cond
      refine tot_bind (P := fun _ => True) ?_ fun _ _ _ => tot_some trivial
      refine tot_allX (P := fun _ _ => True) (E := fun _ => True) (fun i x hx => ?_) (fun _ => tot_some trivial) (fun _ _ => tot_some trivial)
      unfold slices_IndexFunc_fare_Cond_fare_Cond_b1 fare_Cond_holds_2
      rw [Option.bind_some, eta, eta]
      refine tot_bind (P := fun _ => True) (tot_bind (kid x (List.mem_of_getElem? hx)) fun _ _ _ => tot_some trivial) fun _ _ _ => ?_
      exact tot_ifb (fun _ => tot_some trivial) fun _ => tot_some trivial
    · refine tot_bind (P := fun _ => True) ?_ fun _ _ _ => tot_some trivial
      unfold slices_ContainsFunc_fare_Cond_fare_Cond_v2 slices_IndexFunc_fare_Cond_fare_Cond_v2
      refine tot_bind (P := fun _ => True) ?_ fun _ _ _ => tot_some trivial
      refine tot_allX (P := fun _ _ => True) (E := fun _ => True) (fun i x hx => ?_) (fun _ => tot_some trivial) (fun _ _ => tot_some trivial)
      unfold slices_IndexFunc_fare_Cond_fare_Cond_v2_b1 fare_Cond_holds_3
      rw [Option.bind_some, eta, eta]
      refine tot_bind (P := fun _ => True) (tot_bind (kid x (List.mem_of_getElem? hx)) fun _ _ _ => tot_some trivial) fun _ _ _ => ?_
      exact tot_ifb (fun _ => tot_some trivial) fun _ => tot_some trivial
theorem CondOk.holds {c : Cond} (h : CondOk c) {r : S_fare_Trip} (hr : 1 ≤ r.Zones.length ∧ r.Zones.length ≤ 10) : Tot (fare_Cond_holds c r) fun _ => True := by
  obtain ⟨n, d, h1, h2, h3⟩ := h.sz
  exact holds_tot r hr bigN c n d h1 (by unfold bigN; omega) h.ok
end Wr

/- FareLess: tariffs, trips and passes that may be; the price of a trip. -/
set_option linter.unusedVariables false
set_option linter.unusedSimpArgs false
set_option maxRecDepth 100000
namespace Wr
open Go Hk Hd Pl

theorem gapp_ok {α : Type} {b : Nat} {xs ys : List α} (h : (xs.length + ys.length) * b ≤ 1000000) (h2 : xs.length + ys.length ≤ 1000000) : gapp b xs ys = some (xs ++ ys) := by
  unfold gapp
  rw [if_pos ⟨Nat.le_trans h (by unfold apRoom; omega), Nat.le_trans h2 (by unfold maxLen; omega)⟩]
/-- all went through, or it was left -/
def AllE {α X : Type} (xs : List α) (P : Nat → α → Prop) (E : X → Prop) : Ctl Unit X → Prop
  | .go _ => ∀ (i : Nat) x, xs[i]? = some x → P i x
  | .out y => E y
theorem forX_all {α X : Type} {body : Nat → α → Unit → Option (Ctl Unit (Ctl Unit X))} {xs : List α} (P : Nat → α → Prop) (E : X → Prop)
    (hstep : ∀ i x, xs[i]? = some x → Tot (body i x ()) (fun c => match c with | .go _ => P i x | .out (.go _) => False | .out (.out y) => E y)) :
    Tot (forX body xs ()) (AllE xs P E) := by
  have h := tot_allX (body := body) (xs := xs) (F := fun _ => some (Ctl.go ())) (H := fun y => some (Ctl.out y)) (Q := AllE xs P E) P E hstep (fun h => tot_some h) (fun y h => tot_some h)
  have e : ((forX body xs ()).bind fun c => Ctl.on c (fun _ => some (Ctl.go ())) fun y => some (Ctl.out y)) = forX body xs () := by
    cases forX body xs () with
    | none => rfl
    | some c => cases c <;> rfl
  rw [e] at h
  exact h

/-! ### tariffs -/
structure RuleOk (x : S_fare_Rule) : Prop where
  cond : CondOk x.If
  deed : 1 ≤ x.Do ∧ x.Do ≤ 6
  num : 0 ≤ x.N ∧ x.N ≤ 100000
  pc : x.Do = 1 → x.N ≤ 200
structure TariffOk (t : S_fare_Tariff) : Prop where
  bands : 1 ≤ t.Bands.length ∧ t.Bands.length ≤ 8
  band : ∀ b ∈ t.Bands, 0 ≤ b.Price ∧ b.Price ≤ 100000
  round : 1 ≤ t.Round ∧ t.Round ≤ 100
  rules : t.Rules.length ≤ 20
  rule : ∀ x ∈ t.Rules, RuleOk x
  check : fare_CheckTariff t = some 0
theorem bands_tot (t : S_fare_Tariff) (hl : t.Bands.length ≤ 8) : Tot (forX (fishref2_TariffFault_b1 t) t.Bands ()) (AllE t.Bands (fun _ b => 0 ≤ b.Price ∧ b.Price ≤ 100000) (fun e => e ≠ 0)) := by
  refine forX_all _ _ fun i b hb => ?_
  have hi := (List.getElem?_eq_some_iff.1 hb).1
  unfold fishref2_TariffFault_b1
  refine tot_bind (P := fun s => s = false → 0 ≤ b.Price ∧ b.Price ≤ 100000) ?_ fun s _ hs => ?_
  · rw [rwithin_eq, Option.bind_some]
    refine tot_ifb (fun _ => tot_some fun h => by cases h) fun _ => ?_
    rw [rwithin_eq, Option.bind_some]
    exact tot_some fun h => by simpa using h
  refine tot_ifb (fun _ => tot_some (by show (2 : Int) ≠ 0; decide)) fun hf => ?_
  refine tot_bind (P := fun _ => True) ?_ fun s _ _ => ?_
  · refine tot_ifb (fun h => ?_) fun _ => tot_some trivial
    have h : (i : Int) > 0 := of_decide_eq_true h
    rw [w64_id (by omega) (by omega), idx_nth b (by omega) (by omega), Option.bind_some, Option.bind_some]
    exact tot_ifb (fun _ => tot_some trivial) fun _ => tot_some trivial
  · exact tot_ifb (fun _ => tot_some (by show (1 : Int) ≠ 0; decide)) fun _ => tot_some (hs hf)
theorem rules_tot (l : List S_fare_Rule) : Tot (forX fishref2_TariffFault_b2 l ()) (AllE l (fun _ x => RuleOk x) (fun e => e ≠ 0)) := by
  refine forX_all _ _ fun i x hx => ?_
  unfold fishref2_TariffFault_b2
  rw [eta]
  refine tot_bind (condFault_tot x.If) fun e _ he => ?_
  refine tot_ifb (fun h => tot_some (by simpa using h)) fun h => ?_
  have hc := he (by simpa using h)
  rw [rwithin_eq, Option.bind_some]
  refine tot_ifb (fun _ => tot_some (by show (15 : Int) ≠ 0; decide)) fun h1 => ?_
  simp only [Bool.not_eq_false', decide_eq_true_eq] at h1
  refine tot_bind (P := fun m => (x.Do = 1 ∧ m = 200) ∨ (x.Do ≠ 1 ∧ m = 100000)) ?_ fun m _ hm => ?_
  · exact tot_ifb (fun h => tot_some (.inl ⟨by simpa using h, rfl⟩)) fun h => tot_some (.inr ⟨by simpa using h, rfl⟩)
  rw [rwithin_eq, Option.bind_some]
  refine tot_ifb (fun _ => tot_some (by show (2 : Int) ≠ 0; decide)) fun h2 => tot_some ⟨hc, h1, ?_, ?_⟩
  · simp only [Bool.not_eq_false', decide_eq_true_eq] at h2; omega
  · simp only [Bool.not_eq_false', decide_eq_true_eq] at h2; omega
theorem rules_check {l : List S_fare_Rule} (h : ∀ (i : Nat) x, l[i]? = some x → RuleOk x) : Tot (forX fare_CheckTariff_b2 l ()) (AllE l (fun _ _ => True) (fun _ => False)) := by
  refine forX_all _ _ fun i x hx => ?_
  have hr := h i x hx
  unfold fare_CheckTariff_b2
  rw [eta, hr.cond.fault, Option.bind_some]
  refine tot_ifb (fun h => absurd h (by decide)) fun _ => ?_
  refine tot_bind (P := fun m => (x.Do = 1 ∧ m = 200) ∨ (x.Do ≠ 1 ∧ m = 100000)) ?_ fun m _ hm => ?_
  · exact tot_ifb (fun h => tot_some (.inl ⟨by simpa using h, rfl⟩)) fun h => tot_some (.inr ⟨by simpa using h, rfl⟩)
  rw [fwithin_eq, Option.bind_some, decide_eq_true hr.deed]
  refine tot_ifb (fun h => by cases h) fun _ => ?_
  have hn : 0 ≤ x.N ∧ x.N ≤ m := by
    have := hr.num
    rcases hm with ⟨a, b⟩ | ⟨a, b⟩
    · have := hr.pc a; omega
    · omega
  rw [fwithin_eq, Option.bind_some, decide_eq_true hn]
  exact tot_ifb (fun h => by cases h) fun _ => tot_some trivial
theorem tariff_tot (t : S_fare_Tariff) : Tot (fishref2_TariffFault t) fun e => e = 0 → TariffOk t := by
  unfold fishref2_TariffFault
  refine tot_bind (P := fun b => (b = true ∨ (b = false ∧ (1 ≤ t.Bands.length ∧ t.Bands.length ≤ 8) ∧ t.Rules.length ≤ 20 ∧ ((fare_within ((t.Bands.length) : Int) 1 8).bind fun (x12 : Bool) => (ifb (!x12) (some true) (some (decide (((t.Rules.length) : Int) > 20))))) = some false))) ?_ fun b _ hb => ?_
  · rw [rwithin_eq, fwithin_eq, Option.bind_some]
    refine tot_ifb (fun _ => tot_some (.inl rfl)) fun h1 => ?_
    have h1' := h1
    simp only [Bool.not_eq_false', decide_eq_true_eq] at h1
    refine tot_some ?_
    by_cases h2 : ((t.Rules.length : Int) > 20)
    · exact .inl (decide_eq_true h2)
    · refine .inr ⟨decide_eq_false h2, by omega, by omega, ?_⟩
      rw [h1', ifb_false, decide_eq_false h2]
  rcases hb with rfl | ⟨rfl, hb1, hb2, hb3⟩
  · exact tot_some fun h => by cases h
  rw [ifb_false]
  refine tot_bind (bands_tot t hb1.2) fun c hc1 hc => ?_
  cases c with
  | out e => exact tot_some fun h => absurd h hc
  | go u =>
    have hc : ∀ (i : Nat) b, t.Bands[i]? = some b → 0 ≤ b.Price ∧ b.Price ≤ 100000 := hc
    refine tot_bind (P := fun b => b = true ↔ (1 ≤ t.Round ∧ t.Round ≤ 100)) (by rw [rwithin_eq]; exact tot_some (by simp)) fun b _ hb => ?_
    refine tot_ifb (fun _ => tot_some fun h => by cases h) fun hr => ?_
    have hround := hb.1 (by simpa using hr)
    refine tot_bind (rules_tot t.Rules) fun c _ hrl => ?_
    cases c with
    | out e => exact tot_some fun h => absurd h hrl
    | go u2 =>
      have hrl : ∀ (i : Nat) x, t.Rules[i]? = some x → RuleOk x := hrl
      refine tot_some fun _ => ⟨hb1, mem_of_all hc, hround, hb2, mem_of_all hrl, ?_⟩
      unfold fare_CheckTariff
      rw [hb3, Option.bind_some, ifb_false]
      have e1 : forX (fare_CheckTariff_b1 t) t.Bands () = some (.go u) := hc1
      rw [e1, Option.bind_some]
      show ((fare_within t.Round 1 100).bind _) = _
      rw [fwithin_eq, Option.bind_some, decide_eq_true hround, Bool.not_true, ifb_false]
      obtain ⟨c, hc2, hc3⟩ := rules_check hrl
      rw [hc2]
      cases c with
      | out e => exact hc3.elim
      | go u => rfl

/-! ### trips, passes -/
structure TripOk (r : S_fare_Trip) : Prop where
  zones : 1 ≤ r.Zones.length ∧ r.Zones.length ≤ 10
  check : fare_CheckTrip r = some 0
theorem zb1 (r : S_fare_Trip) : fare_checkZones_b1 r.Zones false = fishref2_TripFault_b1 r := by
  funext i x s
  unfold fare_checkZones_b1 fishref2_TripFault_b1
  simp only [fwithin_eq, rwithin_eq, Option.bind_some]
  have : ∀ y : Int, (ifb (x == y) (some true) (ifb false ((idx r.Zones (w64 ((i : Int) - 1))).bind fun (x14 : Int) => (some (decide (x < x14)))) (some false))) = some (x == y) := fun y => by cases x == y <;> rfl
  simp only [this]
theorem trip_eq (r : S_fare_Trip) : fare_CheckTrip r = fishref2_TripFault r := by
  unfold fare_CheckTrip fishref2_TripFault fare_checkZones
  simp only [fwithin_eq, rwithin_eq, Option.bind_some, zb1]
  have e : ∀ o : Option Int, (o.bind fun x => some x) = o := fun o => by cases o <;> rfl
  simp only [e]
theorem trip_tot (r : S_fare_Trip) : Tot (fishref2_TripFault r) fun e => e = 0 → TripOk r := by
  have key : Tot (fishref2_TripFault r) fun e => e = 0 → 1 ≤ r.Zones.length ∧ r.Zones.length ≤ 10 := by
    unfold fishref2_TripFault
    refine tot_bind (P := fun _ => True) ?_ fun b _ _ => ?_
    · rw [rwithin_eq, Option.bind_some]
      refine tot_ifb (fun _ => tot_some trivial) fun _ => ?_
      rw [rwithin_eq, Option.bind_some]
      refine tot_ifb (fun _ => tot_some trivial) fun _ => ?_
      rw [rwithin_eq, Option.bind_some]
      refine tot_ifb (fun _ => tot_some trivial) fun _ => ?_
      rw [rwithin_eq, Option.bind_some]
      exact tot_some trivial
    refine tot_ifb (fun _ => tot_some fun h => by cases h) fun _ => ?_
    rw [rwithin_eq, Option.bind_some]
    refine tot_ifb (fun _ => tot_some fun h => by cases h) fun h1 => ?_
    simp only [Bool.not_eq_false', decide_eq_true_eq] at h1
    refine tot_allX (P := fun _ _ => True) (E := fun e => e ≠ 0) (fun i x hx => ?_) (fun _ => tot_some fun _ => by omega) (fun e he => tot_some fun h => absurd h he)
    have hi := (List.getElem?_eq_some_iff.1 hx).1
    unfold fishref2_TripFault_b1
    rw [rwithin_eq, Option.bind_some]
    refine tot_ifb (fun _ => tot_some (by show (2 : Int) ≠ 0; decide)) fun _ => ?_
    refine tot_bind (P := fun _ => True) ?_ fun s _ _ => tot_ifb (fun _ => tot_some (by show (1 : Int) ≠ 0; decide)) fun _ => tot_some trivial
    refine tot_ifb (fun h => ?_) fun _ => tot_some trivial
    have h : (i : Int) > 0 := of_decide_eq_true h
    rw [w64_id (by omega) (by omega), idx_nth 0 (by omega) (by omega), Option.bind_some]
    exact tot_some trivial
  obtain ⟨e, h1, h2⟩ := key
  exact ⟨e, h1, fun h0 => ⟨h2 h0, by rw [trip_eq, h1, h0]⟩⟩
structure PassOk (p : S_fare_Pass) : Prop where
  days : 1 ≤ p.Days ∧ p.Days ≤ 7
  price : 0 ≤ p.Price ∧ p.Price ≤ 100000
  zones : fare_checkZones p.Zones true = some 0
theorem zb2 (p : S_fare_Pass) : fare_checkZones_b1 p.Zones true = fishref2_CheapestFault_b3 p := by
  funext i x s
  unfold fare_checkZones_b1 fishref2_CheapestFault_b3
  simp only [fwithin_eq, rwithin_eq, Option.bind_some]
  have : ((idx p.Zones (w64 ((i : Int) - 1))).bind fun (y : Int) => (ifb (x == y) (some true) (ifb true ((idx p.Zones (w64 ((i : Int) - 1))).bind fun (x14 : Int) => (some (decide (x < x14)))) (some false)))) =
      ((idx p.Zones (w64 ((i : Int) - 1))).bind fun (y : Int) => some (decide (x ≤ y))) := by
    cases idx p.Zones (w64 ((i : Int) - 1)) with
    | none => rfl
    | some y =>
      simp only [Option.bind_some, ifb_true]
      by_cases h : x = y
      · subst h; simp [ifb]
      · rw [show (x == y) = false from beq_eq_false_iff_ne.2 h, ifb_false]
        by_cases h2 : x < y
        · rw [decide_eq_true h2, decide_eq_true (by omega)]
        · rw [decide_eq_false h2, decide_eq_false (by omega)]
  simp only [this]
theorem pass_tot {p : S_fare_Pass} (hz : p.Zones.length ≤ maxLen) (i : Nat) : Tot (fishref2_CheapestFault_b2 i p ()) fun c => match c with | .go _ => PassOk p | .out (.go _) => False | .out (.out e) => e ≠ 0 := by
  unfold fishref2_CheapestFault_b2
  refine tot_bind (P := fun b => b = false → (1 ≤ p.Days ∧ p.Days ≤ 7) ∧ (0 ≤ p.Price ∧ p.Price ≤ 100000)) ?_ fun b _ hb => ?_
  · rw [rwithin_eq, Option.bind_some]
    refine tot_ifb (fun _ => tot_some fun h => by cases h) fun h1 => ?_
    rw [rwithin_eq, Option.bind_some]
    refine tot_some fun h2 => ⟨by simpa using h1, by simpa using h2⟩
  refine tot_ifb (fun _ => tot_some (by show (2 : Int) ≠ 0; decide)) fun hf => ?_
  obtain ⟨h1, h2⟩ := hb hf
  have hz' : p.Zones.length ≤ 9223372036854775807 := by unfold maxLen at hz; omega
  have key := forX_all (body := fishref2_CheapestFault_b3 p) (xs := p.Zones) (fun _ _ => True) (fun e => e ≠ 0) fun i x hx => by
    have hi := (List.getElem?_eq_some_iff.1 hx).1
    unfold fishref2_CheapestFault_b3
    rw [rwithin_eq, Option.bind_some]
    refine tot_ifb (fun _ => tot_some (by show (2 : Int) ≠ 0; decide)) fun _ => ?_
    refine tot_bind (P := fun _ => True) ?_ fun s _ _ => tot_ifb (fun _ => tot_some (by show (1 : Int) ≠ 0; decide)) fun _ => tot_some trivial
    refine tot_ifb (fun h => ?_) fun _ => tot_some trivial
    have h : (i : Int) > 0 := of_decide_eq_true h
    rw [w64_id (by omega) (by omega), idx_nth 0 (by omega) (by omega), Option.bind_some]
    exact tot_some trivial
  refine tot_bind key fun c hc1 hc => ?_
  cases c with
  | out e => exact tot_some hc
  | go u =>
    refine tot_some ⟨h1, h2, ?_⟩
    unfold fare_checkZones
    rw [zb2, hc1]
    rfl
theorem fault_tot {t : S_fare_Tariff} {l : List S_fare_Trip} {ps : List S_fare_Pass} (hz : ∀ p ∈ ps, p.Zones.length ≤ maxLen) : Tot (fishref2_CheapestFault t l ps) fun e => e = 0 → TariffOk t ∧ l.length ≤ 12 ∧ (∀ r ∈ l, TripOk r) ∧ ∀ p ∈ ps, PassOk p := by
  unfold fishref2_CheapestFault
  refine tot_bind (tariff_tot t) fun e _ he => ?_
  refine tot_ifb (fun h => tot_some fun h0 => absurd h0 (by simpa using h)) fun h0 => ?_
  have ht := he (by simpa using h0)
  refine tot_bind (P := fun b => b = false → l.length ≤ 12) ?_ fun b _ hb => ?_
  · refine tot_ifb (fun _ => tot_some fun h => by cases h) fun h1 => tot_some fun _ => ?_
    have h1 : ¬ ((l.length : Int) > 12) := of_decide_eq_false h1
    omega
  refine tot_ifb (fun _ => tot_some fun h => by cases h) fun hf => ?_
  have hl := hb hf
  refine tot_allX (P := fun _ r => TripOk r) (E := fun e => e ≠ 0) (fun i x hx => ?_) (fun h1 => ?_) (fun e he => tot_some fun h => absurd h he)
  · unfold fishref2_CheapestFault_b1
    refine tot_bind (trip_tot x) fun e _ he => ?_
    exact tot_ifb (fun h => tot_some (by simpa using h)) fun h => tot_some (he (by simpa using h))
  · refine tot_allX (P := fun _ p => PassOk p) (E := fun e => e ≠ 0) (fun i x hx => tot_mono (pass_tot (hz x (List.mem_of_getElem? hx)) i) fun c hc => by rcases c with _ | (_ | e) <;> exact hc) (fun h2 => tot_some fun _ => ⟨ht, hl, mem_of_all h1, mem_of_all h2⟩) (fun e he => tot_some fun h => absurd h he)

/-! ### the price of a trip -/
theorem change_tot {x : S_fare_Rule} (h : RuleOk x) {p : Int} (h0 : 0 ≤ p) (h1 : p ≤ 100000) : Tot (fare_Rule_change x p) fun q => 0 ≤ q ∧ q ≤ 100000 := by
  have hn := h.num
  unfold fare_Rule_change
  refine tot_ifb (fun hd => ?_) fun _ => ?_
  · have hd := h.pc (beq_iff_eq.1 hd)
    have m0 := Int.mul_nonneg h0 hn.1
    have m1 : p * x.N ≤ 100000 * 200 := Int.mul_le_mul h1 hd hn.1 (by omega)
    unfold gquoK
    rw [if_neg (by decide), w64_id (by omega) (by omega), Int.tdiv_eq_ediv_of_nonneg m0, Option.bind_some]
    have e : IntKind.i64.wrap (p * x.N / 100) = p * x.N / 100 := w64_id (by omega) (by omega)
    rw [e]
    refine tot_some ?_
    unfold gmin; split <;> omega
  refine tot_ifb (fun _ => tot_some ?_) fun _ => tot_ifb (fun _ => tot_some ?_) fun _ => tot_ifb (fun _ => tot_some hn) fun _ => tot_ifb (fun _ => tot_some ?_) fun _ => tot_some ?_
  · rw [w64_id (by omega) (by omega), gmax_eq]; omega
  · rw [w64_id (by omega) (by omega)]; unfold gmin; split <;> omega
  · unfold gmin; split <;> omega
  · rw [gmax_eq]; omega
theorem price_tot {t : S_fare_Tariff} (ht : TariffOk t) {r : S_fare_Trip} (hr : TripOk r) : Tot (fare_Tariff_price t r) fun v => 0 ≤ v.1 ∧ v.1 ≤ 100100 := by
  have hb := ht.bands
  have hR := ht.round
  unfold fare_Tariff_price
  refine tot_bind (P := fun _ => True) ?_ fun n _ _ => ?_
  · exact tot_ifb (fun _ => tot_some trivial) fun _ => tot_some trivial
  refine tot_bind (P := fun (i : Int) => i = -1 ∨ (0 ≤ i ∧ i < t.Bands.length)) ?_ fun i _ hi => ?_
  · unfold slices_IndexFunc_fare_Band_fare_Band
    refine tot_allX (P := fun _ _ => True) (E := fun i => 0 ≤ i ∧ i < (t.Bands.length : Int)) (fun i x hx => ?_) (fun _ => tot_some (.inl rfl)) (fun i h => tot_some (.inr h))
    have hi := (List.getElem?_eq_some_iff.1 hx).1
    unfold slices_IndexFunc_fare_Band_fare_Band_b1 fare_Tariff_price_1
    rw [Option.bind_some, Option.bind_some]
    exact tot_ifb (fun _ => tot_some ⟨by omega, by omega⟩) fun _ => tot_some trivial
  refine tot_bind (P := fun (i : Int) => 0 ≤ i ∧ i < t.Bands.length) ?_ fun i _ hi => ?_
  · refine tot_ifb (fun _ => tot_some ?_) fun h => tot_some ?_
    · rw [w64_id (by omega) (by omega)]; omega
    · have h : ¬ i < 0 := of_decide_eq_false h; omega
  have hm := nth_mem (⟨0, 0⟩ : S_fare_Band) hi.1 hi.2
  have hp := ht.band _ hm
  rw [idx_nth (⟨0, 0⟩ : S_fare_Band) hi.1 hi.2, Option.bind_some]
  refine tot_loopX (I := fun k s => (0 ≤ s.1 ∧ s.1 ≤ 100000) ∧ s.2.length ≤ k) (J := fun s => 0 ≤ s.1 ∧ s.1 ≤ 100000) (E := fun _ => False) ⟨hp, by simp⟩ ?_ (fun s h => h.1) ?_ (fun _ h => h.elim)
  · rintro k x ⟨p, ks⟩ hx ⟨hI1, hI2⟩
    dsimp only at hI1 hI2
    have hk := (List.getElem?_eq_some_iff.1 hx).1
    have hrl := ht.rules
    have hrule := ht.rule x (List.mem_of_getElem? hx)
    unfold fare_Tariff_price_b1
    rw [eta]
    refine tot_bind (hrule.cond.holds hr.zones) fun b _ _ => ?_
    refine tot_ifb (fun _ => tot_some ⟨hI1, by dsimp only; omega⟩) fun _ => ?_
    dsimp only
    rw [gapp_ok (by simp; omega) (by simp; omega), Option.bind_some]
    refine tot_bind (change_tot hrule hI1.1 hI1.2) fun q _ hq => ?_
    exact tot_ifb (fun _ => tot_some hq) fun _ => tot_some ⟨hq, by simp; omega⟩
  · rintro ⟨p, ks⟩ hJ
    dsimp only at hJ
    unfold gquoK
    dsimp only
    rw [if_neg (by omega), w64_id (x := p + t.Round) (by omega) (by omega), w64_id (x := p + t.Round - 1) (by omega) (by omega), Int.tdiv_eq_ediv_of_nonneg (by omega), Option.bind_some]
    have d0 : 0 ≤ (p + t.Round - 1) / t.Round := Int.ediv_nonneg (by omega) (by omega)
    have d1 : (p + t.Round - 1) / t.Round * t.Round ≤ p + t.Round - 1 := Int.ediv_mul_le _ (by omega)
    have d2 : (p + t.Round - 1) / t.Round ≤ p + t.Round - 1 := Int.ediv_le_self _ (by omega)
    have d3 := Int.mul_nonneg d0 (show 0 ≤ t.Round by omega)
    have e : IntKind.i64.wrap ((p + t.Round - 1) / t.Round) = (p + t.Round - 1) / t.Round := w64_id (by omega) (by omega)
    rw [e, w64_id (by omega) (by omega)]
    exact tot_some ⟨d3, by dsimp only; omega⟩
/-- the price -/
def PV (t : S_fare_Tariff) (r : S_fare_Trip) : Int := ((fare_Tariff_price t r).getD (0, [])).1
theorem price_eq {t : S_fare_Tariff} (ht : TariffOk t) {r : S_fare_Trip} (hr : TripOk r) : ∃ ks, fare_Tariff_price t r = some (PV t r, ks) ∧ 0 ≤ PV t r ∧ PV t r ≤ 100100 := by
  obtain ⟨v, h1, h2⟩ := price_tot ht hr
  have e : PV t r = v.1 := by unfold PV; rw [h1]; rfl
  exact ⟨v.2, by rw [h1, e], by rw [e]; exact h2⟩
end Wr

/- FareLess: the cheapest way to pay. -/
set_option linter.unusedVariables false
set_option linter.unusedSimpArgs false
set_option maxRecDepth 100000
namespace Wr
open Go Hk Hd Pl

theorem sum_take {l : List Int} {i : Nat} {x : Int} (h : l[i]? = some x) : (l.take (i + 1)).sum = (l.take i).sum + x := by
  rw [List.take_add_one, h]
  simp
theorem sum_le {b : Int} : ∀ {l : List Int}, (∀ x ∈ l, x ≤ b) → l.sum ≤ l.length * b
  | [], _ => by simp
  | a :: l, h => by
    have h1 := h a (by simp)
    have h2 := sum_le (l := l) (b := b) fun x hx => h x (by simp [hx])
    simp only [List.sum_cons, List.length_cons]
    have : ((l.length + 1 : Nat) : Int) * b = l.length * b + b := by rw [Int.natCast_add, Int.add_mul]; simp
    omega
theorem sum_nonneg : ∀ {l : List Int}, (∀ x ∈ l, 0 ≤ x) → 0 ≤ l.sum
  | [], _ => by simp
  | a :: l, h => by
    have h1 := h a (by simp)
    have h2 := sum_nonneg (l := l) fun x hx => h x (by simp [hx])
    simp only [List.sum_cons]
    omega
theorem sum_mono {α : Type} {f g : α → Int} : ∀ {l : List α}, (∀ x ∈ l, f x ≤ g x) → (l.map f).sum ≤ (l.map g).sum
  | [], _ => by simp
  | a :: l, h => by
    have h1 := h a (by simp)
    have h2 := sum_mono (l := l) fun x hx => h x (by simp [hx])
    simp only [List.map_cons, List.sum_cons]
    omega

/-! ### what is bought -/
def bitOn (s i : Nat) : Bool := (s / 2 ^ i) % 2 == 1
def buysN (m s k : Nat) : List (Nat × Nat) := ((List.range k).filter (bitOn s)).map fun i => (i / m, i % m)
def toBuy (x : Nat × Nat) : S_fare_Buy := ⟨(x.1 : Int), (x.2 : Int)⟩
def buysOf (m s : Nat) : List S_fare_Buy := (buysN m s (7 * m)).map toBuy
theorem buysN_len (m s k : Nat) : (buysN m s k).length ≤ k := by
  unfold buysN
  rw [List.length_map]
  exact Nat.le_trans (List.length_filter_le _ _) (by simp)
theorem buysN_succ (m s k : Nat) : buysN m s (k + 1) = buysN m s k ++ if bitOn s k = true then [(k / m, k % m)] else [] := by
  unfold buysN
  rw [List.range_succ, List.filter_append, List.map_append]
  congr 1
  cases h : bitOn s k <;> simp [h]
theorem buys_mem {m s k : Nat} (hm : 0 < m) (hk : k ≤ 7 * m) {x : Nat × Nat} (h : x ∈ buysN m s k) : x.1 < 7 ∧ x.2 < m := by
  unfold buysN at h
  obtain ⟨i, hi, rfl⟩ := List.mem_map.1 h
  have hi := List.mem_range.1 (List.mem_filter.1 hi).1
  exact ⟨Nat.div_lt_of_lt_mul (by rw [Nat.mul_comm]; omega), Nat.mod_lt _ hm⟩
theorem shr_eq (s i : Nat) (hi : i ≤ 64) : gshr .i64 (s : Int) (i : Int) = some ((s / 2 ^ i : Nat) : Int) := by
  unfold gshr
  rw [if_neg (by omega), Int.toNat_natCast]
  have : min i IntKind.i64.bits = i := by
    show min i 64 = i
    omega
  rw [this, Int.fdiv_eq_ediv_of_nonneg _ (Int.natCast_nonneg _)]
  rfl
theorem and1 (n : Nat) : Hd.iand .i64 (n : Int) 1 = ((n % 2 : Nat) : Int) := by
  show IntKind.i64.wrap (((BitVec.ofInt 64 (n : Int) &&& BitVec.ofInt 64 1 : BitVec 64).toNat : Nat) : Int) = _
  rw [BitVec.ofInt_natCast, BitVec.toNat_and, BitVec.toNat_ofNat]
  have e : (BitVec.ofInt 64 1 : BitVec 64).toNat = 1 := by decide
  rw [e, Nat.and_one_is_mod, Nat.mod_mod_of_dvd _ (by decide : 2 ∣ 2 ^ 64)]
  exact w64_id (by omega) (by omega)
theorem b4_tot {ps : List S_fare_Pass} (hm : 1 ≤ ps.length ∧ ps.length ≤ 2) (s k : Nat) (hk : k < 7 * ps.length) : fare_Cheapest_b4 ps s k ((buysN ps.length s k).map toBuy) = some (.go ((buysN ps.length s (k + 1)).map toBuy)) := by
  have hl := buysN_len ps.length s k
  unfold fare_Cheapest_b4
  rw [shr_eq s k (by omega), Option.bind_some, and1, buysN_succ]
  have e : (((s / 2 ^ k % 2 : Nat) : Int) == 1) = bitOn s k := by
    unfold bitOn
    by_cases h : s / 2 ^ k % 2 = 1
    · rw [h]; rfl
    · rw [beq_eq_false_iff_ne.2 h, beq_eq_false_iff_ne]; omega
  rw [e]
  cases hb : bitOn s k with
  | false => simp [ifb]
  | true =>
    have q : gquoK .i64 (k : Int) (ps.length : Int) = some ((k / ps.length : Nat) : Int) := by
      unfold gquoK
      rw [if_neg (by omega), Int.tdiv_eq_ediv_of_nonneg (by omega)]
      have hq := Nat.div_le_self k ps.length
      show some (w64 ((k / ps.length : Nat) : Int)) = _
      generalize k / ps.length = q at hq
      rw [w64_id (by omega) (by omega)]
    have r : gremK (k : Int) (ps.length : Int) = some ((k % ps.length : Nat) : Int) := by
      unfold gremK
      rw [if_neg (by omega), Int.tmod_eq_emod_of_nonneg (by omega)]
      rfl
    rw [ifb_true, q, Option.bind_some, r, Option.bind_some, gapp_ok (by simp; omega) (by simp; omega), Option.bind_some, if_pos rfl, List.map_append]
    rfl
theorem b4_all {ps : List S_fare_Pass} (hm : ps.length ≤ 2) (s : Nat) : forN (fare_Cheapest_b4 ps s) (7 * ps.length) [] = some (.go (buysOf ps.length s)) := by
  by_cases h0 : ps.length = 0
  · rw [h0]; rfl
  have h := tot_loopN (body := fare_Cheapest_b4 ps s) (n := 7 * ps.length) (s := ([] : List S_fare_Buy)) (F := fun x => some (Ctl.go x)) (H := fun (x : Empty) => x.elim) (Q := fun (c : Ctl (List S_fare_Buy) Empty) => c = .go (buysOf ps.length s))
    (I := fun k x => x = (buysN ps.length s k).map toBuy) (J := fun x => x = buysOf ps.length s) (E := fun _ => False) rfl (fun k x hk hx => by subst hx; exact ⟨_, b4_tot (by omega) s k hk, rfl⟩) (fun x h => h) (fun x h => tot_some (by rw [h])) (fun _ h => h.elim)
  have e : ((forN (fare_Cheapest_b4 ps s) (7 * ps.length) []).bind fun c => Ctl.on c (fun x => some (Ctl.go x)) fun (x : Empty) => x.elim) = forN (fare_Cheapest_b4 ps s) (7 * ps.length) [] := by
    cases forN (fare_Cheapest_b4 ps s) (7 * ps.length) [] with
    | none => rfl
    | some c => cases c with
      | go _ => rfl
      | out x => exact x.elim
  rw [e] at h
  exact tot_eq h

/-! ### what it costs -/
def pz : S_fare_Pass := ⟨0, 0, []⟩
def ps_ (ps : List S_fare_Pass) (i : Int) : S_fare_Pass := nth pz ps i
def covB (p : S_fare_Pass) (d : Int) (r : S_fare_Trip) : Bool := decide (d ≤ r.Day ∧ r.Day ≤ d + p.Days - 1) && r.Zones.all fun z => decide (z ∈ p.Zones)
def covd (ps : List S_fare_Pass) (bs : List S_fare_Buy) (r : S_fare_Trip) : Bool := bs.any fun b => covB (ps_ ps b.Pass) b.Day r
def cost (t : S_fare_Tariff) (l : List S_fare_Trip) (ps : List S_fare_Pass) (bs : List S_fare_Buy) : Int :=
  (bs.map fun b => (ps_ ps b.Pass).Price).sum + (l.map fun r => if covd ps bs r = true then 0 else PV t r).sum
theorem covers_eq {p : S_fare_Pass} (hp : PassOk p) {d : Int} (h0 : 0 ≤ d) (h1 : d ≤ 6) (r : S_fare_Trip) : fare_Pass_covers p d r = some (covB p d r) := by
  have hd := hp.days
  unfold fare_Pass_covers covB
  rw [fwithin_eq, Option.bind_some, w64_id (x := d + p.Days) (by omega) (by omega), w64_id (by omega) (by omega)]
  by_cases hc : d ≤ r.Day ∧ r.Day ≤ d + p.Days - 1
  · rw [decide_eq_true hc, ifb_true, Bool.true_and]
    have key : Tot (slices_ContainsFunc_int_int r.Zones (some p)) fun b => b = !(r.Zones.all fun z => decide (z ∈ p.Zones)) := by
      unfold slices_ContainsFunc_int_int slices_IndexFunc_int_int
      refine tot_bind (P := fun (i : Int) => (i = -1 ∧ ∀ z ∈ r.Zones, z ∈ p.Zones) ∨ (0 ≤ i ∧ ∃ z ∈ r.Zones, z ∉ p.Zones)) ?_ fun i _ hi => tot_some ?_
      · refine tot_allX (P := fun _ z => z ∈ p.Zones) (E := fun (i : Int) => 0 ≤ i ∧ ∃ z ∈ r.Zones, z ∉ p.Zones) (fun i z hz => ?_) (fun h => tot_some (.inl ⟨rfl, mem_of_all h⟩)) (fun i h => tot_some (.inr h))
        unfold slices_IndexFunc_int_int_b1 fare_Pass_covers_1
        rw [Option.bind_some]
        refine tot_bind (P := fun b => b = true ↔ z ∉ p.Zones) (tot_bind (index_tot p.Zones z) fun b _ hb => tot_some ?_) fun b _ hb => ?_
        · rw [← hb]; cases b <;> simp
        · refine tot_ifb (fun h => tot_some ⟨by omega, z, List.mem_of_getElem? hz, hb.1 h⟩) fun h => tot_some ?_
          by_cases hm : z ∈ p.Zones
          · exact hm
          · rw [hb.2 hm] at h; cases h
      · rcases hi with ⟨rfl, h⟩ | ⟨h0, z, hz, hn⟩
        · have : (r.Zones.all fun z => decide (z ∈ p.Zones)) = true := List.all_eq_true.2 fun z hz => decide_eq_true (h z hz)
          rw [this]; rfl
        · have : (r.Zones.all fun z => decide (z ∈ p.Zones)) = false := by
            cases hq : r.Zones.all fun z => decide (z ∈ p.Zones) with
            | false => rfl
            | true => exact absurd (of_decide_eq_true (List.all_eq_true.1 hq z hz)) hn
          rw [this]; simp [h0]
    rw [tot_eq key]
    simp
  · rw [decide_eq_false hc, ifb_false]
    rfl
/-- what is bought is of the passes -/
def Fit (ps : List S_fare_Pass) (bs : List S_fare_Buy) : Prop := bs.length ≤ 14 ∧ ∀ b ∈ bs, (0 ≤ b.Day ∧ b.Day ≤ 6) ∧ 0 ≤ b.Pass ∧ b.Pass < ps.length
theorem fit_buys {ps : List S_fare_Pass} (hm : ps.length ≤ 2) (s : Nat) : Fit ps (buysOf ps.length s) := by
  refine ⟨?_, fun b hb => ?_⟩
  · unfold buysOf
    have := buysN_len ps.length s (7 * ps.length)
    rw [List.length_map]; omega
  · unfold buysOf at hb
    obtain ⟨x, hx, rfl⟩ := List.mem_map.1 hb
    by_cases h0 : ps.length = 0
    · rw [h0] at hx; simp [buysN] at hx
    · obtain ⟨a, b⟩ := buys_mem (by omega) (Nat.le_refl _) hx
      unfold toBuy
      dsimp only
      omega
theorem covd_tot {ps : List S_fare_Pass} (hp : ∀ p ∈ ps, PassOk p) {bs : List S_fare_Buy} (hf : Fit ps bs) (r : S_fare_Trip) : Tot (slices_ContainsFunc_fare_Buy_fare_Buy bs (some ps) (some r)) fun b => b = covd ps bs r := by
  unfold slices_ContainsFunc_fare_Buy_fare_Buy slices_IndexFunc_fare_Buy_fare_Buy
  refine tot_bind (P := fun (i : Int) => (i = -1 ∧ ∀ b ∈ bs, covB (ps_ ps b.Pass) b.Day r = false) ∨ (0 ≤ i ∧ ∃ b ∈ bs, covB (ps_ ps b.Pass) b.Day r = true)) ?_ fun i _ hi => tot_some ?_
  · refine tot_allX (P := fun _ b => covB (ps_ ps b.Pass) b.Day r = false) (E := fun (i : Int) => 0 ≤ i ∧ ∃ b ∈ bs, covB (ps_ ps b.Pass) b.Day r = true) (fun i b hb => ?_) (fun h => tot_some (.inl ⟨rfl, mem_of_all h⟩)) (fun i h => tot_some (.inr h))
    have hm := List.mem_of_getElem? hb
    obtain ⟨d, p0, p1⟩ := hf.2 b hm
    unfold slices_IndexFunc_fare_Buy_fare_Buy_b1 fare_Cheapest_1
    rw [Option.bind_some, idx_nth pz p0 p1, Option.bind_some, Option.bind_some, covers_eq (hp _ (nth_mem pz p0 p1)) d.1 d.2, Option.bind_some, Option.bind_some]
    exact tot_ifb (fun h => tot_some ⟨by omega, b, hm, h⟩) fun h => tot_some h
  · unfold covd
    rcases hi with ⟨rfl, h⟩ | ⟨h0, b, hb, hc⟩
    · have : (bs.any fun b => covB (ps_ ps b.Pass) b.Day r) = false := by
        rw [List.any_eq_false]
        intro b hb
        rw [h b hb]; simp
      rw [this]; rfl
    · have : (bs.any fun b => covB (ps_ ps b.Pass) b.Day r) = true := List.any_eq_true.2 ⟨b, hb, hc⟩
      rw [this]; simp [h0]
theorem cost_nn {t : S_fare_Tariff} (ht : TariffOk t) {l : List S_fare_Trip} (hl : ∀ r ∈ l, TripOk r) {ps : List S_fare_Pass} (hp : ∀ p ∈ ps, PassOk p) {bs : List S_fare_Buy} (hf : Fit ps bs) : 0 ≤ cost t l ps bs := by
  have h1 := sum_nonneg (l := bs.map fun b => (ps_ ps b.Pass).Price) fun x hx => by
    obtain ⟨b, hb, rfl⟩ := List.mem_map.1 hx
    obtain ⟨d, p0, p1⟩ := hf.2 b hb
    exact (hp _ (nth_mem pz p0 p1)).price.1
  have h2 := sum_nonneg (l := l.map fun r => if covd ps bs r = true then 0 else PV t r) fun x hx => by
    obtain ⟨r, hr, rfl⟩ := List.mem_map.1 hx
    obtain ⟨_, _, h, _⟩ := price_eq ht (hl r hr)
    split <;> omega
  unfold cost
  omega
theorem cmp_eq (a b : Int) : cmp_Compare_int a b = some (if a < b then -1 else if a > b then 1 else 0) := by
  unfold cmp_Compare_int cmp_isNaN_int
  simp only [bne_self_eq_false, Option.bind_some, ifb_false, ifb_dec]
  split
  · rfl
  · split <;> rfl
theorem or_tot (a : Int) (l : List Int) : Tot (cmp_Or_int (a :: l)) fun r => a ≠ 0 → r = a := by
  unfold cmp_Or_int
  refine tot_loopX (I := fun i _ => a ≠ 0 → i = 0) (J := fun _ => a = 0) (E := fun r => a ≠ 0 → r = a) (fun _ => rfl) (fun i x s hx hI => ?_) (fun s h => ?_) (fun _ h => tot_some fun h' => absurd h h') (fun r h => tot_some h)
  · unfold cmp_Or_int_b1
    refine tot_ifb (fun hn => tot_some fun ha => ?_) fun hn => tot_some fun ha => ?_
    · have := hI ha
      subst this
      simpa using hx.symm
    · have := hI ha
      subst this
      have hxa : a = x := by simpa using hx
      subst hxa
      simp at hn
      exact absurd hn ha
  · by_cases ha : a = 0
    · exact ha
    · have := h ha
      simp at this
theorem cmpBuys_tot (a b : List S_fare_Buy) : Tot (slices_CompareFunc_fare_Buy_fare_Buy_fare_Buy_fare_Buy a b) fun _ => True := by
  unfold slices_CompareFunc_fare_Buy_fare_Buy_fare_Buy_fare_Buy
  refine tot_allX (P := fun _ _ => True) (E := fun _ => True) (fun i x hx => ?_) (fun _ => tot_ifb (fun _ => tot_some trivial) fun _ => tot_some trivial) (fun _ _ => tot_some trivial)
  unfold slices_CompareFunc_fare_Buy_fare_Buy_fare_Buy_fare_Buy_b1
  refine tot_ifb (fun _ => tot_some trivial) fun h => ?_
  have h : ¬ ((i : Int) ≥ b.length) := of_decide_eq_false h
  rw [idx_nth x (by omega) (by omega), Option.bind_some]
  unfold fare_compareBuys
  rw [cmp_eq, Option.bind_some, cmp_eq, Option.bind_some]
  refine tot_bind (P := fun _ => True) (tot_bind (or_tot _ _) fun _ _ _ => tot_some trivial) fun _ _ _ => ?_
  exact tot_ifb (fun _ => tot_some trivial) fun _ => tot_some trivial
theorem b3_tot {t : S_fare_Tariff} (ht : TariffOk t) {l : List S_fare_Trip} (hl12 : l.length ≤ 12) (hl : ∀ r ∈ l, TripOk r) {ps : List S_fare_Pass} (hm : ps.length ≤ 2) (hp : ∀ p ∈ ps, PassOk p) (s : Nat) (least : Int) (best : List S_fare_Buy) :
    Tot (fare_Cheapest_b3 l ps (l.map (PV t)) s (least, best)) fun c => ∃ b, c = .go (if least < 0 then cost t l ps (buysOf ps.length s) else min least (cost t l ps (buysOf ps.length s)), b) := by
  have hf := fit_buys hm s
  generalize hbs : buysOf ps.length s = bs at hf
  unfold fare_Cheapest_b3
  have hw : w64 (7 * (ps.length : Int)) = ((7 * ps.length : Nat) : Int) := by rw [w64_id (by omega) (by omega)]; omega
  rw [hw, glim_eq (by omega), Option.bind_some, Int.toNat_natCast, b4_all hm s, Option.bind_some, hbs]
  show Tot ((forX (fare_Cheapest_b5 ps) bs 0).bind _) _
  have price_b : ∀ b ∈ bs, 0 ≤ (ps_ ps b.Pass).Price ∧ (ps_ ps b.Pass).Price ≤ 100000 := fun b hb => by
    obtain ⟨d, p0, p1⟩ := hf.2 b hb
    exact (hp _ (nth_mem pz p0 p1)).price
  have pv_b : ∀ r ∈ l, 0 ≤ (if covd ps bs r = true then 0 else PV t r) ∧ (if covd ps bs r = true then 0 else PV t r) ≤ 100100 := fun r hr => by
    obtain ⟨_, _, h1, h2⟩ := price_eq ht (hl r hr)
    split <;> omega
  have hbl := hf.1
  refine tot_loopX (I := fun i x => x = ((bs.map fun b => (ps_ ps b.Pass).Price).take i).sum) (J := fun x => x = (bs.map fun b => (ps_ ps b.Pass).Price).sum) (E := fun _ => False) (by simp) ?_ (fun x h => by rw [h, List.take_of_length_le (by simp)]) ?_ (fun _ h => h.elim)
  · rintro i b x hb rfl
    have hi := (List.getElem?_eq_some_iff.1 hb).1
    have hmem := List.mem_of_getElem? hb
    obtain ⟨d, p0, p1⟩ := hf.2 b hmem
    have hpb := price_b b hmem
    unfold fare_Cheapest_b5
    rw [idx_nth pz p0 p1, Option.bind_some]
    refine tot_some ?_
    have e : (bs.map fun b => (ps_ ps b.Pass).Price)[i]? = some (ps_ ps b.Pass).Price := by rw [List.getElem?_map, hb]; rfl
    have k1 := sum_le (l := (bs.map fun b => (ps_ ps b.Pass).Price).take i) (b := 100000) fun x hx => by
      obtain ⟨b, hb, rfl⟩ := List.mem_map.1 (List.mem_of_mem_take hx); exact (price_b b hb).2
    have k2 := sum_nonneg (l := (bs.map fun b => (ps_ ps b.Pass).Price).take i) fun x hx => by
      obtain ⟨b, hb, rfl⟩ := List.mem_map.1 (List.mem_of_mem_take hx); exact (price_b b hb).1
    rw [List.length_take, List.length_map, Nat.min_eq_left (by omega)] at k1
    rw [sum_take e]
    exact w64_id (by unfold ps_ at *; omega) (by unfold ps_ at *; omega)
  rintro x rfl
  have k1 := sum_le (l := bs.map fun b => (ps_ ps b.Pass).Price) (b := 100000) fun x hx => by
    obtain ⟨b, hb, rfl⟩ := List.mem_map.1 hx; exact (price_b b hb).2
  have k2 := sum_nonneg (l := bs.map fun b => (ps_ ps b.Pass).Price) fun x hx => by
    obtain ⟨b, hb, rfl⟩ := List.mem_map.1 hx; exact (price_b b hb).1
  rw [List.length_map] at k1
  generalize hB : (bs.map fun b => (ps_ ps b.Pass).Price).sum = B at k1 k2
  refine tot_loopX (I := fun i x => x = B + ((l.map fun r => if covd ps bs r = true then 0 else PV t r).take i).sum) (J := fun x => x = cost t l ps bs) (E := fun _ => False) (by simp) ?_ ?_ ?_ (fun _ h => h.elim)
  · rintro i r x hr rfl
    have hi := (List.getElem?_eq_some_iff.1 hr).1
    have hmem := List.mem_of_getElem? hr
    unfold fare_Cheapest_b6
    refine tot_bind (covd_tot hp hf r) fun b _ hb => ?_
    subst hb
    have e : (l.map fun r => if covd ps bs r = true then 0 else PV t r)[i]? = some (if covd ps bs r = true then 0 else PV t r) := by rw [List.getElem?_map, hr]; rfl
    have q1 := sum_le (l := (l.map fun r => if covd ps bs r = true then 0 else PV t r).take i) (b := 100100) fun x hx => by
      obtain ⟨b, hb, rfl⟩ := List.mem_map.1 (List.mem_of_mem_take hx); exact (pv_b b hb).2
    have q2 := sum_nonneg (l := (l.map fun r => if covd ps bs r = true then 0 else PV t r).take i) fun x hx => by
      obtain ⟨b, hb, rfl⟩ := List.mem_map.1 (List.mem_of_mem_take hx); exact (pv_b b hb).1
    rw [List.length_take, List.length_map, Nat.min_eq_left (by omega)] at q1
    have pb := pv_b r hmem
    refine tot_ifb (fun h => ?_) fun h => tot_some ?_
    · have h : covd ps bs r = false := by simpa using h
      have ei : idx (l.map (PV t)) (i : Int) = some (PV t r) := by
        unfold idx; rw [if_pos (by omega), Int.toNat_natCast, List.getElem?_map, hr]; rfl
      rw [h] at pb
      simp only [Bool.false_eq_true, if_false] at pb
      rw [ei, Option.bind_some]
      refine tot_some ?_
      show _ = _
      rw [sum_take e, h, w64_id (by omega) (by omega)]
      simp only [Bool.false_eq_true, if_false]
      omega
    · have h : covd ps bs r = true := by simpa using h
      show _ = _
      rw [sum_take e, h]
      simp
  · rintro x rfl
    rw [List.take_of_length_le (by simp)]
    unfold cost
    rw [hB]
  rintro x rfl
  have hcn := cost_nn ht hl hp hf
  generalize cost t l ps bs = cs at hcn
  dsimp only
  refine tot_bind (P := fun b => (b = true → least < 0 ∨ cs ≤ least) ∧ (b = false → 0 ≤ least ∧ least ≤ cs)) ?_ fun b _ hb => ?_
  · refine tot_ifb (fun h => tot_some ⟨fun _ => .inl (of_decide_eq_true h), fun h' => by cases h'⟩) fun h => ?_
    have h : ¬ least < 0 := of_decide_eq_false h
    rw [cmp_eq, Option.bind_some, cmp_eq, Option.bind_some]
    refine tot_bind (cmpBuys_tot _ _) fun z _ _ => tot_bind (or_tot _ _) fun r _ hr => tot_some ⟨fun hlt => .inr ?_, fun hge => ⟨by omega, ?_⟩⟩
    · have hlt : r < 0 := of_decide_eq_true hlt
      by_cases h1 : cs < least
      · omega
      · rw [if_neg h1] at hr
        by_cases h2 : cs > least
        · rw [if_pos h2] at hr
          have := hr (by decide); omega
        · omega
    · have hge : ¬ r < 0 := of_decide_eq_false hge
      by_cases h1 : cs < least
      · rw [if_pos h1] at hr
        have := hr (by decide); omega
      · omega
  · refine tot_ifb (fun h => tot_some ⟨bs, ?_⟩) fun h => tot_some ⟨best, ?_⟩
    · congr 2
      rcases hb.1 h with h1 | h1
      · rw [if_pos h1]
      · by_cases h2 : least < 0
        · rw [if_pos h2]
        · rw [if_neg h2]; omega
    · have := hb.2 h
      rw [if_neg (by omega)]
      congr 2
      omega
end Wr

/- FareLess: the law. -/
set_option linter.unusedVariables false
set_option linter.unusedSimpArgs false
set_option maxRecDepth 100000
namespace Wr
open Go Hk Hd Pl

/-- the least of the costs -/
structure Least (t : S_fare_Tariff) (l : List S_fare_Trip) (ps : List S_fare_Pass) (n : Nat) (m : Int) : Prop where
  is : ∃ s, s < n ∧ m = cost t l ps (buysOf ps.length s)
  le : ∀ s, s < n → m ≤ cost t l ps (buysOf ps.length s)
theorem shl_eq (m : Nat) (h : m ≤ 2) : gshl .i64 1 (w64 (7 * (m : Int))) = some ((2 ^ (7 * m) : Nat) : Int) := by
  match m, h with
  | 0, _ => rfl
  | 1, _ => rfl
  | 2, _ => rfl
theorem cheapest_tot {t : S_fare_Tariff} (ht : TariffOk t) {l : List S_fare_Trip} (hl12 : l.length ≤ 12) (hl : ∀ r ∈ l, TripOk r) {ps : List S_fare_Pass} (hm : ps.length ≤ 2) (hp : ∀ p ∈ ps, PassOk p) :
    Tot (fare_Cheapest t l ps) fun r => r.2.1 = 0 ∧ Least t l ps (2 ^ (7 * ps.length)) r.1 := by
  unfold fare_Cheapest
  rw [ht.check, Option.bind_some]
  refine tot_ifb (fun h => absurd h (by decide)) fun _ => ?_
  rw [decide_eq_false (by omega : ¬ ((l.length : Int) > 12)), ifb_false, Option.bind_some, decide_eq_false (by omega : ¬ ((ps.length : Int) > 2)), ifb_false]
  refine tot_loopX (I := fun i x => x = (l.map (PV t)).take i) (J := fun x => x = l.map (PV t)) (E := fun _ => False) rfl ?_ (fun x h => by rw [h, List.take_of_length_le (by simp)]) ?_ (fun _ h => h.elim)
  · rintro i r x hr rfl
    have hi := (List.getElem?_eq_some_iff.1 hr).1
    have hok := hl r (List.mem_of_getElem? hr)
    obtain ⟨ks, hpr, _⟩ := price_eq ht hok
    unfold fare_Cheapest_b1
    rw [hok.check, Option.bind_some]
    refine tot_ifb (fun h => absurd h (by decide)) fun _ => ?_
    rw [hpr, Option.bind_some]
    dsimp only
    rw [gapp_ok (by simp; omega) (by simp; omega), Option.bind_some]
    refine tot_some ?_
    show _ = _
    rw [List.take_add_one, List.getElem?_map, hr]
    rfl
  rintro x rfl
  refine tot_allX (P := fun _ _ => True) (E := fun _ => False) (fun i p hpi => ?_) (fun _ => ?_) (fun _ h => h.elim)
  · have hok := hp p (List.mem_of_getElem? hpi)
    unfold fare_Cheapest_b2
    rw [fwithin_eq, Option.bind_some, decide_eq_true hok.days, Bool.not_true, ifb_false, fwithin_eq, Option.bind_some, decide_eq_true hok.price, Option.bind_some]
    refine tot_ifb (fun h => by cases h) fun _ => ?_
    rw [hok.zones, Option.bind_some]
    exact tot_ifb (fun h => absurd h (by decide)) fun _ => tot_some trivial
  have hpow : 1 ≤ 2 ^ (7 * ps.length) ∧ 2 ^ (7 * ps.length) ≤ 16384 := by
    have : ps.length = 0 ∨ ps.length = 1 ∨ ps.length = 2 := by omega
    rcases this with h | h | h <;> rw [h] <;> decide
  rw [shl_eq _ hm, Option.bind_some, glim_eq (by omega), Option.bind_some, Int.toNat_natCast]
  generalize 2 ^ (7 * ps.length) = N at hpow
  refine tot_loopN (I := fun i s => (i = 0 ∧ s.1 = -1) ∨ (0 ≤ s.1 ∧ Least t l ps i s.1)) (J := fun s => Least t l ps N s.1) (E := fun _ => False) (.inl ⟨rfl, rfl⟩) ?_ ?_ ?_ (fun _ h => h.elim)
  · rintro i ⟨least, best⟩ hi hI
    dsimp only at hI
    refine tot_mono (b3_tot ht hl12 hl hm hp i least best) ?_
    rintro c ⟨b, rfl⟩
    have hcn := cost_nn ht hl hp (fit_buys hm i)
    refine .inr ?_
    dsimp only
    rcases hI with ⟨rfl, rfl⟩ | ⟨h0, hL⟩
    · rw [if_pos (by decide)]
      exact ⟨hcn, ⟨0, by omega, rfl⟩, fun s hs => by
        have h0 : s = 0 := by omega
        rw [h0]
        exact Int.le_refl _⟩
    · rw [if_neg (by omega)]
      refine ⟨by omega, ?_, fun s hs => ?_⟩
      · obtain ⟨s, hs, he⟩ := hL.is
        by_cases hc : least ≤ cost t l ps (buysOf ps.length i)
        · exact ⟨s, by omega, by rw [Int.min_eq_left hc]; exact he⟩
        · exact ⟨i, by omega, by rw [Int.min_eq_right (by omega)]⟩
      · by_cases e : s = i
        · subst e; omega
        · have := hL.le s (by omega); omega
  · rintro s h
    rcases h with ⟨h, _⟩ | ⟨_, h⟩
    · omega
    · exact h
  · rintro s h
    exact tot_some ⟨rfl, h⟩
/-- the same days for the first of two passes -/
def spread (s : Nat) : Nat := ((List.range 7).map fun j => if bitOn s j then 4 ^ j else 0).sum
theorem spread_all : ((List.range 128).all fun s => decide (spread s < 16384) && buysN 2 (spread s) 14 == buysN 1 s 7) = true := by decide +kernel
theorem spread_ok {s : Nat} (h : s < 128) : spread s < 16384 ∧ buysOf 2 (spread s) = buysOf 1 s := by
  have := List.all_eq_true.1 spread_all s (List.mem_range.2 h)
  simp only [Bool.and_eq_true, beq_iff_eq, decide_eq_true_eq] at this
  exact ⟨this.1, by unfold buysOf; rw [this.2]⟩
theorem zero_buys (m : Nat) : buysOf m 0 = [] := by
  unfold buysOf buysN
  have : (List.range (7 * m)).filter (bitOn 0) = [] := List.filter_eq_nil_iff.2 fun i _ => by unfold bitOn; simp
  rw [this]
  rfl
theorem one_pass {s : Nat} {b : S_fare_Buy} (h : b ∈ buysOf 1 s) : b.Pass = 0 := by
  unfold buysOf at h
  obtain ⟨x, hx, rfl⟩ := List.mem_map.1 h
  have := (buys_mem (by omega) (Nat.le_refl _) hx).2
  unfold toBuy
  dsimp only
  omega
theorem cost_same {t : S_fare_Tariff} {l : List S_fare_Trip} {p q : S_fare_Pass} {bs : List S_fare_Buy} (h : ∀ b ∈ bs, b.Pass = 0) : cost t l [p, q] bs = cost t l [p] bs := by
  have e : ∀ b ∈ bs, ps_ [p, q] b.Pass = p ∧ ps_ [p] b.Pass = p := fun b hb => by rw [h b hb]; exact ⟨rfl, rfl⟩
  have ec : ∀ r, covd [p, q] bs r = covd [p] bs r := fun r => by
    unfold covd
    refine Bool.eq_iff_iff.2 ?_
    simp only [List.any_eq_true]
    exact ⟨fun ⟨b, hb, hc⟩ => ⟨b, hb, by rw [(e b hb).1] at hc; rw [(e b hb).2]; exact hc⟩, fun ⟨b, hb, hc⟩ => ⟨b, hb, by rw [(e b hb).2] at hc; rw [(e b hb).1]; exact hc⟩⟩
  unfold cost
  simp only [ec]
  congr 2
  exact List.map_congr_left fun b hb => by rw [(e b hb).1, (e b hb).2]
theorem cost_half {t : S_fare_Tariff} {l : List S_fare_Trip} {p : S_fare_Pass} {n : Int} (hn : n ≤ p.Price) {bs : List S_fare_Buy} (h : ∀ b ∈ bs, b.Pass = 0) : cost t l [S_fare_Pass.mk p.Days n p.Zones] bs ≤ cost t l [p] bs := by
  have e : ∀ b ∈ bs, ps_ [S_fare_Pass.mk p.Days n p.Zones] b.Pass = S_fare_Pass.mk p.Days n p.Zones ∧ ps_ [p] b.Pass = p := fun b hb => by rw [h b hb]; exact ⟨rfl, rfl⟩
  have ec : ∀ r, covd [S_fare_Pass.mk p.Days n p.Zones] bs r = covd [p] bs r := fun r => by
    unfold covd
    refine Bool.eq_iff_iff.2 ?_
    simp only [List.any_eq_true]
    exact ⟨fun ⟨b, hb, hc⟩ => ⟨b, hb, by rw [(e b hb).1] at hc; rw [(e b hb).2]; exact hc⟩, fun ⟨b, hb, hc⟩ => ⟨b, hb, by rw [(e b hb).2] at hc; rw [(e b hb).1]; exact hc⟩⟩
  unfold cost
  simp only [ec]
  have := sum_mono (f := fun b : S_fare_Buy => (ps_ [S_fare_Pass.mk p.Days n p.Zones] b.Pass).Price) (g := fun b => (ps_ [p] b.Pass).Price) (l := bs) fun b hb => by rw [(e b hb).1, (e b hb).2]; exact hn
  omega
theorem cost_nil (t : S_fare_Tariff) (l : List S_fare_Trip) (ps : List S_fare_Pass) : cost t l ps [] = (l.map (PV t)).sum := by
  unfold cost covd
  simp
theorem law (t : S_fare_Tariff) (l : List S_fare_Trip) (p q : S_fare_Pass) (hpz : p.Zones.length ≤ maxLen) (hqz : q.Zones.length ≤ maxLen) : fishkeep2_FareLess t l p q = some true := by
  refine tot_eq ?_
  unfold fishkeep2_FareLess
  rw [awake, Option.bind_some, fares, Option.bind_some]
  refine tot_ifb (fun hc => by cases hc) fun _ => tot_ifb (fun hc => by cases hc) fun _ => ?_
  refine tot_bind (fault_tot (t := t) (l := l) (ps := [p, q]) fun x hx => by
    simp at hx; rcases hx with rfl | rfl
    · exact hpz
    · exact hqz) fun e _ he => ?_
  refine tot_ifb (fun _ => tot_some rfl) fun h0 => ?_
  obtain ⟨ht, hl12, hl, hps⟩ := he (by simpa using h0)
  have hp := hps p (by simp)
  have hq := hps q (by simp)
  refine tot_bind (cheapest_tot ht hl12 hl (ps := []) (by simp) (by simp)) fun r1 _ ⟨a1, b1⟩ => ?_
  refine tot_bind (cheapest_tot ht hl12 hl (ps := [p]) (by simp) (by simp [hp])) fun r2 _ ⟨a2, b2⟩ => ?_
  refine tot_bind (cheapest_tot ht hl12 hl (ps := [p, q]) (by simp) (by simp [hp, hq])) fun r3 _ ⟨a3, b3⟩ => ?_
  refine tot_loopX (I := fun i x => x = ((l.map (PV t)).take i).sum) (J := fun x => x = (l.map (PV t)).sum) (E := fun _ => False) (by simp) ?_ (fun x h => by rw [h, List.take_of_length_le (by simp)]) ?_ (fun _ h => h.elim)
  · rintro i r x hr rfl
    have hi := (List.getElem?_eq_some_iff.1 hr).1
    have hok := hl r (List.mem_of_getElem? hr)
    obtain ⟨ks, hpr, v0, v1⟩ := price_eq ht hok
    unfold fishkeep2_FareLess_b1 fare_Price_v2
    rw [ht.check, Option.bind_some, hok.check]
    simp only [hpr]
    show Tot (some _) _
    refine tot_some ?_
    show _ = _
    have e : (l.map (PV t))[i]? = some (PV t r) := by rw [List.getElem?_map, hr]; rfl
    have pv_b : ∀ x ∈ l.map (PV t), 0 ≤ x ∧ x ≤ 100100 := fun x hx => by
      obtain ⟨r, hr, rfl⟩ := List.mem_map.1 hx
      obtain ⟨_, _, h1, h2⟩ := price_eq ht (hl r hr)
      exact ⟨h1, h2⟩
    have q1 := sum_le (l := (l.map (PV t)).take i) (b := 100100) fun x hx => (pv_b x (List.mem_of_mem_take hx)).2
    have q2 := sum_nonneg (l := (l.map (PV t)).take i) fun x hx => (pv_b x (List.mem_of_mem_take hx)).1
    rw [List.length_take, List.length_map, Nat.min_eq_left (by omega)] at q1
    rw [sum_take e]
    exact w64_id (by omega) (by omega)
  rintro x rfl
  have hpp := hp.price
  have hhalf : gquoK .i64 p.Price 2 = some (p.Price / 2) := by
    unfold gquoK
    rw [if_neg (by decide), Int.tdiv_eq_ediv_of_nonneg hpp.1]
    exact congrArg some (w64_id (by omega) (by omega))
  rw [hhalf, Option.bind_some]
  have hph : PassOk (S_fare_Pass.mk p.Days (p.Price / 2) p.Zones) := ⟨hp.days, by dsimp only; omega, hp.zones⟩
  refine tot_bind (cheapest_tot ht hl12 hl (ps := [S_fare_Pass.mk p.Days (p.Price / 2) p.Zones]) (by simp) (by simp [hph])) fun r4 _ ⟨a4, b4⟩ => ?_
  rw [a1, a2, a3, a4]
  have n1 : 2 ^ (7 * ([] : List S_fare_Pass).length) = 1 := by simp
  have n2 : 2 ^ (7 * [p].length) = 128 := by simp
  have n3 : 2 ^ (7 * [p, q].length) = 16384 := by simp
  have n4 : 2 ^ (7 * [S_fare_Pass.mk p.Days (p.Price / 2) p.Zones].length) = 128 := by simp
  rw [n1] at b1
  rw [n2] at b2
  rw [n3] at b3
  rw [n4] at b4
  -- none is the sum
  have c1 : r1.1 = (l.map (PV t)).sum := by
    obtain ⟨s, hs, he⟩ := b1.is
    have h0 : s = 0 := by omega
    rw [he, h0, zero_buys, cost_nil]
  have c2 : r2.1 ≤ r1.1 := by
    have := b2.le 0 (by omega)
    rw [zero_buys, cost_nil] at this
    omega
  have c3 : r3.1 ≤ r2.1 := by
    obtain ⟨s, hs, he⟩ := b2.is
    obtain ⟨k1, k2⟩ := spread_ok hs
    have := b3.le (spread s) k1
    rw [show ([p, q] : List S_fare_Pass).length = 2 from rfl, k2, cost_same fun b hb => one_pass hb] at this
    rw [he]
    exact this
  have c4 : r4.1 ≤ r2.1 := by
    obtain ⟨s, hs, he⟩ := b2.is
    have := b4.le s hs
    have h2 := cost_half (t := t) (l := l) (p := p) (n := p.Price / 2) (by omega) (bs := buysOf 1 s) fun b hb => one_pass hb
    rw [he]
    exact Int.le_trans this h2
  rw [c1] at c2
  rw [show ((0 : Int) == 0) = true from rfl, ifb_true, ifb_true, ifb_true, ifb_true, show (r1.1 == (l.map (PV t)).sum) = true from beq_iff_eq.2 c1, ifb_true, decide_eq_true (show r2.1 ≤ r1.1 by omega), ifb_true, decide_eq_true c3, ifb_true, decide_eq_true c4]
  exact tot_some rfl
end Wr
