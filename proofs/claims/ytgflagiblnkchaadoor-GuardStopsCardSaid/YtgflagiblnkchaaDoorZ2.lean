/- The checks in full; a second of a run, whatever the state. -/
import Derived.Test.YtgflagiblnkchaaDoorZ1
import Derived.Test.YtgflagiblnkchaaDoorZC
set_option linter.unusedVariables false
set_option linter.unusedSimpArgs false
set_option maxRecDepth 100000
namespace Gm
open Go Hk Hd Pl

def totL : List S_api_Piece → Int
  | [] => 0
  | x :: l => x.Length + totL l
theorem totL_app : ∀ {l : List S_api_Piece} {x : S_api_Piece}, totL (l ++ [x]) = totL l + x.Length
  | [], x => by simp [totL]
  | y :: l, x => by
    show y.Length + totL (l ++ [x]) = y.Length + totL l + x.Length
    rw [totL_app]; omega
theorem totL_take {ps : List S_api_Piece} {i : Nat} {x : S_api_Piece} (h : ps[i]? = some x) : totL (ps.take (i + 1)) = totL (ps.take i) + x.Length := by
  rw [List.take_add_one, h]; exact totL_app
/-- stock and a way that may be -/
structure WOk (p : S_api_Stock) (ps : List S_api_Piece) : Prop where
  ck : run_Check p = some 0
  stk : Stk p
  way : WayOk ps
  ln : ∀ x ∈ ps, 1 ≤ x.Length ∧ x.Length ≤ 300000
  n : ps.length ≤ 60
  pos : 0 < ps.length
theorem totL_bd {ps : List S_api_Piece} (h : ∀ x ∈ ps, 1 ≤ x.Length ∧ x.Length ≤ 300000) : 0 ≤ totL ps ∧ totL ps ≤ 300000 * ps.length := by
  induction ps with
  | nil => simp [totL]
  | cons x l ih =>
    have := ih fun y hy => h y (by simp [hy])
    have := h x (by simp)
    simp only [totL, List.length_cons]
    omega
theorem WOk.tot {p : S_api_Stock} {ps : List S_api_Piece} (h : WOk p ps) : 0 ≤ totL ps ∧ totL ps ≤ 18000000 := by
  have := totL_bd h.ln
  have := h.n
  omega
theorem WOk.take {p : S_api_Stock} {ps : List S_api_Piece} (h : WOk p ps) (i : Nat) : 0 ≤ totL (ps.take i) ∧ totL (ps.take i) ≤ 18000000 := by
  have a := totL_bd (ps := ps.take i) fun x hx => h.ln x (List.mem_of_mem_take hx)
  have := h.n
  rw [List.length_take] at a
  omega
theorem starts_tot {ps : List S_api_Piece} {st : List Int} (h : Starts ps st) : ∀ i, i ≤ ps.length → st[i]? = some (totL (ps.take i))
  | 0, _ => h.zero
  | i + 1, hi => by
    have hx : ps[i]? = some ps[i] := List.getElem?_eq_getElem (by omega)
    rw [h.next i _ _ hx (starts_tot h i (by omega)), totL_take hx]
section
variable {p : S_api_Stock} {ps : List S_api_Piece} {st : List Int}
theorem check_full (s : S_api_State) (e : Int) (h : p.Name.size ≤ maxLen) : Tot (run_check p ps s e) fun r => r = 0 → WOk p ps ∧ (0 ≤ e ∧ e ≤ totL ps) ∧ (0 ≤ s.At ∧ s.At ≤ e) ∧ (0 ≤ s.Speed ∧ s.Speed ≤ p.Top) ∧ 0 ≤ s.Work ∧ s.Work ≤ 1152921504606846976 := by
  unfold run_check
  refine tot_bind (check_tot h) fun r hrc hr => ?_
  refine tot_ifb (fun h => tot_some fun h0 => by rw [h0] at h; simp at h) fun hr0 => ?_
  have hr0 : r = 0 := by simpa using hr0
  have hs := hr hr0
  subst hr0
  refine tot_ifb (fun _ => tot_some fun h => absurd h (by decide)) fun h1 => ?_
  refine tot_ifb (fun _ => tot_some fun h => absurd h (by decide)) fun h2 => ?_
  have h1 : ¬ (ps.length : Int) = 0 := by simpa using h1
  have h2 : ¬ (ps.length : Int) > 60 := of_decide_eq_false h2
  let PO (x : S_api_Piece) : Prop := (1 ≤ x.Length ∧ x.Length ≤ 300000) ∧ -40 ≤ x.Grade ∧ x.Grade ≤ 40 ∧ 1 ≤ x.Speed ∧ x.Speed ≤ 6000
  refine tot_loopX (I := fun i t => (t = totL (ps.take i) ∧ 0 ≤ t ∧ t ≤ i * 300000) ∧ ∀ (j : Nat) x, j < i → ps[j]? = some x → PO x) (J := fun t => t = totL ps ∧ ∀ x ∈ ps, PO x) (E := fun r => r = 2) ⟨⟨rfl, by simp⟩, fun j x hj => by omega⟩ (fun i x s hx hs => ?_) (fun s hs => ?_) (fun t ht => ?_) (fun r hr => tot_some fun h => by rw [hr] at h; exact absurd h (by decide))
  · unfold run_check_b1
    rw [within_eq, within_eq, within_eq]
    have hi := (List.getElem?_eq_some_iff.1 hx).1
    refine tot_bind (P := fun b => b = false → PO x) ?_ fun b _ hb => ?_
    · rw [Option.bind_some]
      refine tot_ifb (fun _ => tot_some fun h => by cases h) fun h5 => ?_
      rw [Option.bind_some]
      refine tot_ifb (fun _ => tot_some fun h => by cases h) fun h3 => ?_
      rw [Option.bind_some]
      refine tot_some fun h4 => ?_
      have h5 : 1 ≤ x.Length ∧ x.Length ≤ 300000 := by simpa using h5
      have h3 : -40 ≤ x.Grade ∧ x.Grade ≤ 40 := by simpa using h3
      have h4 : 1 ≤ x.Speed ∧ x.Speed ≤ 6000 := by simpa using h4
      exact ⟨h5, h3.1, h3.2, h4.1, h4.2⟩
    · refine tot_ifb (fun _ => tot_some rfl) fun hbf => tot_some ?_
      have hpo := hb hbf
      obtain ⟨⟨te, t0, t1⟩, hall⟩ := hs
      have hp1 := hpo.1
      dsimp only
      rw [w64_id (by omega) (by omega)]
      have e : ((i + 1 : Nat) : Int) * 300000 = (i : Int) * 300000 + 300000 := by push_cast; omega
      refine ⟨⟨by rw [totL_take hx, te], by omega, by rw [e]; omega⟩, fun j y hj hy => ?_⟩
      by_cases hji : j = i
      · subst hji
        rw [hx] at hy
        injection hy with hy
        subst hy
        exact hpo
      · exact hall j y (by omega) hy
  · obtain ⟨⟨te, t0, t1⟩, hall⟩ := hs
    rw [List.take_length] at te
    refine ⟨te, fun x hx => ?_⟩
    obtain ⟨j, hj⟩ := List.mem_iff_getElem?.1 hx
    exact hall j x (List.getElem?_eq_some_iff.1 hj).1 hj
  · obtain ⟨te, hall⟩ := ht
    subst te
    have hw : WOk p ps := ⟨hrc, hs, fun x hx => (hall x hx).2, fun x hx => (hall x hx).1, by omega, by omega⟩
    refine tot_bind (P := fun b => b = false → (0 ≤ e ∧ e ≤ totL ps) ∧ (0 ≤ s.At ∧ s.At ≤ e) ∧ (0 ≤ s.Speed ∧ s.Speed ≤ p.Top) ∧ 0 ≤ s.Work ∧ s.Work ≤ 1152921504606846976) ?_ fun b _ hb => ?_
    · rw [within_eq, within_eq, within_eq, within_eq]
      simp only [Option.bind_some]
      refine tot_ifb (fun _ => tot_some fun h => by cases h) fun h3 => ?_
      refine tot_ifb (fun _ => tot_some fun h => by cases h) fun h4 => ?_
      have h3 : 0 ≤ e ∧ e ≤ totL ps := by simpa using h3
      have h4 : 0 ≤ s.At ∧ s.At ≤ e := by simpa using h4
      refine tot_ifb (fun _ => tot_some fun h => by cases h) fun h5 => tot_some fun h6 => ⟨h3, h4, by simpa using h5, by simpa using h6⟩
    · refine tot_ifb (fun _ => tot_some fun h => absurd h (by decide)) fun hbf => tot_some fun _ => ?_
      exact ⟨hw, hb hbf⟩
theorem check_ok (hw : WOk p ps) {s : S_api_State} {e : Int} (he : 0 ≤ e ∧ e ≤ totL ps) (ha : 0 ≤ s.At ∧ s.At ≤ e) (hv : 0 ≤ s.Speed ∧ s.Speed ≤ p.Top) (hk : 0 ≤ s.Work ∧ s.Work ≤ 1152921504606846976) : run_check p ps s e = some 0 := by
  refine tot_eq (?_ : Tot _ (· = (0 : Int)))
  have hpos := hw.pos; have hn := hw.n
  unfold run_check
  refine tot_bind' hw.ck ?_
  refine tot_ifb (fun h => absurd h (by decide)) fun _ => ?_
  refine tot_ifb (fun h => ?_) fun _ => ?_
  · have h : (ps.length : Int) = 0 := by simpa using h
    omega
  refine tot_ifb (fun h => by have := of_decide_eq_true h; omega) fun _ => ?_
  refine tot_loopX (I := fun i t => t = totL (ps.take i)) (J := fun t => t = totL ps) (E := fun _ => False) rfl (fun i x t hx ht => ?_) (fun t ht => by rw [ht, List.take_length]) (fun t ht => ?_) (fun _ h => h.elim)
  · subst ht
    have hm := List.mem_of_getElem? hx
    have h1 := hw.ln x hm
    have h2 := hw.way x hm
    have h3 := hw.take i
    unfold run_check_b1
    rw [within_eq, within_eq, within_eq, decide_eq_true h1, decide_eq_true (show -40 ≤ x.Grade ∧ x.Grade ≤ 40 from ⟨h2.1, h2.2.1⟩), decide_eq_true (show 1 ≤ x.Speed ∧ x.Speed ≤ 6000 from h2.2.2)]
    simp only [Option.bind_some, Bool.not_true, ifb_false]
    rw [w64_id (by omega) (by omega)]
    exact tot_some (totL_take hx).symm
  · subst ht
    rw [within_eq, within_eq, within_eq, within_eq, decide_eq_true he, decide_eq_true ha, decide_eq_true hv, decide_eq_true hk]
    exact tot_some rfl
/-- what a second works -/
def FW (p : S_api_Stock) (s : S_api_State) (g at_ w : Int) : Option Int :=
  (gquoK .i64 (w64 (s.Speed * s.Speed)) p.Drag).bind fun q => ifb (decide ((w64 ((w64 ((w64 ((w64 (w - s.Speed)) + p.Roll)) + q)) + g)) > 0)) (some (w64 (s.Work + (w64 ((w64 (p.Mass * (w64 ((w64 ((w64 ((w64 (w - s.Speed)) + p.Roll)) + q)) + g)))) * (w64 (at_ - s.At))))))) (some s.Work)
theorem FW_tot (hp : Stk p) {s : S_api_State} (hv : 0 ≤ s.Speed ∧ s.Speed ≤ 6000) (g at_ w : Int) : ∃ k, FW p s g at_ w = some k := by
  obtain ⟨q, hq, _⟩ := drag_quo hv.1 hv.2 hp.drag.1
  unfold FW
  rw [hq, Option.bind_some]
  generalize decide (w64 (w64 (w64 (w64 (w - s.Speed) + p.Roll) + q) + g) > 0) = c
  cases c <;> exact ⟨_, rfl⟩
/-- the greatest of the numbers up to G for which P holds, or one below 'low' -/
structure Top (P : Int → Prop) (low G u : Int) : Prop where
  le : u ≤ G
  no : ∀ v, u < v → v ≤ G → low ≤ v → ¬ P v
  is : low ≤ u → P u
theorem Top.same {P : Int → Prop} {low G u u' : Int} (h : Top P low G u) (h' : Top P low G u') : max u low = max u' low := by
  rcases Int.lt_trichotomy u u' with a | a | a
  · by_cases b : low ≤ u'
    · exact absurd (h'.is b) (h.no u' a h'.le b)
    · omega
  · rw [a]
  · by_cases b : low ≤ u
    · exact absurd (h.is b) (h'.no u a h.le b)
    · omega
def may (p : S_api_Stock) (ps : List S_api_Piece) (st : List Int) (rear front : Int) (sp e v : Int) : Prop := MayOk (p.Brake - 40) (rear - 100 * p.Length) (front + (sp + v + 1) / 2) v e ps st
theorem second_gen {e cap : Int} {m : List (Int × List Int)} {s : S_api_State} (hw : WOk p ps) (hc0 : 0 ≤ cap) (hc : cap ≤ 6000) (hS : Starts ps st)
    (he : 0 ≤ e ∧ e ≤ 18000000) (hm : MEq (p.Brake - 40) m) (hv : 0 ≤ s.Speed ∧ s.Speed ≤ cap) (hat : 0 ≤ s.At ∧ s.At ≤ e) :
    Tot (run_runner_second s p.Name p.Length p.Mass p.Start p.Power p.Roll p.Drag p.Brake p.Top p.Seats ps st e cap m) fun r => ∃ g gn u, GradeAt ps st s.At g ∧ run_gain p s.Speed g = some gn ∧
      Top (may p ps st s.At s.At s.Speed e) (max 0 (s.Speed - (p.Brake + g))) (min (w64 (s.Speed + gn)) cap) u ∧
      r.1.Speed = max u (max 0 (s.Speed - (p.Brake + g))) ∧ r.1.At = s.At + (s.Speed + r.1.Speed + 1) / 2 ∧ FW p s g r.1.At r.1.Speed = some r.1.Work := by
  have hp := hw.stk; have hst := hS.len; have hl := hw.n; have hss := starts_all hS hw.ln hl
  unfold run_runner_second
  have hB := hp.brake
  have hL := hp.length
  have hM := hp.mass
  have hR := hp.roll
  have hd : 0 < p.Brake - 40 := by omega
  refine tot_bind (grade_val _ _ _ _ _ _ _ _ _ _ _ ps st _ _ m hst hl hw.pos) fun r _ hr => ?_
  obtain ⟨g, r2, r3⟩ := r
  obtain ⟨h1, h3, h4⟩ := hr
  dsimp only at h1 h3 h4
  subst h3 h4
  have hg := gradeAt_bound hw.way h1
  refine tot_bind (gain_tot _ _ _ (by show p.Drag ≠ 0; have := hp.drag; omega)) fun gn hgn _ => ?_
  dsimp only
  have hw1 : w64 (p.Brake + g) = p.Brake + g := w64_id (by omega) (by omega)
  have hw2 : w64 (s.Speed - (p.Brake + g)) = s.Speed - (p.Brake + g) := w64_id (by omega) (by omega)
  have hw3 : w64 (100 * p.Length) = 100 * p.Length := w64_id (by omega) (by omega)
  have hw4 : w64 (s.At - 100 * p.Length) = s.At - 100 * p.Length := w64_id (by omega) (by omega)
  refine tot_bind (tot_iter (E := fun c => match c with | .go t => Top (may p r2 r3 s.At s.At s.Speed e) (max 0 (s.Speed - (p.Brake + g))) (min (w64 (s.Speed + gn)) cap) t.1 | .out _ => False)
    (I := fun t => t.1 ≤ min (w64 (s.Speed + gn)) cap ∧ MEq (p.Brake - 40) t.2.1 ∧ t.2.2.1 = r2 ∧ t.2.2.2 = r3 ∧ ∀ v, t.1 < v → v ≤ min (w64 (s.Speed + gn)) cap → max 0 (s.Speed - (p.Brake + g)) ≤ v → ¬ may p r2 r3 s.At s.At s.Speed e v) (μ := fun s => (s.1 + 2).toNat)
    ⟨by rw [gmin_min]; exact Int.le_refl _, hm, rfl, rfl, fun v h1 h2 => by rw [gmin_min] at h1; dsimp only at h1; omega⟩ (by unfold bigN; rw [gmin_min]; dsimp only; omega) ?_) fun c _ hcc => ?_
  · rintro ⟨v, m1, q2, q3⟩ ⟨k1, k2, k3, k4, k5⟩
    dsimp only at k1 k2 k3 k4 k5
    subst k3 k4
    unfold run_runner_second_b1
    dsimp only
    rw [hw1, hw2, hw3, hw4, gmax_max]
    refine tot_bind (P := fun r => MEq (p.Brake - 40) r.2.1 ∧ r.2.2.1 = q2 ∧ r.2.2.2 = q3 ∧ (r.1 = true → 0 ≤ v ∧ ¬ may p q2 q3 s.At s.At s.Speed e v) ∧ (r.1 = false → max 0 (s.Speed - (p.Brake + g)) ≤ v → may p q2 q3 s.At s.At s.Speed e v)) ?_ fun r _ hr => ?_
    · refine tot_ifb (fun h => ?_) fun h => tot_some ⟨k2, rfl, rfl, fun h => (by cases h), fun _ h2 => ?_⟩
      · have h := of_decide_eq_true h
        rw [gone_eq hv.1 (by omega) (by omega) (by omega), Option.bind_some, w64_id (x := s.At + (s.Speed + v + 1) / 2) (by omega) (by omega)]
        refine tot_bind (may_val _ _ v _ _ _ _ _ _ _ p.Brake _ _ q2 q3 e cap m1 (by omega) (by omega) hB hw.way hst hl (by omega) (by omega) hss k2) fun r _ hr => tot_some ⟨hr.2.1, hr.2.2.1, hr.2.2.2, fun h3 => ⟨by omega, fun h4 => ?_⟩, fun h3 _ => ?_⟩
        · have h3 : (!r.1) = true := h3
          have := hr.1.2 h4
          rw [this] at h3; cases h3
        · have h3 : (!r.1) = false := h3
          exact hr.1.1 (by simpa using h3)
      · have h := of_decide_eq_false h
        exact absurd h2 h
    · obtain ⟨j1, j2, j3, j4, j5⟩ := hr
      refine tot_ifb (fun h => tot_some ?_) fun h => tot_some ⟨k1, k5, j5 h⟩
      have := j4 h
      dsimp only
      rw [w64_id (by omega) (by omega)]
      refine ⟨⟨by omega, j1, j2, j3, fun u h1 h2 h3 => ?_⟩, by omega⟩
      by_cases hu : u = v
      · subst hu; exact this.2
      · exact k5 u (by omega) h2 h3
  · refine tot_on (fun q hq => ?_) (fun x hx => ?_)
    · subst hq
      obtain ⟨v, m2, q2, q3⟩ := q
      dsimp only at hcc ⊢
      rw [hw1, hw2, gmax_max, gmax_max]
      have hx2 : max v (max 0 (s.Speed - (p.Brake + g))) ≤ cap := by have := hcc.le; omega
      have hx3 : 0 ≤ max v (max 0 (s.Speed - (p.Brake + g))) := by omega
      generalize hu : max v (max 0 (s.Speed - (p.Brake + g))) = u at *
      rw [gone_eq hv.1 (by omega) hx3 (by omega), Option.bind_some, Option.bind_some, w64_id (x := s.At + (s.Speed + u + 1) / 2) (by omega) (by omega)]
      dsimp only
      obtain ⟨k, hk⟩ := FW_tot hp ⟨hv.1, by omega⟩ g (s.At + (s.Speed + u + 1) / 2) u
      refine tot_bind' (x := k) hk ?_
      exact tot_some ⟨g, gn, v, h1, hgn, hcc, hu.symm, rfl, hk⟩
    · subst hx; exact hcc.elim
theorem Second_gen {e : Int} {s : S_api_State} (hw : WOk p ps) (hS : Starts ps st) (he : 0 ≤ e ∧ e ≤ totL ps) (hat : 0 ≤ s.At ∧ s.At ≤ e) (hv : 0 ≤ s.Speed ∧ s.Speed ≤ p.Top) (hk : 0 ≤ s.Work ∧ s.Work ≤ 1152921504606846976) :
    Tot (run_Second p ps s e) fun r => r.1 = 0 ∧ ∃ g gn u, GradeAt ps st s.At g ∧ run_gain p s.Speed g = some gn ∧
      Top (may p ps st s.At s.At s.Speed e) (max 0 (s.Speed - (p.Brake + g))) (min (w64 (s.Speed + gn)) p.Top) u ∧
      r.2.Speed = max u (max 0 (s.Speed - (p.Brake + g))) ∧ r.2.At = s.At + (s.Speed + r.2.Speed + 1) / 2 ∧ FW p s g r.2.At r.2.Speed = some r.2.Work := by
  have ht := hw.tot
  have hp := hw.stk.top
  unfold run_Second
  refine tot_bind' (check_ok hw he hat hv hk) ?_
  refine tot_ifb (fun h => absurd h (by decide)) fun _ => ?_
  obtain ⟨st', hS', hr⟩ := newRunner_val p ps e p.Top hw.n hw.ln
  have hss : st' = st := by
    refine List.ext_getElem? fun i => ?_
    rcases Nat.lt_or_ge ps.length i with h | h
    · rw [List.getElem?_eq_none (by have := hS'.len; omega), List.getElem?_eq_none (by have := hS.len; omega)]
    · rw [starts_tot hS' i h, starts_tot hS i h]
  subst hss
  refine tot_bind' hr ?_
  dsimp only
  refine tot_bind (second_gen hw (by omega) (by omega) hS' ⟨he.1, by omega⟩ (fun q hq => by simp at hq) hv hat) fun r _ hr => ?_
  exact tot_some ⟨rfl, hr⟩
end
end Gm

/- Package guard: what a train may do. -/
set_option linter.unusedVariables false
set_option linter.unusedSimpArgs false
set_option maxRecDepth 100000
namespace Gm
open Go Hk Hd Pl

theorem gwithin_eq (a b c : Int) : guard_within a b c = some (decide (b ≤ a ∧ a ≤ c)) := within_eq a b c
theorem half_eq {v w : Int} (h0 : 0 ≤ v) (h1 : v ≤ 6001) (h2 : 0 ≤ w) (h3 : w ≤ 6001) : gquoK .i64 (w64 ((w64 (v + w)) + 1)) 2 = some ((v + w + 1) / 2) := by
  rw [w64_id (x := v + w) (by omega) (by omega), w64_id (x := v + w + 1) (by omega) (by omega)]
  unfold gquoK
  rw [if_neg (by decide), Int.tdiv_eq_ediv_of_nonneg (by omega)]
  exact congrArg some (w64_id (by omega) (by omega))
theorem ginto_val (v t : Int) (p2 : ByteArray) (p3 p4 p5 p6 p7 p8 B p10 p11 : Int) (ps : List S_api_Piece) (m : List (Int × List Int)) (h0 : 0 ≤ v) (hv : v ≤ 6000) (ht : 0 ≤ t) (hB : 60 ≤ B ∧ B ≤ 150) (hm : MEq (B - 40) m) :
    Tot (guard_rule_into v t p2 p3 p4 p5 p6 p7 p8 B p10 p11 ps m) fun r => r.1 = inD (B - 40) t v ∧ MEq (B - 40) r.2.1 ∧ r.2.2 = ps := by
  unfold guard_rule_into
  have hd : 0 < B - 40 := by omega
  refine tot_ifb (fun h => tot_some ⟨?_, hm, rfl⟩) fun hvt => ?_
  · have h : v ≤ t := of_decide_eq_true h
    rw [inD_le h]
  have hvt : ¬ v ≤ t := of_decide_eq_false hvt
  have hl := mfind_eq hm t
  generalize (mfind ieq t m).getD [] = l0 at hl
  refine tot_bind (tot_iter (E := fun c => match c with | .go l => l.length ≤ 6001 ∧ v < l.length ∧ ∀ (i : Nat) z, l[i]? = some z → z = inD (B - 40) t i | .out _ => False) (I := fun s => s.1 = s.2.length ∧ s.2.length ≤ 6001 ∧ ∀ (i : Nat) z, s.2[i]? = some z → z = inD (B - 40) t i) (μ := fun s => (6001 - s.1).toNat) ⟨rfl, hl.1, hl.2⟩ (by unfold bigN; dsimp only; omega) ?_) fun c _ hc => ?_
  · rintro ⟨i, l⟩ ⟨h1, h2, h3⟩
    dsimp only at h1 h2 h3
    unfold guard_rule_into_b1
    dsimp only
    refine tot_ifb (fun hle => ?_) fun hgt => tot_some ?_
    · have hle : i ≤ v := of_decide_eq_true hle
      refine tot_bind (P := fun x => x = inD (B - 40) t i) ?_ fun x _ hx => ?_
      · refine tot_ifb (fun hit => ?_) fun hit => tot_some ?_
        · have hit : i > t := of_decide_eq_true hit
          rw [w64_id (x := B - 40) (by omega) (by omega), w64_id (x := i - (B - 40)) (by omega) (by omega), gmax_max, half_eq (by omega) (by omega) (by omega) (by omega), Option.bind_some]
          have hu0 : 0 ≤ max t (i - (B - 40)) := by omega
          have hul : max t (i - (B - 40)) < (l.length : Int) := by omega
          refine tot_bind (tot_idx (Q := fun y => y = inD (B - 40) t (max t (i - (B - 40)))) 0 hu0 hul ?_) fun y _ hy => tot_some ?_
          · have := h3 (max t (i - (B - 40))).toNat (nth 0 l (max t (i - (B - 40)))) (by
              unfold nth
              rw [List.getElem?_eq_getElem (by omega)]
              rfl)
            rw [this, Int.toNat_of_nonneg hu0]
          · subst hy
            have e := inD_gt hd hit
            have b := inD_big hd ht (v := max t (i - (B - 40))) (by omega)
            rw [w64_id (by omega) (by omega), e]
        · have hit : ¬ i > t := of_decide_eq_false hit
          rw [inD_le (by omega)]
      · rw [gapp_ok (by simp only [List.length_cons, List.length_nil]; omega) (by simp only [List.length_cons, List.length_nil]; omega), Option.bind_some]
        refine tot_some ?_
        rw [w64_id (by omega) (by omega)]
        refine ⟨⟨?_, ?_, fun j z hz => ?_⟩, ?_⟩
        · simp only [List.length_append, List.length_cons, List.length_nil]; omega
        · simp only [List.length_append, List.length_cons, List.length_nil]; omega
        · rcases Nat.lt_trichotomy j l.length with hj | hj | hj
          · rw [List.getElem?_append_left hj] at hz
            exact h3 j z hz
          · subst hj
            rw [List.getElem?_append_right (Nat.le_refl _)] at hz
            simp at hz
            rw [← hz, hx, h1]
          · rw [List.getElem?_eq_none (by simp; omega)] at hz; cases hz
        · dsimp only; omega
    · have hgt : ¬ i ≤ v := of_decide_eq_false hgt
      exact ⟨h2, by omega, h3⟩
  · refine tot_on (fun l hl => ?_) (fun x hx => ?_)
    · subst hl
      rw [keyIs_self, Option.bind_some]
      obtain ⟨c1, c2, c3⟩ := hc
      refine tot_bind (tot_idx (Q := fun y => y = inD (B - 40) t v) 0 h0 c2 ?_) fun y _ hy => tot_some ⟨hy, mset_eq (mset_eq hm c1 c3) c1 c3, rfl⟩
      have := c3 v.toNat (nth 0 l v) (by
        unfold nth
        rw [List.getElem?_eq_getElem (by omega)]
        rfl)
      rw [this, Int.toNat_of_nonneg h0]
    · subst hx; exact hc.elim
section
variable {p : S_api_Stock} {ps : List S_api_Piece} {st : List Int}
theorem gmay_val (low front e v : Int) (m : List (Int × List Int)) (hw : WOk p ps) (hS : Starts ps st) (hv0 : 0 ≤ v) (hv : v ≤ 6000) (hf : 0 ≤ front ∧ front ≤ 20000000) (he : 0 ≤ e ∧ e ≤ 20000000) (hl : 0 ≤ low ∧ low ≤ 20000000) (hm : MEq (p.Brake - 40) m) :
    Tot (guard_rule_may low front e v p.Name p.Length p.Mass p.Start p.Power p.Roll p.Drag p.Brake p.Top p.Seats ps m) fun r => (r.1 = true ↔ MayOk (p.Brake - 40) (low - 100 * p.Length) front v e ps st) ∧ MEq (p.Brake - 40) r.2.1 ∧ r.2.2 = ps := by
  have hB := hw.stk.brake; have hLn := hw.stk.length
  have hlen := hS.len
  have hss := starts_all hS hw.ln hw.n
  unfold guard_rule_may
  refine tot_bind (ginto_val v 0 _ _ _ _ _ _ _ p.Brake _ _ ps m hv0 hv (by omega) hB hm) fun r _ hr => ?_
  obtain ⟨h0, h1, h2⟩ := hr
  rw [h0, w64_id (x := e - front) (by omega) (by omega)]
  refine tot_ifb (fun h => tot_some ⟨⟨fun h => (by cases h), fun hk => ?_⟩, h1, h2⟩) fun h => ?_
  · have h : inD (p.Brake - 40) 0 v > e - front := of_decide_eq_true h
    have := hk.stop
    omega
  have hstop : ¬ inD (p.Brake - 40) 0 v > e - front := of_decide_eq_false h
  rw [h2]
  refine tot_loopX (I := fun k s => st[k]? = some s.1 ∧ MEq (p.Brake - 40) s.2.1 ∧ s.2.2 = ps ∧ ∀ (i : Nat) x a b, i < k → ps[i]? = some x → st[i]? = some a → st[i + 1]? = some b → (front ≤ a → inD (p.Brake - 40) x.Speed v ≤ a - front) ∧ (a < front → low - 100 * p.Length < b → v ≤ x.Speed))
    (J := fun s => MEq (p.Brake - 40) s.2.1 ∧ s.2.2 = ps ∧ MayOk (p.Brake - 40) (low - 100 * p.Length) front v e ps st) (E := fun r => r.1 = false ∧ ¬ MayOk (p.Brake - 40) (low - 100 * p.Length) front v e ps st ∧ MEq (p.Brake - 40) r.2.1 ∧ r.2.2 = ps)
    ⟨hS.zero, h1, rfl, fun i x a b hi => by omega⟩ (fun i x s hx hs' => ?_) (fun s hs' => ?_) (fun s hs' => tot_some ⟨⟨fun _ => hs'.2.2, fun _ => rfl⟩, hs'.1, hs'.2.1⟩) (fun r hr => tot_some ⟨⟨fun h => (by rw [hr.1] at h; cases h), fun h => absurd h hr.2.1⟩, hr.2.2⟩)
  · obtain ⟨a, m1, s2⟩ := s
    obtain ⟨ga, k1, k2, k4⟩ := hs'
    dsimp only at ga k1 k2 k4
    subst k2
    have hi := (List.getElem?_eq_some_iff.1 hx).1
    have hxm := List.mem_of_getElem? hx
    have hxw := hw.way x hxm
    have hxl := hw.ln x hxm
    have ra := hss _ (List.mem_of_getElem? ga)
    have gb := hS.next i x a hx ga
    have wb : w64 (a + x.Length) = a + x.Length := w64_id (by omega) (by omega)
    have step : ((front ≤ a → inD (p.Brake - 40) x.Speed v ≤ a - front) ∧ (a < front → low - 100 * p.Length < a + x.Length → v ≤ x.Speed)) → ∀ (j : Nat) y a' b', j < i + 1 → s2[j]? = some y → st[j]? = some a' → st[j + 1]? = some b' → (front ≤ a' → inD (p.Brake - 40) y.Speed v ≤ a' - front) ∧ (a' < front → low - 100 * p.Length < b' → v ≤ y.Speed) := by
      intro hh j y a' b' hj hy ha' hb'
      by_cases hji : j = i
      · subst hji
        rw [hx] at hy; rw [ga] at ha'; rw [gb] at hb'
        injection hy with hy; injection ha' with ha'; injection hb' with hb'
        subst hy ha' hb'
        exact hh
      · exact k4 j y a' b' (by omega) hy ha' hb'
    unfold guard_rule_may_b1
    dsimp only
    refine tot_bind (P := fun c => match c with
      | .go t => MEq (p.Brake - 40) t.1 ∧ t.2 = s2 ∧ ((front ≤ a → inD (p.Brake - 40) x.Speed v ≤ a - front) ∧ (a < front → low - 100 * p.Length < a + x.Length → v ≤ x.Speed))
      | .out r => r.1 = false ∧ ¬ MayOk (p.Brake - 40) (low - 100 * p.Length) front v e s2 st ∧ MEq (p.Brake - 40) r.2.1 ∧ r.2.2 = s2) ?_ fun c _ hc => ?_
    · refine tot_ifb (fun h => ?_) fun h => ?_
      · have h : a ≥ front := of_decide_eq_true h
        refine tot_bind (ginto_val v x.Speed _ _ _ _ _ _ _ p.Brake _ _ s2 m1 hv0 hv (by omega) hB k1) fun r _ hr => ?_
        obtain ⟨q0, q1, q2⟩ := hr
        rw [q0, w64_id (x := a - front) (by omega) (by omega)]
        refine tot_ifb (fun h2 => tot_some ⟨rfl, fun hk => ?_, q1, q2⟩) fun h2 => tot_some ⟨q1, q2, ⟨fun _ => ?_, fun h3 => by omega⟩⟩
        · have h2 : inD (p.Brake - 40) x.Speed v > a - front := of_decide_eq_true h2
          have := hk.ahead i x a hx ga h
          omega
        · have h2 : ¬ inD (p.Brake - 40) x.Speed v > a - front := of_decide_eq_false h2
          omega
      · have h : ¬ a ≥ front := of_decide_eq_false h
        rw [wb, w64_id (x := 100 * p.Length) (by omega) (by omega), w64_id (x := low - 100 * p.Length) (by omega) (by omega)]
        refine tot_bind (P := fun t => t = true ↔ low - 100 * p.Length < a + x.Length ∧ ¬ v ≤ x.Speed) ?_ fun t _ ht => ?_
        · refine tot_ifb (fun h2 => tot_some ?_) fun h2 => tot_some ?_
          · have h2 : a + x.Length > low - 100 * p.Length := of_decide_eq_true h2
            simp only [decide_eq_true_eq]
            omega
          · have h2 : ¬ a + x.Length > low - 100 * p.Length := of_decide_eq_false h2
            constructor
            · intro h3; cases h3
            · rintro ⟨h3, _⟩; omega
        · refine tot_ifb (fun h2 => tot_some ⟨rfl, fun hk => ?_, k1, rfl⟩) fun h2 => tot_some ⟨k1, rfl, ⟨fun h3 => by omega, fun _ h3 => ?_⟩⟩
          · obtain ⟨h3, h4⟩ := ht.1 h2
            exact h4 (hk.touched i x a _ hx ga gb (by omega) h3)
          · by_cases h4 : x.Speed < v
            · have := ht.2 ⟨h3, by omega⟩
              rw [h2] at this; cases this
            · omega
    · cases c with
      | out r => exact tot_some hc
      | go t =>
        obtain ⟨c1, c2, c3⟩ := hc
        refine tot_some ?_
        show st[i + 1]? = some (w64 (a + x.Length)) ∧ _
        rw [wb]
        exact ⟨gb, c1, c2, step c3⟩
  · obtain ⟨_, k1, k2, k4⟩ := hs'
    refine ⟨k1, k2, ⟨by omega, fun i x a hx ha hfa => ?_, fun i x a b hx ha hb h4 h5 => ?_⟩⟩
    · have hi := (List.getElem?_eq_some_iff.1 hx).1
      obtain ⟨b, hb⟩ : ∃ b, st[i + 1]? = some b := ⟨st[i + 1]'(by omega), List.getElem?_eq_getElem (by omega)⟩
      exact (k4 i x a b hi hx ha hb).1 hfa
    · exact (k4 i x a b (List.getElem?_eq_some_iff.1 hx).1 hx ha hb).2 h4 h5
/-- the greatest speed that may be -/
structure Perm (P : Int → Prop) (top M : Int) : Prop where
  ge : -1 ≤ M
  le : M ≤ top
  no : ∀ v, M < v → v ≤ top → 0 ≤ v → ¬ P v
  is : 0 ≤ M → P M
theorem permit_val {low high e sp : Int} (hw : WOk p ps) (hS : Starts ps st) (hl : 0 ≤ low) (hlh : low ≤ high) (hh : high ≤ totL ps) (he : 0 ≤ e ∧ e ≤ totL ps) (hv : 0 ≤ sp ∧ sp ≤ p.Top) :
    Tot (guard_Permit p ps low high e sp) fun r => r.2 = 0 ∧ Perm (may p ps st low high sp e) p.Top r.1 := by
  have ht := hw.tot; have hp := hw.stk.top
  unfold guard_Permit
  refine tot_bind (Second_gen (s := S_api_State.mk 0 0 0) (e := 0) hw hS (by omega) ⟨Int.le_refl _, Int.le_refl _⟩ ⟨Int.le_refl _, by show (0 : Int) ≤ p.Top; omega⟩ ⟨Int.le_refl _, by decide⟩) fun r _ hr => ?_
  refine tot_ifb (fun h => by rw [hr.1] at h; cases h) fun _ => ?_
  refine tot_loopX (I := fun i t => t = totL (ps.take i)) (J := fun t => t = totL ps) (E := fun _ => False) rfl (fun i x t hx ht => ?_) (fun t ht => by rw [ht, List.take_length]) (fun t htt => ?_) (fun _ h => h.elim)
  · subst ht
    have h1 := hw.ln x (List.mem_of_getElem? hx)
    have h3 := hw.take i
    unfold guard_Permit_b1
    rw [w64_id (by omega) (by omega)]
    exact tot_some (totL_take hx).symm
  · subst htt
    rw [gwithin_eq, gwithin_eq, gwithin_eq, gwithin_eq, decide_eq_true (show 0 ≤ low ∧ low ≤ totL ps by omega), decide_eq_true (show 0 ≤ high ∧ high ≤ totL ps by omega), decide_eq_true he, decide_eq_true hv, decide_eq_false (show ¬ low > high by omega)]
    simp only [Option.bind_some, Bool.not_true, ifb_false]
    refine tot_bind (tot_iter (E := fun c => match c with | .go t => Perm (may p ps st low high sp e) p.Top t.1 | .out _ => False)
      (I := fun t => (-1 ≤ t.1 ∧ t.1 ≤ p.Top) ∧ MEq (p.Brake - 40) t.2.1 ∧ t.2.2 = ps ∧ ∀ v, t.1 < v → v ≤ p.Top → 0 ≤ v → ¬ may p ps st low high sp e v) (μ := fun t => (t.1 + 2).toNat)
      ⟨⟨by dsimp only; omega, Int.le_refl _⟩, fun q hq => by simp at hq, rfl, fun v h1 h2 => by dsimp only at h1; omega⟩ (by unfold bigN; dsimp only; omega) ?_) fun c _ hcc => ?_
    · rintro ⟨v, m1, q2⟩ ⟨⟨k0, k1⟩, k2, k3, k4⟩
      dsimp only at k0 k1 k2 k3 k4
      subst k3
      unfold guard_Permit_b2
      dsimp only
      refine tot_bind (P := fun r => MEq (p.Brake - 40) r.2.1 ∧ r.2.2 = q2 ∧ (r.1 = true → 0 ≤ v ∧ ¬ may p q2 st low high sp e v) ∧ (r.1 = false → 0 ≤ v → may p q2 st low high sp e v)) ?_ fun r _ hr => ?_
      · refine tot_ifb (fun h => ?_) fun h => tot_some ⟨k2, rfl, fun h => (by cases h), fun _ h2 => absurd h2 (of_decide_eq_false h)⟩
        have h : v ≥ 0 := of_decide_eq_true h
        refine tot_bind' (half_eq hv.1 (by omega) h (by omega)) ?_
        rw [w64_id (x := high + (sp + v + 1) / 2) (by omega) (by omega)]
        refine tot_bind (gmay_val low _ e v m1 hw hS h (by omega) (by omega) (by omega) (by omega) k2) fun r _ hr => tot_some ⟨hr.2.1, hr.2.2, fun h3 => ⟨h, fun h4 => ?_⟩, fun h3 _ => ?_⟩
        · have h3 : (!r.1) = true := h3
          have := hr.1.2 h4
          rw [this] at h3; cases h3
        · have h3 : (!r.1) = false := h3
          exact hr.1.1 (by simpa using h3)
      · obtain ⟨j1, j2, j4, j5⟩ := hr
        refine tot_ifb (fun h => tot_some ?_) fun h => tot_some ⟨k0, k1, k4, j5 h⟩
        have := j4 h
        dsimp only
        rw [w64_id (by omega) (by omega)]
        refine ⟨⟨⟨by omega, by omega⟩, j1, j2, fun u h1 h2 h3 => ?_⟩, by omega⟩
        by_cases hu : u = v
        · subst hu; exact this.2
        · exact k4 u (by omega) h2 h3
    · refine tot_on (fun q hq => ?_) (fun x hx => ?_)
      · subst hq; exact tot_some ⟨rfl, hcc⟩
      · subst hx; exact hcc.elim
/-- a second that is supervised -/
structure Nx (p : S_api_Stock) (ps : List S_api_Piece) (st : List Int) (s : S_api_State) (low high e dem : Int) (r : S_api_State) : Prop where
  ex : ∃ g gn M, GradeAt ps st s.At g ∧ run_gain p s.Speed g = some gn ∧ Perm (may p ps st low high s.Speed e) p.Top M ∧
    r.Speed = max (min (min (min dem M) (w64 (s.Speed + gn))) p.Top) (max 0 (s.Speed - (p.Brake + g))) ∧ r.At = s.At + (s.Speed + r.Speed + 1) / 2 ∧ FW p s g r.At r.Speed = some r.Work
theorem next_val {s : S_api_State} {low high e dem : Int} (hw : WOk p ps) (hS : Starts ps st) (hl : 0 ≤ low) (hla : low ≤ s.At) (hah : s.At ≤ high) (hh : high ≤ totL ps) (he : 0 ≤ e ∧ e ≤ totL ps) (hv : 0 ≤ s.Speed ∧ s.Speed ≤ p.Top) (hk : 0 ≤ s.Work ∧ s.Work ≤ 1152921504606846976) (hd : 0 ≤ dem ∧ dem ≤ 6000) :
    Tot (guard_Next p ps s low high e dem) fun r => r.1 = 0 ∧ Nx p ps st s low high e dem r.2 := by
  have ht := hw.tot; have hp := hw.stk.top; have hB := hw.stk.brake
  unfold guard_Next
  refine tot_bind (permit_val hw hS hl (by omega) hh he hv) fun r _ hr => ?_
  obtain ⟨M, er⟩ := r
  obtain ⟨h1, h2⟩ := hr
  dsimp only at h1 h2 ⊢
  subst h1
  refine tot_ifb (fun h => absurd h (by decide)) fun _ => ?_
  rw [gwithin_eq, gwithin_eq, gwithin_eq, decide_eq_true (show low ≤ s.At ∧ s.At ≤ high from ⟨hla, hah⟩), decide_eq_true hk, decide_eq_true hd]
  simp only [Option.bind_some, Bool.not_true, ifb_false]
  refine tot_loopX (I := fun k t => st[k]? = some t.2 ∧ (0 < k → ∃ (i : Nat) (x : S_api_Piece), i < k ∧ ps[i]? = some x ∧ t.1 = x.Grade ∧ (∃ c, st[i]? = some c ∧ c ≤ s.At) ∧ (i + 1 < k → ∃ c, st[i + 1]? = some c ∧ s.At < c))) (J := fun t => GradeAt ps st s.At t.1) (E := fun r => False)
    ⟨hS.zero, fun h => by omega⟩ (fun k x t hx hs => ?_) (fun t hs => ?_) (fun t hs => ?_) (fun r hr => hr.elim)
  · obtain ⟨g0, c⟩ := t
    obtain ⟨k1, k2⟩ := hs
    dsimp only at k1 k2
    have hk := (List.getElem?_eq_some_iff.1 hx).1
    have hxL := hw.ln x (List.mem_of_getElem? hx)
    have hcb := starts_all hS hw.ln hw.n c (List.mem_of_getElem? k1)
    have hn := hS.next k x c hx k1
    unfold guard_Next_b1
    dsimp only
    refine tot_bind (P := fun g => (c ≤ s.At → g = x.Grade) ∧ (¬ c ≤ s.At → g = g0)) ?_ fun g _ hg => ?_
    · refine tot_ifb (fun h => tot_some ?_) fun h => tot_some ?_
      · have h : c ≤ s.At := of_decide_eq_true h
        exact ⟨fun _ => rfl, fun h2 => absurd h h2⟩
      · have h : ¬ c ≤ s.At := of_decide_eq_false h
        exact ⟨fun h2 => absurd h2 h, fun _ => rfl⟩
    · refine tot_some ?_
      show st[k + 1]? = some (w64 (c + x.Length)) ∧ _
      rw [w64_id (x := c + x.Length) (by omega) (by omega)]
      refine ⟨hn, fun _ => ?_⟩
      by_cases h : c ≤ s.At
      · exact ⟨k, x, by omega, hx, hg.1 h, ⟨c, k1, h⟩, fun h2 => by omega⟩
      · rcases Nat.eq_zero_or_pos k with hk0 | hk0
        · subst hk0
          have := hS.zero
          rw [k1] at this
          injection this with this
          omega
        · obtain ⟨i, y, i1, i2, i3, i4, i5⟩ := k2 hk0
          refine ⟨i, y, by omega, i2, by rw [hg.2 h]; exact i3, i4, fun h2 => ?_⟩
          rcases Nat.lt_or_ge (i + 1) k with h3 | h3
          · exact i5 h3
          · have : i + 1 = k := by omega
            rw [this]
            exact ⟨c, k1, by omega⟩
  · obtain ⟨i, x, i1, i2, i3, i4, i5⟩ := hs.2 hw.pos
    exact ⟨i, x, i2, i3, fun _ => i4, fun h2 => i5 h2⟩
  · obtain ⟨g, c⟩ := t
    dsimp only at hs ⊢
    have hgb := gradeAt_bound hw.way hs
    obtain ⟨gn, hgn, _⟩ := gain_tot p s.Speed g (by have := hw.stk.drag; omega)
    refine tot_bind' (Gain_val hw.ck ⟨hv.1, by omega⟩ hgb hgn) ?_
    dsimp only
    have hw1 : w64 (p.Brake + g) = p.Brake + g := w64_id (by omega) (by omega)
    have hw2 : w64 (s.Speed - (p.Brake + g)) = s.Speed - (p.Brake + g) := w64_id (by omega) (by omega)
    rw [hw1, hw2, gmax_max, gmax_max, gmin_min, gmin_min, gmin_min]
    have hle := h2.le
    have hx3 : 0 ≤ max (min (min (min dem M) (w64 (s.Speed + gn))) p.Top) (max 0 (s.Speed - (p.Brake + g))) := by omega
    have hx4 : max (min (min (min dem M) (w64 (s.Speed + gn))) p.Top) (max 0 (s.Speed - (p.Brake + g))) ≤ 6000 := by omega
    generalize hu : max (min (min (min dem M) (w64 (s.Speed + gn))) p.Top) (max 0 (s.Speed - (p.Brake + g))) = u at hx3 hx4 ⊢
    refine tot_bind' (half_eq hv.1 (by omega) hx3 (by omega)) ?_
    rw [w64_id (x := s.At + (s.Speed + u + 1) / 2) (by omega) (by omega)]
    obtain ⟨k, hk'⟩ := FW_tot hw.stk ⟨hv.1, by omega⟩ g (s.At + (s.Speed + u + 1) / 2) u
    refine tot_bind' (x := k) hk' ?_
    exact tot_some ⟨rfl, ⟨g, gn, M, hs, hgn, h2, hu.symm, rfl, hk'⟩⟩
/-- less speed, and a place that is known better -/
theorem may_le {d rear rear' front front' v v' e : Int} (hd : 0 < d) (hw : WOk p ps) (hS : Starts ps st) (h : MayOk d rear front v e ps st) (hr : rear ≤ rear') (hf : front' ≤ front) (hrf : rear ≤ front') (h0 : 0 ≤ v') (hv : v' ≤ v) (h6 : v ≤ 6000) : MayOk d rear' front' v' e ps st := by
  refine ⟨?_, fun i x a hx ha hfa => ?_, fun i x a b hx ha hb h1 h2 => ?_⟩
  · have := inD_mono hd (Int.le_refl 0) _ v' v (Nat.le_refl _) hv (by omega)
    have := h.stop
    omega
  · have hxw := hw.way x (List.mem_of_getElem? hx)
    have hxl := hw.ln x (List.mem_of_getElem? hx)
    by_cases hfa' : front ≤ a
    · have := inD_mono hd (show 0 ≤ x.Speed by omega) _ v' v (Nat.le_refl _) hv (by omega)
      have := h.ahead i x a hx ha hfa'
      omega
    · have := h.touched i x a _ hx ha (hS.next i x a hx ha) (by omega) (by omega)
      rw [inD_le (by omega)]; omega
  · have := h.touched i x a b hx ha hb (by omega) (by omega)
    omega
end
end Gm

/- GuardStops: the law. -/
set_option linter.unusedVariables false
set_option linter.unusedSimpArgs false
set_option maxRecDepth 100000
namespace Gm
open Go Hk Hd Pl

theorem quo_nn {x c : Int} (h0 : 0 ≤ x) (h1 : x ≤ 4000000000000000000) (hc : 0 < c) : gquoK .i64 x c = some (x / c) ∧ 0 ≤ x / c ∧ x / c ≤ x := by
  have a : 0 ≤ x / c := Int.ediv_nonneg h0 (by omega)
  have b : x / c ≤ x := Int.ediv_le_self c h0
  refine ⟨?_, a, b⟩
  unfold gquoK
  rw [if_neg (by omega), Int.tdiv_eq_ediv_of_nonneg h0]
  exact congrArg some (w64_id (by omega) (by omega))
theorem span_val {last m : Int} (hl : 0 ≤ last ∧ last ≤ 20000000) : Tot (guard_Span last m true) fun r => r.2.2 = 0 → 0 ≤ m ∧ m ≤ 20000000 ∧ ∃ sl, 200 ≤ sl ∧ sl ≤ 20000200 ∧ r.1 = max last (last + m - sl) ∧ r.2.1 = last + m + sl := by
  unfold guard_Span
  rw [gwithin_eq, gwithin_eq, decide_eq_true hl]
  simp only [Option.bind_some, Bool.not_true, ifb_false]
  by_cases hm : 0 ≤ m ∧ m ≤ 20000000
  · rw [decide_eq_true hm]
    simp only [Bool.not_true, ifb_false]
    obtain ⟨q1, q2, q3⟩ := quo_nn (c := 20) hm.1 (by omega) (by omega)
    rw [q1, Option.bind_some, gmax_max, w64_id (x := last + m) (by omega) (by omega), w64_id (x := 200 + m / 20) (by omega) (by omega), w64_id (x := last + m - (200 + m / 20)) (by omega) (by omega), w64_id (x := last + m + (200 + m / 20)) (by omega) (by omega)]
    exact tot_some fun _ => ⟨hm.1, hm.2, 200 + m / 20, by omega, by omega, rfl, rfl⟩
  · rw [decide_eq_false hm]
    exact tot_some fun h => absurd h (by decide)
section
variable {p : S_api_Stock} {ps : List S_api_Piece} {st : List Int}
theorem stop_val (hw : WOk p ps) {v : Int} (hv : 0 ≤ v ∧ v ≤ 6000) : Tot (run_Stop p v) fun r => r.1 = inD (p.Brake - 40) 0 v := by
  have hB := hw.stk.brake
  have hd : 0 < p.Brake - 40 := by omega
  unfold run_Stop run_Into
  refine tot_bind (P := fun r => r.1 = inD (p.Brake - 40) 0 v) ?_ fun r _ hr => tot_some hr
  refine tot_bind' hw.ck ?_
  refine tot_ifb (fun h => absurd h (by decide)) fun _ => ?_
  rw [within_eq, within_eq, decide_eq_true hv]
  simp only [Option.bind_some, Bool.not_true, ifb_false]
  refine tot_ifb (fun h => absurd h (by decide)) fun _ => ?_
  refine tot_bind (P := fun r => r = inD (p.Brake - 40) 0 v) ?_ fun r _ hr => tot_some hr
  unfold run_into
  have hbv := inD_big hd (Int.le_refl 0) (v := v) (by omega)
  refine tot_bind (tot_iter (E := fun c => match c with | .go t => t = inD (p.Brake - 40) 0 v | .out _ => False) (I := fun t => (0 ≤ t.1 ∧ t.1 ≤ 6000) ∧ 0 ≤ t.2 ∧ t.2 + inD (p.Brake - 40) 0 t.1 = inD (p.Brake - 40) 0 v) (μ := fun t => t.1.toNat) ⟨hv, Int.le_refl _, by dsimp only; omega⟩ (by unfold bigN; dsimp only; omega) ?_) fun c _ hc => ?_
  · rintro ⟨x, sum⟩ ⟨x1, x2, x3⟩
    dsimp only at x1 x2 x3
    unfold run_into_b1
    dsimp only
    refine tot_ifb (fun h => ?_) fun h => tot_some ?_
    · have h : x > 0 := of_decide_eq_true h
      rw [w64_id (x := p.Brake - 40) (by omega) (by omega), w64_id (x := x - (p.Brake - 40)) (by omega) (by omega), gmax_max, gone_eq (by omega) (by omega) (by omega) (by omega), Option.bind_some]
      have e := inD_gt hd (show 0 < x from h)
      have b := inD_big hd (Int.le_refl 0) (v := max 0 (x - (p.Brake - 40))) (by omega)
      rw [w64_id (by omega) (by omega)]
      exact tot_some ⟨⟨by dsimp only; omega, by dsimp only; omega, by dsimp only; omega⟩, by dsimp only; omega⟩
    · have h : ¬ x > 0 := of_decide_eq_false h
      rw [inD_le (by omega)] at x3
      show sum = _
      omega
  · refine tot_on (fun q hq => ?_) (fun x hx => ?_)
    · subst hq; exact tot_some hc
    · subst hx; exact hc.elim
theorem FW_bd (hw : WOk p ps) {s : S_api_State} (hv : 0 ≤ s.Speed ∧ s.Speed ≤ 6000) {g u k : Int} (hg : -40 ≤ g ∧ g ≤ 40) (hu : 0 ≤ u ∧ u ≤ 6000) (hk : 0 ≤ s.Work ∧ s.Work ≤ 1000000000000000) (ha : 0 ≤ s.At ∧ s.At ≤ 20000000) (h : FW p s g (s.At + (s.Speed + u + 1) / 2) u = some k) : s.Work ≤ k ∧ k ≤ s.Work + 100000000000 := by
  have hM := hw.stk.mass; have hR := hw.stk.roll
  obtain ⟨q, hq, hq0, hq1⟩ := drag_quo hv.1 hv.2 hw.stk.drag.1
  unfold FW at h
  rw [hq, Option.bind_some, w64_id (x := u - s.Speed) (by omega) (by omega), w64_id (x := u - s.Speed + p.Roll) (by omega) (by omega), w64_id (x := u - s.Speed + p.Roll + q) (by omega) (by omega), w64_id (x := u - s.Speed + p.Roll + q + g) (by omega) (by omega),
    w64_id (x := s.At + (s.Speed + u + 1) / 2 - s.At) (by omega) (by omega)] at h
  have hF : u - s.Speed + p.Roll + q + g ≤ 7000 := by omega
  by_cases h0 : u - s.Speed + p.Roll + q + g > 0
  · rw [decide_eq_true h0, ifb_true] at h
    injection h with h
    generalize u - s.Speed + p.Roll + q + g = F at h0 hF h
    have hdist0 : 0 ≤ s.At + (s.Speed + u + 1) / 2 - s.At := by omega
    have hdist1 : s.At + (s.Speed + u + 1) / 2 - s.At ≤ 6001 := by omega
    generalize s.At + (s.Speed + u + 1) / 2 - s.At = dd at hdist0 hdist1 h
    have e1 : 0 ≤ p.Mass * F := Int.mul_nonneg (by omega) (by omega)
    have e2 : p.Mass * F ≤ 2000 * 7000 := Int.mul_le_mul hM.2 hF (by omega) (by omega)
    rw [w64_id (x := p.Mass * F) (by omega) (by omega)] at h
    have e3 : 0 ≤ p.Mass * F * dd := Int.mul_nonneg e1 hdist0
    have e4 : p.Mass * F * dd ≤ (2000 * 7000) * 6001 := Int.mul_le_mul e2 hdist1 hdist0 (by omega)
    rw [w64_id (x := p.Mass * F * dd) (by omega) (by omega), w64_id (x := s.Work + p.Mass * F * dd) (by omega) (by omega)] at h
    omega
  · rw [decide_eq_false h0, ifb_false] at h
    injection h with h
    omega
theorem limits_ok (hw : WOk p ps) (hS : Starts ps st) {now x : S_api_State} {e : Int} (ha : 0 ≤ now.At ∧ now.At ≤ 20000000) (h : MayOk (p.Brake - 40) (now.At - 100 * p.Length) x.At x.Speed e ps st) : fishkeep1_limitsKept p ps now x = some true := by
  have hL := hw.stk.length
  refine tot_eq (?_ : Tot _ (· = true))
  unfold fishkeep1_limitsKept
  refine tot_loopX (I := fun i t => st[i]? = some t) (J := fun _ => True) (E := fun _ => False) hS.zero (fun i y t hy ht => ?_) (fun _ _ => trivial) (fun _ _ => tot_some rfl) (fun _ h => h.elim)
  have hyl := hw.ln y (List.mem_of_getElem? hy)
  have hn := hS.next i y t hy ht
  have htb := starts_all hS hw.ln hw.n t (List.mem_of_getElem? ht)
  unfold fishkeep1_limitsKept_b1
  rw [w64_id (x := t + y.Length) (by omega) (by omega), w64_id (x := 100 * p.Length) (by omega) (by omega), w64_id (x := now.At - 100 * p.Length) (by omega) (by omega)]
  refine tot_bind (P := fun b => b = false) ?_ fun b _ hb => by subst hb; exact tot_some hn
  refine tot_ifb (fun h1 => ?_) fun _ => tot_some rfl
  have h1 : t < x.At := of_decide_eq_true h1
  refine tot_ifb (fun h2 => ?_) fun _ => tot_some rfl
  have h2 : t + y.Length > now.At - 100 * p.Length := of_decide_eq_true h2
  have := h.touched i y t _ hy ht hn h1 (by omega)
  exact tot_some (decide_eq_false (by omega))
/-- where a ride stands -/
structure Ri (p : S_api_Stock) (ps : List S_api_Piece) (st : List Int) (i : Nat) (t : Int × Int × Int × Int × Int) : Prop where
  e : 0 ≤ t.1 ∧ t.1 ≤ totL ps
  last : 0 ≤ t.2.1 ∧ t.2.1 ≤ 20000000
  at_ : 0 ≤ t.2.2.1 ∧ t.2.2.1 ≤ t.1
  v : 0 ≤ t.2.2.2.1 ∧ t.2.2.2.1 ≤ p.Top
  w : 0 ≤ t.2.2.2.2 ∧ t.2.2.2.2 ≤ i * 100000000000
  safe : Safe (p.Brake - 40) p.Length t.1 ps st (S_api_State.mk t.2.2.1 t.2.2.2.1 t.2.2.2.2)
theorem ride_ok (hw : WOk p ps) (hS : Starts ps st) {i : Nat} (hi : i < 400) {x : S_fishkeep1_Ride} (hx : I64 x.Demand ∧ I64 x.Err ∧ I64 x.End) {t : Int × Int × Int × Int × Int} (ht : Ri p ps st i t) :
    Tot (fishkeep1_GuardStops_b2 p ps (totL ps) i x t) fun c => match c with
      | .go t' => Ri p ps st (i + 1) t'
      | .out (.go _) => False
      | .out (.out b) => b = true := by
  obtain ⟨e, last, at_, v, wk⟩ := t
  have he := ht.e; have hl := ht.last; have ha := ht.at_; have hv := ht.v; have hwk := ht.w; have hs := ht.safe
  dsimp only at he hl ha hv hwk hs
  have hT := hw.tot; have htop := hw.stk.top; have hB := hw.stk.brake; have hLn := hw.stk.length
  have hd : 0 < p.Brake - 40 := by omega
  unfold fishkeep1_GuardStops_b2
  dsimp only
  refine tot_bind (P := fun l => 0 ≤ l ∧ l ≤ 20000000) ?_ fun l _ hl' => ?_
  · exact tot_ifb (fun _ => tot_some (by omega)) fun _ => tot_some hl
  rw [w64_id (x := at_ - l) (by omega) (by omega)]
  refine tot_bind (span_val hl') fun r _ hr => ?_
  obtain ⟨lo, hi', er⟩ := r
  dsimp only at hr ⊢
  refine tot_bind (P := fun c : Bool => c = false → er = 0 ∧ -1000 ≤ x.Err ∧ x.Err ≤ 1000) ?_ fun c _ hc => ?_
  · refine tot_ifb (fun _ => tot_some fun h => by cases h) fun h1 => ?_
    have h1 : er = 0 := by simpa using h1
    refine tot_ifb (fun _ => tot_some fun h => by cases h) fun h2 => tot_some fun h3 => ?_
    have h2 := of_decide_eq_false h2
    have h3 := of_decide_eq_false h3
    exact ⟨h1, by omega, by omega⟩
  refine tot_ifb (fun _ => tot_some rfl) fun q => ?_
  obtain ⟨q1, q2, q3⟩ := hc q
  obtain ⟨m0, m1, sl, s1, s2, s3, s4⟩ := hr q1
  have hlo : lo ≤ at_ := by omega
  have hhi : hi' = at_ + sl := by omega
  have hdiff : 0 ≤ hi' - lo ∧ hi' - lo ≤ 40000400 := by omega
  rw [w64_id (x := hi' - lo) (by omega) (by omega)]
  obtain ⟨f1, f2, f3⟩ := quo_nn (c := 2) hdiff.1 (by omega) (by omega)
  rw [f1, Option.bind_some]
  generalize (hi' - lo) / 2 = far at f2 f3 ⊢
  rw [w64_id (x := 1000 - x.Err) (by omega) (by omega), w64_id (x := 1000 + x.Err) (by omega) (by omega)]
  have p1 : 0 ≤ far * (1000 - x.Err) := Int.mul_nonneg f2 (by omega)
  have p2 : far * (1000 - x.Err) ≤ 40000400 * 2000 := Int.mul_le_mul (by omega) (by omega) (by omega) (by omega)
  have p3 : 0 ≤ far * (1000 + x.Err) := Int.mul_nonneg f2 (by omega)
  have p4 : far * (1000 + x.Err) ≤ 40000400 * 2000 := Int.mul_le_mul (by omega) (by omega) (by omega) (by omega)
  rw [w64_id (x := far * (1000 - x.Err)) (by omega) (by omega), w64_id (x := far * (1000 + x.Err)) (by omega) (by omega)]
  obtain ⟨g1, g2, g3⟩ := quo_nn (c := 1000) p1 (by omega) (by omega)
  obtain ⟨g4, g5, g6⟩ := quo_nn (c := 1000) p3 (by omega) (by omega)
  rw [g1, Option.bind_some, g4, Option.bind_some]
  generalize far * (1000 - x.Err) / 1000 = a1 at g2 g3 ⊢
  generalize far * (1000 + x.Err) / 1000 = a2 at g5 g6 ⊢
  refine tot_bind (stop_val hw ⟨hv.1, by omega⟩) fun r _ hr2 => ?_
  obtain ⟨stop, er2⟩ := r
  dsimp only at hr2 ⊢
  subst hr2
  have hib := inD_big hd (Int.le_refl 0) (v := v) (by omega)
  rw [w64_id (x := at_ + a2) (by omega) (by omega), w64_id (x := at_ - a1) (by omega) (by omega), gmin_min, gmax_max]
  have hh1 : at_ ≤ min (at_ + a2) (totL ps) := by omega
  have hh2 : min (at_ + a2) (totL ps) ≤ totL ps := Int.min_le_right _ _
  have hl1 : 0 ≤ max (at_ - a1) 0 := by omega
  have hl2 : max (at_ - a1) 0 ≤ at_ := by omega
  generalize min (at_ + a2) (totL ps) = high at hh1 hh2 ⊢
  generalize max (at_ - a1) 0 = low at hl1 hl2 ⊢
  rw [w64_id (x := high + inD (p.Brake - 40) 0 v) (by omega) (by omega)]
  refine tot_bind (P := fun e' => (0 ≤ e' ∧ e' ≤ totL ps) ∧ at_ ≤ e' ∧ Safe (p.Brake - 40) p.Length e' ps st (S_api_State.mk at_ v wk)) ?_ fun e' _ he' => ?_
  · refine tot_bind (P := fun c : Bool => c = true → x.End ≥ high + inD (p.Brake - 40) 0 v ∧ x.End ≤ totL ps) ?_ fun c _ hc => ?_
    · refine tot_ifb (fun h => tot_some fun h2 => ⟨of_decide_eq_true h, of_decide_eq_true h2⟩) fun _ => tot_some fun h => by cases h
    · refine tot_ifb (fun h => tot_some ?_) fun _ => tot_some ⟨he, ha.2, hs⟩
      obtain ⟨c1, c2⟩ := hc h
      refine ⟨⟨by omega, c2⟩, by omega, hs.v0, ?_, hs.ahead, hs.touched⟩
      show inD (p.Brake - 40) 0 v ≤ x.End - at_
      omega
  obtain ⟨he1, he2, hs'⟩ := he'
  refine tot_bind (P := fun c : Bool => c = false → 0 ≤ x.Demand ∧ x.Demand ≤ 6000) ?_ fun c _ hc => ?_
  · refine tot_ifb (fun _ => tot_some fun h => by cases h) fun h1 => tot_some fun h2 => ?_
    have h1 := of_decide_eq_false h1
    have h2 := of_decide_eq_false h2
    omega
  refine tot_ifb (fun _ => tot_some rfl) fun q => ?_
  have hdem := hc q
  refine tot_bind (next_val (s := S_api_State.mk at_ v wk) hw hS hl1 hl2 hh1 hh2 he1 hv ⟨hwk.1, by show wk ≤ _; omega⟩ hdem) fun r _ hr3 => ?_
  obtain ⟨er3, nx⟩ := r
  dsimp only at hr3 ⊢
  obtain ⟨k1, g, gn, M, k2, k3, k4, k5, k6, k7⟩ := hr3
  subst k1
  dsimp only at k5 k6
  have hgb := gradeAt_bound hw.way k2
  have hMt := k4.le
  have hu0 : 0 ≤ nx.Speed ∧ nx.Speed ≤ p.Top := by omega
  have hmay : MayOk (p.Brake - 40) (at_ - 100 * p.Length) nx.At nx.Speed e' ps st := by
    rw [k6]
    by_cases h : min (min (min x.Demand M) (w64 (v + gn))) p.Top ≤ max 0 (v - (p.Brake + g))
    · have hu : nx.Speed = max 0 (v - (p.Brake + g)) := by omega
      exact floor_may (s := S_api_State.mk at_ v wk) hd hw.way hs' (by show v ≤ 6000; omega) hu0.1 (by show nx.Speed ≤ max 0 (v - (p.Brake - 40)); omega) (by show nx.Speed ≤ v; omega)
    · have hu : nx.Speed ≤ M := by omega
      have hM := k4.is (by omega)
      unfold may at hM
      dsimp only at hM
      exact may_le hd hw hS hM (by omega) (by omega) (by omega) hu0.1 hu (by omega)
  have hsafe : Safe (p.Brake - 40) p.Length e' ps st (S_api_State.mk nx.At nx.Speed nx.Work) := may_safe (at_ := at_) hu0.1 (by omega) hmay
  have hstop := hsafe.stop
  dsimp only at hstop
  have hib2 := inD_big hd (Int.le_refl 0) (v := nx.Speed) (by omega)
  have hwb := FW_bd (s := S_api_State.mk at_ v wk) hw ⟨hv.1, by show v ≤ 6000; omega⟩ hgb ⟨hu0.1, by omega⟩ ⟨hwk.1, by show wk ≤ _; omega⟩ ⟨ha.1, by show at_ ≤ _; omega⟩ (k := nx.Work) (u := nx.Speed) (by rw [← show nx.At = at_ + (v + nx.Speed + 1) / 2 from k6]; exact k7)
  dsimp only at hwb
  refine tot_bind (P := fun c => c = false) ?_ fun c _ hc => ?_
  · refine tot_ifb (fun h => absurd h (by decide)) fun _ => ?_
    refine tot_ifb (fun h => by have := of_decide_eq_true h; omega) fun _ => ?_
    refine tot_ifb (fun h => by have := of_decide_eq_true h; omega) fun _ => ?_
    refine tot_ifb (fun h => by have := of_decide_eq_true h; rw [gmax_max] at this; omega) fun _ => ?_
    refine tot_bind' (limits_ok (now := S_api_State.mk at_ v wk) (x := nx) hw hS ⟨ha.1, by show at_ ≤ _; omega⟩ hmay) ?_
    exact tot_some rfl
  subst hc
  refine tot_some ?_
  show Ri p ps st (i + 1) (e', l, nx.At, nx.Speed, nx.Work)
  refine ⟨he1, hl', ⟨by show 0 ≤ nx.At; omega, by show nx.At ≤ e'; omega⟩, hu0, ⟨by show 0 ≤ nx.Work; omega, ?_⟩, hsafe⟩
  show nx.Work ≤ ((i + 1 : Nat) : Int) * 100000000000
  omega
end
theorem law2 : Go.Proofs.YtgflagiblnkchaaDoor.GuardStops.GuardStopsLaw := by
  intro p ps from_ e l hp _ _ _ hl
  refine tot_eq (?_ : Tot _ (· = true))
  unfold fishkeep1_GuardStops
  rw [awake, Option.bind_some]
  simp only [Bool.not_true, ifb_false]
  refine tot_bind (P := fun r => r.1 = 0 → WOk p ps ∧ (0 ≤ e ∧ e ≤ totL ps) ∧ (0 ≤ from_ ∧ from_ ≤ e)) ?_ fun r _ hr => ?_
  · obtain ⟨c, hc, h⟩ := check_full (p := p) (ps := ps) (S_api_State.mk from_ 0 0) e hp.1
    by_cases h0 : c = 0
    · obtain ⟨hw, he, ha, hv, hk⟩ := h h0
      obtain ⟨st, hS, _⟩ := newRunner_val p ps e p.Top hw.n hw.ln
      exact tot_mono (Second_gen hw hS he ha hv hk) fun r hr _ => ⟨hw, he, ha⟩
    · unfold run_Second
      rw [hc, Option.bind_some]
      refine tot_ifb (fun _ => tot_some fun h1 => absurd h1 h0) fun h1 => ?_
      have h1 : c = 0 := by simpa using h1
      exact absurd h1 h0
  refine tot_ifb (fun _ => tot_some rfl) fun q => ?_
  have q : r.1 = 0 := by simpa using q
  obtain ⟨hw, he, ha⟩ := hr q
  obtain ⟨st, hS, _⟩ := newRunner_val p ps e p.Top hw.n hw.ln
  have hT := hw.tot; have htop := hw.stk.top
  refine tot_loopX (I := fun i t => t = totL (ps.take i)) (J := fun t => t = totL ps) (E := fun _ => False) rfl (fun i x t hx ht => ?_) (fun t ht => by rw [ht, List.take_length]) (fun t htt => ?_) (fun _ h => h.elim)
  · subst ht
    have h1 := hw.ln x (List.mem_of_getElem? hx)
    have h3 := hw.take i
    unfold fishkeep1_GuardStops_b1
    rw [w64_id (by omega) (by omega)]
    exact tot_some (totL_take hx).symm
  · subst htt
    rw [gmin_min]
    have hcut : gcut l 0 (min (l.length : Int) 400) = some (l.take (min l.length 400)) := by
      unfold gcut
      rw [if_pos (by omega)]
      rw [show (min (l.length : Int) 400).toNat = min l.length 400 by omega]
      simp
    refine tot_bind' hcut ?_
    refine tot_loopX (I := fun i t => Ri p ps st i t) (J := fun _ => True) (E := fun b => b = true) ⟨he, ⟨ha.1, by show from_ ≤ _; omega⟩, ha, ⟨Int.le_refl _, by show (0 : Int) ≤ p.Top; omega⟩, ⟨Int.le_refl _, by simp⟩, ?_⟩ (fun i x t hx ht => ?_) (fun _ _ => trivial) (fun _ _ => tot_some rfl) (fun b hb => tot_some hb)
    · refine ⟨Int.le_refl 0, by show inD _ 0 0 ≤ e - from_; rw [inD_le (Int.le_refl 0)]; omega, fun i x b hx hb h1 => ?_, fun i x b c hx hb hc' h1 h2 => ?_⟩
      · have := hw.way x (List.mem_of_getElem? hx)
        have h1 : from_ ≤ b := h1
        show inD _ x.Speed 0 ≤ b - from_
        rw [inD_le (by omega)]; omega
      · have := hw.way x (List.mem_of_getElem? hx)
        show (0 : Int) ≤ x.Speed
        omega
    · have hi := (List.getElem?_eq_some_iff.1 hx).1
      rw [List.length_take] at hi
      have hxm : x ∈ l := List.mem_of_mem_take (List.mem_of_getElem? hx)
      refine tot_mono (ride_ok hw hS (by omega) (hl.2 x hxm) ht) fun c hc => ?_
      rcases c with t' | (t' | b)
      · exact hc
      · exact hc.elim
      · exact hc
end Gm
namespace Go.Proofs.YtgflagiblnkchaaDoor
theorem guardStops_proved : Rows.GuardStopsCardSaid := GuardStops.close Gm.law2
end Go.Proofs.YtgflagiblnkchaaDoor
