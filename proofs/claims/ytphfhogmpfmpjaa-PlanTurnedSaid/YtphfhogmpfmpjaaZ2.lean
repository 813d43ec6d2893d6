/- solve. -/
import Derived.Test.YtphfhogmpfmpjaaZ1
set_option linter.unusedVariables false
set_option linter.unusedSimpArgs false
set_option maxRecDepth 100000
namespace Pt
open Go Hk Hd Pl

theorem repeat_eq : ∀ k : Nat, k ≤ 40 → slices_Repeat_bool_bool [true] (k : Int) = some (List.replicate k true) := by
  intro k hk
  rcases k with _ | _ | _ | _ | _ | _ | _ | _ | _ | _ | _ | _ | _ | _ | _ | _ | _ | _ | _ | _ | _ | _ | _ | _ | _ | _ | _ | _ | _ | _ | _ | _ | _ | _ | _ | _ | _ | _ | _ | _ | _ | k
  all_goals first | omega | kernel_rfl
def sv (T i k : Int) : Int := if k = 0 ∨ i = k then 0 else T - 1
structure St0 (T n : Int) (b : List Int) : Prop where
  len : b.length = 64
  v : ∀ i k, 0 ≤ i → i < n → 0 ≤ k → k < n → mb b i k = sv T i k
section
variable {T n : Int} {rules : List S_plan_Rule}
theorem start_ok (hp : POk T n rules) (tk : List Int) (op : List Bool) : Tot (plan_search_start_v2 T n rules tk op) fun r => ∃ b, r = (T, n, rules, b) ∧ St0 T n b := by
  have n0 := hp.n0; have n1 := hp.n1; have T0 := hp.T0; have T1 := hp.T1
  unfold plan_search_start_v2
  refine tot_bind' (glim_eq (by omega)) ?_
  refine tot_loopN (I := fun i c => c.length = 64 ∧ ∀ i' k', 0 ≤ i' → i' < n → 0 ≤ k' → k' < n → mb c i' k' = if i' < (i : Int) then sv T i' k' else 0) (J := St0 T n) (E := fun _ => False)
    ⟨by simp, fun i' k' i0 i1 k0 k1 => by rw [if_neg (by omega)]; unfold mb; exact nth_replicate (by omega) (by omega)⟩ (fun i c hi hI => ?_) (fun c hI => ⟨hI.1, fun i k i0 i1 k0 k1 => by rw [hI.2 i k i0 i1 k0 k1, if_pos (by omega)]⟩) (fun c hJ => tot_some ⟨c, rfl, hJ⟩) (fun y _ => y.elim)
  obtain ⟨hl, hI⟩ := hI
  have g1 := gix_eq (m := 8) (i := (i : Int)) (by omega) (by omega)
  have g0 := gix_eq (m := 8) (i := 0) (by omega) (by omega)
  unfold plan_search_start_v2_b1
  refine tot_bind' (glim_eq (by omega)) ?_
  refine tot_loopN (I := fun k c => c.length = 64 ∧ ∀ i' k', 0 ≤ i' → i' < n → 0 ≤ k' → k' < n → mb c i' k' = if i' < (i : Int) then sv T i' k' else if i' = i ∧ k' < (k : Int) ∧ i' ≠ k' then T - 1 else 0)
    (J := fun c => c.length = 64 ∧ ∀ i' k', 0 ≤ i' → i' < n → 0 ≤ k' → k' < n → mb c i' k' = if i' < (i : Int) then sv T i' k' else if i' = i ∧ i' ≠ k' then T - 1 else 0) (E := fun _ => False)
    ⟨hl, fun i' k' i0 i1 k0 k1 => by rw [hI i' k' i0 i1 k0 k1]; by_cases q : i' < (i : Int)
                                     · rw [if_pos q, if_pos q]
                                     · rw [if_neg q, if_neg q, if_neg (by omega)]⟩ (fun k c hk hI => ?_) (fun c hI => ⟨hI.1, fun i' k' i0 i1 k0 k1 => ?_⟩) (fun c hJ => ?_) (fun y _ => y.elim)
  · obtain ⟨hl, hI⟩ := hI
    unfold plan_search_start_v2_b2
    have g2 := gix_eq (m := 8) (i := (k : Int)) (by omega) (by omega)
    refine tot_ifb (fun q => ?_) fun q => ?_
    · have q : (i : Int) ≠ k := by simpa using q
      simp only [Option.bind_some, g1, g2, mb_idx (b := c) (i := (i : Int)) (k := (k : Int)) hl (by omega) (by omega) (by omega) (by omega)]
      rw [w64_id (x := T - 1) (by omega) (by omega)]
      refine tot_some ⟨by rw [setI_length]; exact hl, fun i' k' i0 i1 k0 k1 => ?_⟩
      rw [mb_set hl (by omega) (by omega) (by omega) (by omega) i0 (by omega) k0 (by omega)]
      by_cases e : i' = i ∧ k' = k
      · obtain ⟨rfl, rfl⟩ := e
        rw [if_pos ⟨rfl, rfl⟩, if_neg (by omega), if_pos ⟨rfl, by omega, q⟩]
      · rw [if_neg e, hI i' k' i0 i1 k0 k1]
        by_cases q2 : i' < (i : Int)
        · rw [if_pos q2, if_pos q2]
        · rw [if_neg q2, if_neg q2]
          by_cases q3 : i' = i ∧ k' < (k : Int) ∧ i' ≠ k'
          · rw [if_pos q3, if_pos (by omega)]
          · rw [if_neg q3, if_neg (by omega)]
    · have q : (i : Int) = k := by simpa using q
      refine tot_some ⟨hl, fun i' k' i0 i1 k0 k1 => ?_⟩
      rw [hI i' k' i0 i1 k0 k1]
      by_cases q2 : i' < (i : Int)
      · rw [if_pos q2, if_pos q2]
      · rw [if_neg q2, if_neg q2]
        by_cases q3 : i' = i ∧ k' < (k : Int) ∧ i' ≠ k'
        · rw [if_pos q3, if_pos (by omega)]
        · rw [if_neg q3, if_neg (by omega)]
  · rw [hI.2 i' k' i0 i1 k0 k1]
    by_cases q2 : i' < (i : Int)
    · rw [if_pos q2, if_pos q2]
    · rw [if_neg q2, if_neg q2]
      by_cases q3 : i' = i ∧ i' ≠ k'
      · rw [if_pos q3, if_pos (by omega)]
      · rw [if_neg q3, if_neg (by omega)]
  · obtain ⟨hl, hI⟩ := hJ
    simp only [Option.bind_some, g1, g0, mb_idx (b := c) (i := (i : Int)) (k := 0) hl (by omega) (by omega) (by omega) (by omega)]
    refine tot_some ⟨by rw [setI_length]; exact hl, fun i' k' i0 i1 k0 k1 => ?_⟩
    rw [mb_set hl (by omega) (by omega) (by omega) (by omega) i0 (by omega) k0 (by omega)]
    by_cases e : i' = i ∧ k' = 0
    · obtain ⟨rfl, rfl⟩ := e
      rw [if_pos ⟨rfl, rfl⟩, if_pos (by omega)]
      unfold sv; rw [if_pos (.inl rfl)]
    · rw [if_neg e, hI i' k' i0 i1 k0 k1]
      by_cases q2 : i' < (i : Int)
      · rw [if_pos q2, if_pos (by omega)]
      · rw [if_neg q2]
        by_cases q4 : i' = i
        · rw [if_pos (show i' < ((i + 1 : Nat) : Int) by omega)]
          unfold sv
          by_cases q5 : i' = k'
          · rw [if_neg (show ¬ (i' = (i : Int) ∧ i' ≠ k') from fun h => h.2 q5), if_pos (show k' = 0 ∨ i' = k' from .inr q5)]
          · rw [if_pos (show i' = (i : Int) ∧ i' ≠ k' from ⟨q4, q5⟩), if_neg (show ¬ (k' = 0 ∨ i' = k') by omega)]
        · rw [if_neg (show ¬ (i' = (i : Int) ∧ i' ≠ k') from fun h => q4 h.1), if_neg (show ¬ i' < ((i + 1 : Nat) : Int) by omega)]
theorem St0.cl {b : List Int} (h : St0 T n b) (hp : POk T n rules) : Cl n b := by
  have T0 := hp.T0; have T1 := hp.T1
  refine ⟨h.len, fun i i0 i1 => by rw [h.v i i i0 i1 i0 i1]; unfold sv; rw [if_pos (.inr rfl)], fun i j k i0 i1 j0 j1 k0 k1 => ?_, fun i k i0 i1 k0 k1 => ?_⟩
  · rw [h.v i k i0 i1 k0 k1, h.v i j i0 i1 j0 j1, h.v j k j0 j1 k0 k1]
    unfold sv
    by_cases a : k = 0 ∨ i = k <;> by_cases c : j = 0 ∨ i = j <;> by_cases d : k = 0 ∨ j = k <;> simp only [a, c, d, if_true, if_false] <;> omega
  · rw [h.v i k i0 i1 k0 k1]; unfold sv; split <;> omega
theorem St0.sol {b : List Int} (h : St0 T n b) (hp : POk T n rules) (t : Int → Int) : Sol n b t ↔ t 0 = 0 ∧ ∀ i, 0 ≤ i → i < n → 0 ≤ t i ∧ t i ≤ T - 1 := by
  have n0 := hp.n0; have T0 := hp.T0
  constructor
  · refine fun ht => ⟨ht.z, fun i i0 i1 => ?_⟩
    have a1 := ht.le i 0 i0 i1 (by omega) (by omega)
    have a2 := ht.le 0 i (by omega) (by omega) i0 i1
    rw [h.v i 0 i0 i1 (by omega) (by omega)] at a1
    rw [h.v 0 i (by omega) (by omega) i0 i1] at a2
    have := ht.z
    unfold sv at a1 a2
    rw [if_pos (.inl rfl)] at a1
    split at a2 <;> omega
  · rintro ⟨hz, hb⟩
    refine ⟨hz, fun i k i0 i1 k0 k1 => ?_⟩
    rw [h.v i k i0 i1 k0 k1]
    have a1 := hb i i0 i1
    have a2 := hb k k0 k1
    unfold sv
    by_cases q : k = 0 ∨ i = k
    · rw [if_pos q]
      rcases q with rfl | rfl <;> omega
    · rw [if_neg q]; omega
end
end Pt

/- solve: it finds times just if there are some. -/
set_option linter.unusedVariables false
set_option linter.unusedSimpArgs false
set_option maxRecDepth 100000
namespace Pt
open Go Hk Hd Pl

/-- times of a period -/
def Ok0 (T n : Int) (t : Int → Int) : Prop := t 0 = 0 ∧ ∀ i, 0 ≤ i → i < n → 0 ≤ t i ∧ t i ≤ T - 1
section
variable {T n : Int} {rules : List S_plan_Rule}
structure SI (T n : Int) (rules : List S_plan_Rule) (fixed times : List Int) (ev : Int) : Prop where
  cl : Cl n fixed
  e0 : 1 ≤ ev
  e1 : ev ≤ n
  tl : (times.length : Int) = ev
  sub : ∀ t, Sol n fixed t → Ok0 T n t ∧ ∀ i, 0 ≤ i → i < ev → t i = nth 0 times i
  ex : (ev = 1 ∧ ∀ t, Ok0 T n t → Sol n fixed t) ∨ ∃ t, Sol n fixed t ∧ All T rules t
theorem solve_ok (p : S_plan_Periodic) (hp : POk p.Period p.Events p.Rules) : Tot (plan_solve p) fun r => (r.1 = true ∧ r.2 = [] ∧ ∀ t, Ok0 p.Period p.Events t → ¬ All p.Period p.Rules t) ∨
    (r.1 = false ∧ (r.2.length : Int) = p.Events ∧ ∃ t, Ok0 p.Period p.Events t ∧ All p.Period p.Rules t ∧ ∀ i, 0 ≤ i → i < p.Events → t i = nth 0 r.2 i) := by
  obtain ⟨T, n, rules⟩ := p
  simp only at hp ⊢
  have n0 := hp.n0; have n1 := hp.n1; have T0 := hp.T0; have T1 := hp.T1; have hll := hp.len
  unfold plan_solve
  refine tot_bind' (x := (T, n, rules, List.replicate rules.length 0, List.replicate rules.length true)) ?_ ?_
  · unfold plan_newSearch
    dsimp only
    rw [gmake_eq (by omega) (by have : (1000 : Nat) ≤ mkRoom := (by decide); omega) (by have : (1000 : Nat) ≤ maxLen := (by decide); omega), show ((rules.length : Int)).toNat = rules.length by omega]
    simp only [Option.bind_some]
    rw [repeat_eq _ hll]
    rfl
  refine tot_bind (start_ok hp _ _) fun r _ hr => ?_
  obtain ⟨b0, rfl, hb0⟩ := hr
  dsimp only
  have hs0 := hb0.sol hp
  refine tot_bind (P := fun c => match c with
    | .go s => ∃ taken times t, s = (taken, List.replicate rules.length true, b0, T, n, rules, times) ∧ (times.length : Int) = n ∧ Ok0 T n t ∧ All T rules t ∧ ∀ i, 0 ≤ i → i < n → t i = nth 0 times i
    | .out r => r = (true, []) ∧ ∀ t, Ok0 T n t → ¬ All T rules t) ?_ fun c _ hc => ?_
  · refine tot_iter (I := fun s => ∃ fixed taken times ev, s = (some fixed, taken, List.replicate rules.length true, b0, T, n, rules, times, ev) ∧ taken.length = rules.length ∧ SI T n rules fixed times ev) (μ := fun s => (n - s.2.2.2.2.2.2.2.2).toNat)
      ⟨b0, _, [0], 1, rfl, by simp, hb0.cl hp, by omega, n0, rfl, fun t ht => ⟨(hs0 t).1 ht, fun i i0 i1 => ?_⟩, .inl ⟨rfl, fun t ht => (hs0 t).2 ht⟩⟩ (by have : 1000 < bigN := (by decide); simp only; omega) ?_
    · have : i = 0 := by omega
      subst this
      rw [((hs0 t).1 ht).1]; rfl
    · rintro s ⟨fixed, taken, times, ev, rfl, htk, hI⟩
      have e0 := hI.e0; have e1 := hI.e1; have tl := hI.tl
      unfold plan_solve_b1
      dsimp only
      refine tot_ifb (fun q => ?_) fun q => ?_
      · have q : ev < n := of_decide_eq_true q
        refine tot_bind (run_ok hp (by omega) q bigN fixed taken (List.replicate rules.length true) T hI.cl htk (by simp) (fun i r hr hi => ?_) (by have : 1000 < bigN := (by decide); simp; omega)) fun r _ hr => ?_
        · have hlt := (List.getElem?_eq_some_iff.1 hr).1
          rw [nth_replicate (by omega) (by omega)] at hi
          cases hi
        obtain ⟨tk, best, rfl, htk', hF⟩ := hr
        dsimp only
        refine tot_ifb (fun q2 => ?_) fun q2 => ?_
        · have q2 : best = T := by simpa using q2
          have hno : ∀ t, Sol n fixed t → ¬ All T rules t := fun t ht ha => by
            have := hF.no t ht ha trivial
            have := ((hI.sub t ht).1.2 ev (by omega) q).2
            omega
          refine tot_some ⟨rfl, fun t ht ha => ?_⟩
          rcases hI.ex with ⟨_, h⟩ | ⟨t', ht', ha'⟩
          · exact hno t (h t ht) ha
          · exact hno t' ht' ha'
        · have q2 : best ≠ T := by simpa using q2
          rcases hF.is with h | ⟨t, ht, ha, hte⟩
          · exact absurd h q2
          have hok := hI.sub t ht
          have hbd := hok.1.2 ev (by omega) q
          refine tot_bind' (gapp_eq (by simp; have : (1000 : Nat) ≤ apRoom := (by decide); omega) (by simp; have : (1000 : Nat) ≤ maxLen := (by decide); omega)) ?_
          refine tot_bind (between_ok hI.cl (by omega) n1 (from_ := 0) (to_ := ev) (low := best) (high := best) (by omega) (by omega) (by omega) q (by omega) (by omega) (by omega) (by omega)) fun r _ hr => ?_
          rcases hr with ⟨_, g2⟩ | ⟨c, rfl, hc, g2⟩
          · exact absurd ⟨by have := ht.z; omega, by have := ht.z; omega⟩ (g2 t ht)
          rw [w64_id (x := ev + 1) (by omega) (by omega)]
          refine tot_some ⟨⟨c, tk, times ++ [best], ev + 1, rfl, htk', hc, by omega, by omega, by simp; omega, fun t' ht' => ?_, .inr ⟨t, (g2 t).2 ⟨ht, by have := ht.z; omega, by have := ht.z; omega⟩, ha⟩⟩, by show (n - (ev + 1)).toNat < (n - ev).toNat; omega⟩
          obtain ⟨h1, h2, h3⟩ := (g2 t').1 ht'
          have hz := h1.z
          refine ⟨(hI.sub t' h1).1, fun i i0 i1 => ?_⟩
          by_cases e : i < ev
          · rw [(hI.sub t' h1).2 i i0 e]
            unfold nth
            rw [List.getElem?_append_left (by omega)]
          · have : i = ev := by omega
            subst this
            unfold nth
            rw [List.getElem?_append_right (by omega), show i.toNat - times.length = 0 by omega]
            show t' i = best
            omega
      · have q : ¬ ev < n := of_decide_eq_false q
        have hev : ev = n := by omega
        subst hev
        have hex : ∃ t, Sol ev fixed t ∧ All T rules t := by
          rcases hI.ex with ⟨h1, _⟩ | h
          · refine ⟨_, hI.cl.least (by omega), fun r hr => ?_⟩
            have := hp.all r hr
            have a1 := this.f0; have a2 := this.f1; have a3 := this.t0; have a4 := this.t1; have a5 := this.ne
            omega
          · exact h
        obtain ⟨t, ht, ha⟩ := hex
        have := hI.sub t ht
        exact tot_some ⟨taken, times, t, rfl, tl, this.1, ha, this.2⟩
  · cases c with
    | go s =>
      obtain ⟨taken, times, t, rfl, h1, h2, h3, h4⟩ := hc
      exact tot_some (.inr ⟨rfl, h1, t, h2, h3, h4⟩)
    | out r =>
      obtain ⟨rfl, h⟩ := hc
      exact tot_some (.inl ⟨rfl, rfl, h⟩)
end
end Pt
