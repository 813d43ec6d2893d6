/- Best: the cheapest times of all. -/
import Derived.Test.YtphfhogmpfmpjaaZ2
import Derived.Test.YtphfhogmpfmpjaaZC
set_option linter.unusedVariables false
set_option linter.unusedSimpArgs false
set_option maxRecDepth 100000
namespace Pt
open Go Hk Hd Pl

/-- times that keep all, with what they cost -/
structure GoodB (p : S_plan_Periodic) (l : List Int) (least : Int) : Prop where
  good : Good p l
  z : nth 0 l 0 = 0
  all : All p.Period p.Rules (nth 0 l)
  cost : least = costv p.Period (nth 0 l) p.Rules
structure FdB (p : S_plan_Periodic) (N : Nat) (b : List Int) (best : Option (List Int)) (least : Int) (best' : Option (List Int)) (least' : Int) (P : (Int → Int) → Prop) : Prop where
  good : ∀ l, best' = some l → GoodB p l least'
  le : best.isSome = true → best'.isSome = true ∧ least' ≤ least
  no : ∀ u, Sol (N : Int) b u → All p.Period p.Rules u → P u → best'.isSome = true ∧ least' ≤ costv p.Period u p.Rules
abbrev RsB := List Int × List Bool × List S_plan_Rule × List S_plan_Rule × Option (List Int) × Int
abbrev RcB := Option (List Int) → Int → Int → List S_plan_Rule → List Int → List Bool → Int → Int → List S_plan_Rule → Option (List Int) → Int → Option RsB
/-- what is taken by rules that are not open stays -/
def Same (op : List Bool) (tk taken : List Int) : Prop := ∀ i : Nat, i < taken.length → nth true op i = false → nth 0 tk i = nth 0 taken i
def AnsB (p : S_plan_Periodic) (N : Nat) (b taken : List Int) (op : List Bool) (best : Option (List Int)) (least : Int) (r : RsB) : Prop :=
  ∃ tk best' least', r = (tk, op, p.Rules, p.Rules, best', least') ∧ tk.length = p.Rules.length ∧ Same op tk taken ∧ FdB p N b best least best' least' fun _ => True
/-- where the search stands -/
structure Now (p : S_plan_Periodic) (N : Nat) (b taken : List Int) (op : List Bool) : Prop where
  cl : Cl (N : Int) b
  sub : ∀ u, Sol (N : Int) b u → ∀ i : Int, 0 ≤ i → i < N → 0 ≤ u i ∧ u i ≤ p.Period - 1
  tl : taken.length = p.Rules.length
  ol : op.length = p.Rules.length
  done : ∀ (i : Nat) r, p.Rules[i]? = some r → nth true op i = false → ∀ u, Sol (N : Int) b u → In p.Period r (nth 0 taken i) (u r.To - u r.From)
section
variable {p : S_plan_Periodic} {N : Nat} {b taken : List Int} {op : List Bool} {best : Option (List Int)} {least : Int}
theorem prune6_ok (hp : POk p.Period p.Events p.Rules) (hev : p.Events = N) (n6 : N ≤ 6) (hn : Now p N b taken op) (hg : ∀ l, best = some l → GoodB p l least) (q6 q7 : Int) (q8 : List S_plan_Rule) :
    Tot (plan_Best_1_v5 (some b) best p.Period q7 p.Rules least p.Period q7 p.Rules taken op) fun r => ∃ c, r = (c, best, p.Rules, p.Rules) ∧ (c = true → FdB p N b best least best least fun _ => True) := by
  have T0 := hp.T0; have T1 := hp.T1; have n0 := hp.n0; have hll := hp.len; have et := hn.tl; have eo := hn.ol
  have hu0 := hn.cl.least (by omega)
  unfold plan_Best_1_v5
  refine tot_ifb (fun _ => tot_some ⟨false, rfl, fun e => (by cases e)⟩) fun q => ?_
  refine tot_loopX (I := fun i s => 0 ≤ s ∧ ∀ u, Sol (N : Int) b u → s ≤ costv p.Period u (p.Rules.take i)) (J := fun s => ∀ u, Sol (N : Int) b u → s ≤ costv p.Period u p.Rules) (E := fun _ => False) ⟨Int.le_refl _, fun u _ => Int.le_refl _⟩ (fun i r s hr hI => ?_) (fun s hI => by rw [List.take_length] at hI; exact hI.2) (fun s hJ => ?_) (fun y _ => y.elim)
  · obtain ⟨s0, s1⟩ := hI
    have hi := (List.getElem?_eq_some_iff.1 hr).1
    have hro := hp.all r (List.mem_of_getElem? hr)
    have f0 := hro.f0; have f1 := hro.f1; have t0 := hro.t0; have t1 := hro.t1; have m0 := hro.m0; have m1 := hro.m1; have x0 := hro.x0; have x1 := hro.x1; have w0 := hro.w0; have w1 := hro.w1
    have up : ∀ u, costv p.Period u (p.Rules.take (i + 1)) = costv p.Period u (p.Rules.take i) + r.Weight * gv p.Period r u := fun u => by
      rw [List.take_add_one, hr]; exact costv_app
    unfold plan_Best_1_v5_b1
    refine tot_bind' (idx_nth true (by omega) (by omega)) ?_
    refine tot_ifb (fun q => ?_) fun q => ?_
    · have q : nth true op (i : Int) = false := by simpa using q
      have hin := fun u hu => hn.done i r hr q u hu
      have hlow : ∀ u, Sol (N : Int) b u → - mb b r.To r.From ≤ u r.To - u r.From := fun u hu => by
        have := hu.le r.To r.From t0 (by omega) f0 (by omega)
        omega
      have b1 := hn.cl.up r.To r.From t0 (by omega) f0 (by omega)
      have b2 := hn.cl.lo (i := r.To) (k := r.From) t0 (by omega) f0 (by omega)
      have k0 := hin _ hu0
      have g0 := gv_in (t := fun i => - mb b i 0) hro k0
      have a1 := hn.sub _ hu0 r.To t0 (by omega)
      have a2 := hn.sub _ hu0 r.From f0 (by omega)
      obtain ⟨k1, k2⟩ := k0
      have gb := gv_bd (T := p.Period) (by omega) r (fun i => - mb b i 0)
      have hl0 := hlow _ hu0
      have c0 := s1 _ hu0
      have cb := costv_bd (n := p.Events) T0 T1 (t := fun i => - mb b i 0) (l := p.Rules.take i) fun r hr => hp.all r (List.mem_of_mem_take hr)
      rw [List.length_take] at cb
      simp only [Option.bind_some, gix_eq (m := 8) (i := r.To) (by omega) (by omega), gix_eq (m := 8) (i := r.From) (by omega) (by omega), mb_idx (b := b) (i := r.To) (k := r.From) hn.cl.len (by omega) (by omega) (by omega) (by omega)]
      refine tot_bind' (idx_nth 0 (by omega) (by omega)) ?_
      rw [w64_id (x := 0 - mb b r.To r.From) (by omega) (by omega), w64_id (x := nth 0 taken (i : Int) * p.Period) (by omega) (by omega), w64_id (x := 0 - mb b r.To r.From + nth 0 taken (i : Int) * p.Period) (by omega) (by omega), w64_id (x := 0 - mb b r.To r.From + nth 0 taken (i : Int) * p.Period - r.Min) (by omega) (by omega), gmax_eq]
      generalize hx : max 0 (0 - mb b r.To r.From + nth 0 taken (i : Int) * p.Period - r.Min) = x
      have x00 : 0 ≤ x := by omega
      have hxu : ∀ u, Sol (N : Int) b u → x ≤ gv p.Period r u := fun u hu => by
        have := gv_in hro (hin u hu)
        have := gv_bd (T := p.Period) (by omega) r u
        have := hlow u hu
        omega
      have hm : ∀ u, Sol (N : Int) b u → r.Weight * x ≤ r.Weight * gv p.Period r u := fun u hu => Int.mul_le_mul_of_nonneg_left (hxu u hu) w0
      have hm0 := hm _ hu0
      have wb := wgv_bd T0 T1 hro (fun i => - mb b i 0)
      have wx := Int.mul_nonneg w0 x00
      rw [w64_id (x := r.Weight * x) (by omega) (by omega), w64_id (by omega) (by omega)]
      refine tot_some ⟨by omega, fun u hu => ?_⟩
      rw [up u]
      have := hm u hu
      have := s1 u hu
      omega
    · refine tot_some ⟨s0, fun u hu => ?_⟩
      rw [up u]
      have := s1 u hu
      have := wgv_bd T0 T1 hro u
      omega
  · refine tot_some ⟨decide (s > least), rfl, fun e => ?_⟩
    have e := of_decide_eq_true e
    have hs : best.isSome = true := by cases best <;> first | rfl | cases q
    exact ⟨hg, fun _ => ⟨hs, Int.le_refl _⟩, fun u hu _ _ => ⟨hs, by have := hJ u hu; omega⟩⟩
theorem cmp2_ok (xs ys : List Int) : Tot (slices_Compare_int_int_v2 xs ys) fun _ => True := by
  unfold slices_Compare_int_int_v2
  refine tot_allX (P := fun _ _ => True) (E := fun _ => True) (fun i v hv => ?_) (fun _ => ?_) (fun y hy => tot_some trivial)
  · unfold slices_Compare_int_int_v2_b1
    refine tot_ifb (fun q => tot_some trivial) fun q => ?_
    have q := of_decide_eq_false q
    refine tot_bind' (idx_nth 0 (by omega) (by omega)) ?_
    refine tot_bind (P := fun _ => True) ?_ fun x _ _ => ?_
    · unfold cmp_Compare_int cmp_isNaN_int
      simp only [Option.bind_some]
      refine tot_ifb (fun _ => tot_ifb (fun _ => tot_some trivial) fun _ => tot_some trivial) fun _ => tot_ifb (fun _ => tot_some trivial) fun _ => tot_ifb (fun _ => tot_some trivial) fun _ => tot_ifb (fun _ => tot_some trivial) fun _ => tot_some trivial
    · exact tot_ifb (fun _ => tot_some trivial) fun _ => tot_some trivial
  · exact tot_ifb (fun _ => tot_some trivial) fun _ => tot_some trivial
theorem leaf6_ok (hf : Leaf p N b taken) (hg : ∀ l, best = some l → GoodB p l least) :
    Tot (plan_Best_2 (some b) taken p.Period p.Events p.Rules best least) fun r => ∃ best' least', r = (p.Rules, best', least') ∧ FdB p N b best least best' least' fun _ => True := by
  have hev := hf.ev
  unfold plan_Best_2
  rw [show S_plan_Periodic.mk p.Period p.Events p.Rules = p from rfl]
  refine tot_bind (cheapest_ok hf) fun r _ hr => ?_
  obtain ⟨sum, times⟩ := r
  obtain ⟨h1, h2, h3, h4⟩ := hr
  simp only at h1 h2 h3 h4
  have hgood : GoodB p times sum := ⟨⟨by omega, fun i i0 i1 => hf.sub _ h2 i i0 (by omega)⟩, h2.z, fun r hr => by
    obtain ⟨i, hi⟩ := List.getElem?_of_mem hr
    exact ⟨_, hf.all i r hi _ h2⟩, h3⟩
  refine tot_bind (P := fun c : Bool => (c = true → best.isSome = true → sum ≤ least) ∧ (c = false → best.isSome = true ∧ least ≤ sum)) ?_ fun c _ hc => ?_
  · refine tot_ifb (fun q => tot_some ⟨fun _ e => ?_, fun e => (by cases e)⟩) fun q => ?_
    · cases best with
      | none => cases e
      | some v => exact absurd q (by simp)
    have hs : best.isSome = true := by cases best <;> first | rfl | cases q
    refine tot_ifb (fun q => tot_some ⟨fun _ _ => by have := of_decide_eq_true q; omega, fun e => (by cases e)⟩) fun q => ?_
    have q := of_decide_eq_false q
    refine tot_ifb (fun q2 => ?_) fun q2 => tot_some ⟨fun e => (by cases e), fun _ => ⟨hs, by omega⟩⟩
    have q2 : sum = least := by simpa using q2
    refine tot_bind (cmp2_ok _ _) fun x _ _ => tot_some ⟨fun _ _ => by omega, fun _ => ⟨hs, by omega⟩⟩
  · refine tot_ifb (fun q => ?_) fun q => ?_
    · exact tot_some ⟨_, _, rfl, fun l hl => by injection hl with hl; subst hl; exact hgood, fun e => ⟨rfl, hc.1 q e⟩, fun u hu _ _ => ⟨rfl, h4 u hu⟩⟩
    · have := hc.2 q
      exact tot_some ⟨_, _, rfl, hg, fun e => ⟨e, Int.le_refl _⟩, fun u hu _ _ => ⟨this.1, by have := h4 u hu; omega⟩⟩
theorem pick6_b1 (hp : POk p.Period p.Events p.Rules) (hev : p.Events = N) (n6 : N ≤ 6) (hn : Now p N b taken op) {i : Nat} {r : S_plan_Rule} (hr : p.Rules[i]? = some r) {bi : Int} {few : List Int} (hI : BI p.Period p.Events p.Rules b op i bi few) :
    Tot (plan_search_run_v2_b1 (some b) p.Period p.Events taken op p.Period p.Events least i r (bi, few, p.Rules, p.Rules, best)) fun c => match c with
      | .go s => ∃ bi few, s = (bi, few, p.Rules, p.Rules, best) ∧ BI p.Period p.Events p.Rules b op (i + 1) bi few
      | .out (.go s) => False
      | .out (.out y) => y = (taken, op, p.Rules, p.Rules, best, least) ∧ ∀ u, Sol (N : Int) b u → ¬ All p.Period p.Rules u := by
  obtain ⟨hi, hre⟩ := List.getElem?_eq_some_iff.1 hr
  have hrm := List.mem_of_getElem? hr
  have er : nth zr p.Rules (i : Int) = r := nth_nat zr hr
  have n0 := hp.n0
  have hol := hn.ol
  have h := hn.cl
  rw [← hev] at h
  unfold plan_search_run_v2_b1
  dsimp only
  refine tot_bind' (idx_nth true (by omega) (by omega)) ?_
  refine tot_ifb (fun q => ?_) fun q => ?_
  · have q : nth true op (i : Int) = false := by simpa using q
    refine tot_some ⟨bi, few, rfl, ?_, hI.len⟩
    rcases hI.or with ⟨h1, h2⟩ | ⟨h1, h2, h3⟩
    · refine .inl ⟨h1, fun j hj => ?_⟩
      by_cases e : j = i
      · subst e; exact q
      · exact h2 j (by omega)
    · exact .inr ⟨h1, by omega, h3⟩
  have q : nth true op (i : Int) = true := by simpa using q
  refine tot_bind (choices7_ok h (by omega) hp.n1 hp.T0 hp.T1 (hp.all r hrm)) fun x _ hx => ?_
  obtain ⟨l, rfl, c1, c2, c3⟩ := hx
  have hf : Few p.Period p.Events b (nth zr p.Rules (i : Int)) l := by rw [er]; exact ⟨c1, c2, c3⟩
  refine tot_bind (P := fun s => ∃ bi few, s = (bi, few, l) ∧ BI p.Period p.Events p.Rules b op (i + 1) bi few) ?_ fun s _ hs => ?_
  · refine tot_bind (P := fun c : Bool => c = false → ¬ bi < 0) ?_ fun c _ hc => ?_
    · refine tot_ifb (fun _ => tot_some fun e => (by cases e)) fun q => tot_some fun _ => of_decide_eq_false q
    refine tot_ifb (fun _ => tot_some ⟨_, _, rfl, .inr ⟨by omega, by omega, q, hf⟩, c1⟩) fun q2 => tot_some ⟨_, _, rfl, ?_, hI.len⟩
    rcases hI.or with ⟨h1, h2⟩ | ⟨h1, h2, h3⟩
    · exact absurd (by omega) (hc q2)
    · exact .inr ⟨h1, by omega, h3⟩
  · obtain ⟨bi', few', rfl, hB⟩ := hs
    refine tot_ifb (fun q2 => ?_) fun _ => tot_some ⟨bi', few', rfl, hB⟩
    have q2 : (l.length : Int) = 0 := by simpa using q2
    refine tot_some ⟨rfl, fun t ht ha => ?_⟩
    obtain ⟨k, hk⟩ := ha r hrm
    rw [← hev] at ht
    have := List.length_pos_of_mem (c3 t ht k hk)
    omega
theorem step6_ok {R : RcB} (hp : POk p.Period p.Events p.Rules) (hev : p.Events = N) (n6 : N ≤ 6) (hn : Now p N b taken op) (hg : ∀ l, best = some l → GoodB p l least)
    (hR : ∀ c taken op' best least, Now p N c taken op' → (∀ l, best = some l → GoodB p l least) → op'.count true < op.count true → Tot (R (some c) p.Period p.Events p.Rules taken op' p.Period p.Events p.Rules best least) (AnsB p N c taken op' best least)) :
    Tot (plan_search_run_v2_step R (some b) p.Period p.Events p.Rules taken op p.Period p.Events p.Rules best least) (AnsB p N b taken op best least) := by
  have n0 := hp.n0; have n1 := hp.n1; have T0 := hp.T0; have T1 := hp.T1
  have hol := hn.ol; have htl := hn.tl
  have h := hn.cl
  have hsame : Same op taken taken := fun _ _ _ => rfl
  unfold plan_search_run_v2_step
  refine tot_bind (prune6_ok hp hev n6 hn hg 0 p.Events p.Rules) fun x _ hx => ?_
  obtain ⟨c, rfl, hc⟩ := hx
  dsimp only
  refine tot_ifb (fun q => ?_) fun q => ?_
  · exact tot_some ⟨taken, best, least, rfl, htl, hsame, hc q⟩
  refine tot_loopX (I := fun i s => ∃ bi few, s = (bi, few, p.Rules, p.Rules, best) ∧ BI p.Period p.Events p.Rules b op i bi few) (J := fun s => ∃ bi few, s = (bi, few, p.Rules, p.Rules, best) ∧ BI p.Period p.Events p.Rules b op p.Rules.length bi few) (E := fun y => y = (taken, op, p.Rules, p.Rules, best, least) ∧ ∀ t, Sol (N : Int) b t → ¬ All p.Period p.Rules t)
    ⟨-1, [], rfl, .inl ⟨rfl, fun j hj => by omega⟩, by simp⟩ ?_ (fun s hs => hs) ?_ ?_
  · rintro i r s hr ⟨bi, few, rfl, hI⟩
    refine tot_mono (pick6_b1 hp hev n6 hn hr hI) fun c hc => ?_
    rcases c with s | (s | y)
    · exact hc
    · exact hc.elim
    · exact hc
  · rintro s ⟨bi, few, rfl, hI⟩
    refine tot_ifb (fun q2 => ?_) fun q2 => ?_
    · have q2 : bi < 0 := of_decide_eq_true q2
      have hlf : Leaf p N b taken := ⟨hp, hev, n6, hn.cl, hn.sub, htl, fun i r hr u hu => by
        have hlt := (List.getElem?_eq_some_iff.1 hr).1
        rcases hI.or with ⟨_, h2⟩ | ⟨h1, _⟩
        · exact hn.done i r hr (h2 i hlt) u hu
        · omega⟩
      refine tot_bind (leaf6_ok hlf hg) fun x _ hx => ?_
      obtain ⟨best', least', rfl, hF⟩ := hx
      exact tot_some ⟨taken, best', least', rfl, htl, hsame, hF⟩
    · have q2 : ¬ bi < 0 := of_decide_eq_false q2
      rcases hI.or with ⟨h1, _⟩ | ⟨h1, h2, h3, h4⟩
      · omega
      have hrm := nth_mem zr (xs := p.Rules) (i := bi) h1 h2
      have hro := hp.all _ hrm
      have r5 := hro.m0; have r6 := hro.m1; have r7 := hro.x0; have r8 := hro.x1
      refine tot_bind' (idx_nth zr h1 h2) ?_
      refine tot_bind' (idx_nth true h1 (by omega)) ?_
      refine tot_loopX (I := fun i s => ∃ tk bs ls, s = (tk, setI op bi false, p.Rules, p.Rules, bs, ls) ∧ tk.length = p.Rules.length ∧ Same op tk taken ∧ FdB p N b best least bs ls fun t => ∃ j : Nat, j < i ∧ ∃ k, few[j]? = some k ∧ In p.Period (nth zr p.Rules bi) k (t (nth zr p.Rules bi).To - t (nth zr p.Rules bi).From))
        (J := fun s => ∃ tk bs ls, s = (tk, setI op bi false, p.Rules, p.Rules, bs, ls) ∧ tk.length = p.Rules.length ∧ Same op tk taken ∧ FdB p N b best least bs ls fun _ => True) (E := fun _ => False) ⟨taken, best, least, rfl, htl, hsame, hg, fun e => ⟨e, Int.le_refl _⟩, fun t _ _ ⟨j, hj, _⟩ => by omega⟩ ?_ ?_ ?_ (fun y _ => y.elim)
      · rintro i k s hk ⟨tk, bs, ls, rfl, htk, hsm, hF⟩
        have hkb := h4.bd k (List.mem_of_getElem? hk)
        have hb' := h
        rw [← hev] at hb'
        unfold plan_search_run_v2_b2
        dsimp only
        rw [w64_id (x := k * p.Period) (by omega) (by omega), w64_id (x := (nth zr p.Rules bi).Min - k * p.Period) (by omega) (by omega), w64_id (x := (nth zr p.Rules bi).Max - k * p.Period) (by omega) (by omega)]
        refine tot_bind (between_ok hb' (by omega) n1 hro.f0 hro.f1 hro.t0 hro.t1 (by omega) (by omega) (by omega) (by omega)) fun r _ hr => ?_
        rw [hev] at hr
        rcases hr with ⟨g1, g2⟩ | ⟨c, rfl, hc, g2⟩
        · rw [g1]
          refine tot_some ⟨tk, bs, ls, rfl, htk, hsm, hF.good, hF.le, fun t ht ha ⟨j, hj, k', hk', hin⟩ => ?_⟩
          by_cases e : j = i
          · subst e
            rw [hk] at hk'
            injection hk' with hk'
            subst hk'
            exact absurd hin (g2 t ht)
          · exact hF.no t ht ha ⟨j, by omega, k', hk', hin⟩
        · refine tot_bind' (idx_nth 0 h1 (by omega)) ?_
          have hcnt := count_set h1 (by omega) h3
          have hnow : Now p N c (setI tk bi k) (setI op bi false) := ⟨hc, fun u hu => hn.sub u ((g2 u).1 hu).1, by rw [setI_length]; exact htk, by rw [setI_length]; exact hol, fun j r hr ho u hu => by
            have hlt := (List.getElem?_eq_some_iff.1 hr).1
            rw [nth_setI true h1 (by omega) (by omega)] at ho
            rw [nth_setI 0 h1 (by omega) (by omega)]
            by_cases e : (j : Int) = bi
            · rw [if_pos e]
              have := ((g2 u).1 hu).2
              rw [← e, nth_nat zr hr] at this
              exact this
            · rw [if_neg e] at ho ⊢
              rw [hsm j (by omega) ho]
              exact hn.done j r hr ho u ((g2 u).1 hu).1⟩
          refine tot_bind (hR c (setI tk bi k) (setI op bi false) bs ls hnow hF.good (by omega)) fun r _ hr => ?_
          obtain ⟨tk', bs', ls', rfl, htk', hsm', hF'⟩ := hr
          refine tot_some ⟨tk', bs', ls', rfl, htk', fun j hj ho => ?_, hF'.good, fun e => ?_, fun t ht ha ⟨j, hj, k', hk', hin⟩ => ?_⟩
          · have hne : (j : Int) ≠ bi := fun e => by rw [e, h3] at ho; cases ho
            have := hsm' j (by rw [setI_length]; omega) (by rw [nth_setI true h1 (by omega) (by omega), if_neg hne]; exact ho)
            rw [this, nth_setI 0 h1 (by omega) (by omega), if_neg hne]
            exact hsm j hj ho
          · have a := hF.le e
            have c := hF'.le a.1
            exact ⟨c.1, by omega⟩
          · by_cases e : j = i
            · subst e
              rw [hk] at hk'
              injection hk' with hk'
              subst hk'
              exact hF'.no t ((g2 t).2 ⟨ht, hin⟩) ha trivial
            · have a := hF.no t ht ha ⟨j, by omega, k', hk', hin⟩
              have c := hF'.le a.1
              exact ⟨c.1, by omega⟩
      · rintro s ⟨tk, bs, ls, rfl, htk, hsm, hF⟩
        refine ⟨tk, bs, ls, rfl, htk, hsm, hF.good, hF.le, fun t ht ha _ => ?_⟩
        obtain ⟨k, hk⟩ := ha _ hrm
        have ht' := ht
        rw [← hev] at ht'
        obtain ⟨j, hj⟩ := List.getElem?_of_mem (h4.all t ht' k hk)
        exact hF.no t ht ha ⟨j, (List.getElem?_eq_some_iff.1 hj).1, k, hj, hk⟩
      · rintro s ⟨tk, bs, ls, rfl, htk, hsm, hF⟩
        refine tot_bind' (idx_nth true h1 (by rw [setI_length]; omega)) ?_
        refine tot_some ⟨tk, bs, ls, ?_, htk, hsm, hF⟩
        show (tk, setI (setI op bi false) bi true, _) = _
        rw [set_back h1 (by omega) h3]
  · rintro r ⟨rfl, hno⟩
    exact tot_some ⟨taken, best, least, rfl, htl, hsame, hg, fun e => ⟨e, Int.le_refl _⟩, fun t ht ha _ => absurd ha (hno t ht)⟩
theorem run6_ok (hp : POk p.Period p.Events p.Rules) (hev : p.Events = N) (n6 : N ≤ 6) : ∀ (m : Nat) (b taken : List Int) (op : List Bool) (best : Option (List Int)) (least : Int), Now p N b taken op → (∀ l, best = some l → GoodB p l least) → op.count true < m →
    Tot (plan_search_run_v2_n m (some b) p.Period p.Events p.Rules taken op p.Period p.Events p.Rules best least) (AnsB p N b taken op best least)
  | 0, _, _, _, _, _, _, _, h => by omega
  | m + 1, b, taken, op, best, least, h1, h2, h3 => step6_ok hp hev n6 h1 h2 fun c taken op' best least k1 k2 k3 => run6_ok hp hev n6 m c taken op' best least k1 k2 (by omega)
theorem best_ok (hp : POk p.Period p.Events p.Rules) (n6 : p.Events ≤ 6) (hex : ∃ u, Ok0 p.Period p.Events u ∧ All p.Period p.Rules u) :
    Tot (plan_Best p) fun r => r.2.2 = 0 ∧ GoodB p r.1 r.2.1 ∧ ∀ u, Ok0 p.Period p.Events u → All p.Period p.Rules u → r.2.1 ≤ costv p.Period u p.Rules := by
  have n0 := hp.n0; have n1 := hp.n1; have T0 := hp.T0; have T1 := hp.T1; have hll := hp.len
  obtain ⟨N, hev⟩ : ∃ N : Nat, p.Events = N := ⟨p.Events.toNat, by omega⟩
  unfold plan_Best
  refine tot_bind' (check_ok hp) ?_
  refine tot_ifb (fun q => absurd q (by decide)) fun _ => ?_
  refine tot_ifb (fun q => by have := of_decide_eq_true q; omega) fun _ => ?_
  refine tot_bind' (x := (p.Period, p.Events, p.Rules, List.replicate p.Rules.length 0, List.replicate p.Rules.length true)) ?_ ?_
  · unfold plan_newSearch
    rw [gmake_eq (by omega) (by have : (1000 : Nat) ≤ mkRoom := (by decide); omega) (by have : (1000 : Nat) ≤ maxLen := (by decide); omega), show ((p.Rules.length : Int)).toNat = p.Rules.length by omega]
    simp only [Option.bind_some]
    rw [repeat_eq _ hll]
    rfl
  refine tot_bind (start5_ok hp _ _ _ _ _ _ _) fun r _ hr => ?_
  obtain ⟨b0, rfl, hb0⟩ := hr
  dsimp only
  have hs0 := hb0.sol hp
  have hnow : Now p N b0 (List.replicate p.Rules.length 0) (List.replicate p.Rules.length true) := by
    refine ⟨by rw [← hev]; exact hb0.cl hp, fun u hu i i0 i1 => ?_, by simp, by simp, fun i r hr ho => ?_⟩
    · rw [← hev] at hu
      exact ((hs0 u).1 hu).2 i i0 (by omega)
    · have hlt := (List.getElem?_eq_some_iff.1 hr).1
      rw [nth_replicate (by omega) (by omega)] at ho
      cases ho
  refine tot_bind (run6_ok hp hev (by omega) bigN b0 _ _ none 0 hnow (fun l hl => by cases hl) (by have : 1000 < bigN := (by decide); simp; omega)) fun r _ hr => ?_
  obtain ⟨tk, best', least', rfl, _, _, hF⟩ := hr
  dsimp only
  obtain ⟨u, hu, ha⟩ := hex
  have hso : ∀ u, Ok0 p.Period p.Events u → Sol (N : Int) b0 u := fun u hu => by rw [← hev]; exact (hs0 u).2 hu
  have hsome := (hF.no u (hso u hu) ha trivial).1
  cases best' with
  | none => cases hsome
  | some l =>
    simp only [Option.isNone_some, ifb_false, Option.getD_some]
    exact tot_some ⟨rfl, hF.good l rfl, fun u hu ha => (hF.no u (hso u hu) ha trivial).2⟩
end
end Pt

/- PlanKept: the law. -/
set_option linter.unusedVariables false
set_option linter.unusedSimpArgs false
set_option maxRecDepth 100000
namespace Pt
open Go Hk Hd Pl

theorem Solve2_ok (p : S_plan_Periodic) (hp : POk p.Period p.Events p.Rules) : Tot (plan_Solve_v2 p) fun r => (r = ([], 9) ∧ ∀ t, Ok0 p.Period p.Events t → ¬ All p.Period p.Rules t) ∨
    ∃ l, r = (l, 0) ∧ (l.length : Int) = p.Events ∧ (∃ t, Ok0 p.Period p.Events t ∧ All p.Period p.Rules t ∧ ∀ i, 0 ≤ i → i < p.Events → t i = nth 0 l i) ∧
      ∀ t, Ok0 p.Period p.Events t → All p.Period p.Rules t → (∀ i, 0 ≤ i → i < p.Events → t i = nth 0 l i) ∨ Above p.Events l t := by
  unfold plan_Solve_v2
  refine tot_bind' (check_ok hp) ?_
  refine tot_ifb (fun q => (by simp at q)) fun _ => ?_
  refine tot_bind (solve_ok p hp) fun r _ hr => ?_
  rcases hr with ⟨rfl, h3⟩ | ⟨l, rfl, h3⟩
  · exact tot_some (.inl ⟨rfl, h3⟩)
  · exact tot_some (.inr ⟨l, rfl, h3⟩)
theorem awake : fishkeep2_awakePlan = some true := by kernel_rfl
theorem periods_ : fishkeep2_periods = some true := by kernel_rfl
theorem keeps_congr {T n : Int} {r : S_plan_Rule} (hr : ROk T n r) {t u : Int → Int} (h : ∀ i, 0 ≤ i → i < n → t i = u i) (hk : Keeps T r t) : Keeps T r u := by
  obtain ⟨k, hk⟩ := hk
  rw [h r.To hr.t0 hr.t1, h r.From hr.f0 hr.f1] at hk
  exact ⟨k, hk⟩
/-- times moved together -/
theorem keeps_move {T n m : Int} {r : S_plan_Rule} (hr : ROk T n r) {t u : Int → Int} (h : ∀ i, 0 ≤ i → i < n → ∃ k, u i = t i + m + k * T) (hk : Keeps T r t) : Keeps T r u := by
  obtain ⟨k, h1, h2⟩ := hk
  obtain ⟨a, ha⟩ := h r.To hr.t0 hr.t1
  obtain ⟨c, hc⟩ := h r.From hr.f0 hr.f1
  refine ⟨k - a + c, ?_⟩
  have e : (k - a + c) * T = k * T - a * T + c * T := by rw [Int.add_mul, Int.sub_mul]
  unfold In
  rw [e, ha, hc]
  constructor <;> omega
theorem gv_move {T n m : Int} {r : S_plan_Rule} (hr : ROk T n r) {t u : Int → Int} (h : ∀ i, 0 ≤ i → i < n → ∃ k, u i = t i + m + k * T) : gv T r u = gv T r t := by
  obtain ⟨a, ha⟩ := h r.To hr.t0 hr.t1
  obtain ⟨c, hc⟩ := h r.From hr.f0 hr.f1
  refine gv_shift (m := a - c) ?_
  rw [ha, hc, Int.sub_mul]; omega
theorem cmpI_ok (a b : Int) : cmp_Compare_int a b = some (if a < b then -1 else if a > b then 1 else 0) := by
  unfold cmp_Compare_int cmp_isNaN_int
  have e : ∀ x : Int, (x != x) = false := fun x => by simp
  simp only [Option.bind_some, e, ifb_false]
  by_cases h : a < b
  · rw [decide_eq_true h, ifb_true, if_pos h]
  · rw [decide_eq_false h, ifb_false, if_neg h]
    by_cases h2 : a > b
    · rw [decide_eq_true h2, ifb_true, if_pos h2]
    · rw [decide_eq_false h2, ifb_false, if_neg h2]
/-- a list that is not below another one -/
theorem cmp_ge {xs ys : List Int} (hl : xs.length = ys.length) (h : ∀ j : Nat, j < xs.length → (∀ i : Nat, i < j → nth 0 xs (i : Int) = nth 0 ys (i : Int)) → nth 0 ys (j : Int) ≤ nth 0 xs (j : Int)) : Tot (slices_Compare_int_int xs ys) fun c => 0 ≤ c := by
  unfold slices_Compare_int_int
  refine tot_loopX (I := fun i _ => ∀ j : Nat, j < i → nth 0 xs (j : Int) = nth 0 ys (j : Int)) (J := fun _ => True) (E := fun y => 0 ≤ y) (fun j hj => by omega) (fun i x s hx hI => ?_) (fun _ _ => trivial) (fun s _ => ?_) (fun y hy => tot_some hy)
  · have hi := (List.getElem?_eq_some_iff.1 hx).1
    have ex : nth 0 xs (i : Int) = x := nth_nat 0 hx
    unfold slices_Compare_int_int_b1
    refine tot_ifb (fun q => by have := of_decide_eq_true q; omega) fun _ => ?_
    refine tot_bind' (idx_nth 0 (by omega) (by omega)) ?_
    rw [cmpI_ok]
    simp only [Option.bind_some]
    have hge := h i hi hI
    rw [ex] at hge
    by_cases e : x = nth 0 ys (i : Int)
    · rw [if_neg (by omega), if_neg (by omega)]
      refine tot_some fun j hj => ?_
      by_cases z : j = i
      · subst z; rw [ex, e]
      · exact hI j (by omega)
    · rw [if_neg (by omega), if_pos (by omega)]
      exact tot_some (show (0 : Int) ≤ 1 by decide)
  · rw [decide_eq_false (by omega), ifb_false]
    exact tot_some (Int.le_refl _)
theorem law : Go.Proofs.Ytphfhogmpfmpjaa.PlanKept.PlanKeptLaw := by
  intro p by_ less _ _ _
  refine tot_eq (?_ : Tot _ (· = true))
  unfold fishkeep2_PlanKept
  rw [awake, periods_]
  simp only [Option.bind_some, Bool.not_true, ifb_false]
  refine tot_bind (fault_tot p) fun e _ he => ?_
  refine tot_ifb (fun _ => tot_some rfl) fun q => ?_
  have q : e = 0 := by simpa using q
  have hp := he.1 q
  have T0 := hp.T0; have T1 := hp.T1; have n0 := hp.n0; have n1 := hp.n1; have hll := hp.len
  refine tot_bind (Solve2_ok p hp) fun r _ hr => ?_
  -- other times that keep all
  have other : Good p less → All p.Period p.Rules (nth 0 less) → ∃ u, Ok0 p.Period p.Events u ∧ All p.Period p.Rules u := fun hg ha => by
    have h0 := hg.bd 0 (by omega) (by omega)
    refine ⟨fun i => if nth 0 less 0 ≤ nth 0 less i then nth 0 less i - nth 0 less 0 else nth 0 less i - nth 0 less 0 + p.Period, ⟨by simp, fun i i0 i1 => ?_⟩, fun r hr => keeps_move (m := - nth 0 less 0) (hp.all r hr) (fun i i0 i1 => ?_) (ha r hr)⟩
    · have := hg.bd i i0 i1
      show 0 ≤ (if nth 0 less 0 ≤ nth 0 less i then nth 0 less i - nth 0 less 0 else nth 0 less i - nth 0 less 0 + p.Period) ∧ (if nth 0 less 0 ≤ nth 0 less i then nth 0 less i - nth 0 less 0 else nth 0 less i - nth 0 less 0 + p.Period) ≤ p.Period - 1
      split <;> omega
    · show ∃ k, (if nth 0 less 0 ≤ nth 0 less i then nth 0 less i - nth 0 less 0 else nth 0 less i - nth 0 less 0 + p.Period) = nth 0 less i + - nth 0 less 0 + k * p.Period
      split
      · exact ⟨0, by omega⟩
      · exact ⟨1, by omega⟩
  refine tot_bind (P := fun c => c = false) ?_ fun c _ hc => ?_
  · refine tot_ifb (fun q => ?_) fun _ => tot_some rfl
    have q : (less.length : Int) = p.Events := by simpa using q
    refine tot_bind (timesFault_ok hp) fun e _ he => ?_
    refine tot_ifb (fun q2 => ?_) fun _ => tot_some rfl
    have q2 : e = 0 := by simpa using q2
    have hg := he q2
    refine tot_bind (brokenOf_ok hp hg) fun k _ hk => ?_
    refine tot_ifb (fun q3 => ?_) fun _ => tot_some rfl
    have ha := hk (of_decide_eq_true q3)
    rcases hr with ⟨rfl, h3⟩ | ⟨l, rfl, h1, _, h3⟩
    · obtain ⟨u, hu, hua⟩ := other hg ha
      exact absurd hua (h3 u hu)
    · refine tot_ifb (fun q => (by simp at q)) fun _ => ?_
      refine tot_bind (cmp_ge (xs := less) (ys := l) (by omega) fun j hj hpre => ?_) fun c _ hc => tot_some (decide_eq_false (by omega))
      by_cases hz : nth 0 less 0 = 0
      · rcases h3 (nth 0 less) ⟨hz, hg.bd⟩ ha with h4 | ⟨i, i0, i1, i2, i3⟩
        · rw [h4 j (by omega) (by omega)]; exact Int.le_refl _
        · rcases Int.lt_trichotomy (j : Int) i with g | g | g
          · rw [i2 j (by omega) g]; exact Int.le_refl _
          · rw [g]; omega
          · have := hpre i.toNat (by omega)
            rw [show ((i.toNat : Nat) : Int) = i by omega] at this
            omega
      · have h0 := hg.bd 0 (by omega) (by omega)
        -- the first number decides
        rcases Nat.eq_zero_or_pos j with g | g
        · subst g
          have hl0 : nth 0 l 0 = 0 := by
            obtain ⟨_, _, _, ⟨t, ht, _, hte⟩, _⟩ := (show ∃ l', (l, (0 : Int)) = (l', 0) ∧ (l.length : Int) = p.Events ∧ (∃ t, Ok0 p.Period p.Events t ∧ All p.Period p.Rules t ∧ ∀ i, 0 ≤ i → i < p.Events → t i = nth 0 l i) ∧ True from ⟨l, rfl, h1, by assumption, trivial⟩)
            rw [← hte 0 (by omega) (by omega)]; exact ht.1
          show nth 0 l 0 ≤ nth 0 less 0
          omega
        · have hl0 : nth 0 l 0 = 0 := by
            obtain ⟨_, _, _, ⟨t, ht, _, hte⟩, _⟩ := (show ∃ l', (l, (0 : Int)) = (l', 0) ∧ (l.length : Int) = p.Events ∧ (∃ t, Ok0 p.Period p.Events t ∧ All p.Period p.Rules t ∧ ∀ i, 0 ≤ i → i < p.Events → t i = nth 0 l i) ∧ True from ⟨l, rfl, h1, by assumption, trivial⟩)
            rw [← hte 0 (by omega) (by omega)]; exact ht.1
          have := hpre 0 g
          rw [show ((0 : Nat) : Int) = 0 from rfl] at this
          omega
  subst hc
  simp only [ifb_false]
  rcases hr with ⟨rfl, h3⟩ | ⟨l, rfl, h1, ⟨t, ht, hta, hte⟩, h3⟩
  · exact tot_some rfl
  refine tot_ifb (fun q => (by simp at q)) fun _ => ?_
  have hg : Good p l := ⟨h1, fun i i0 i1 => by rw [← hte i i0 i1]; exact ht.2 i i0 i1⟩
  have ha : All p.Period p.Rules (nth 0 l) := fun r hr => keeps_congr (hp.all r hr) hte (hta r hr)
  have hz : nth 0 l 0 = 0 := by rw [← hte 0 (by omega) (by omega)]; exact ht.1
  refine tot_bind' (broken_ok hp hg ha) ?_
  refine tot_bind (P := fun c => c = false) ?_ fun c _ hc => ?_
  · refine tot_ifb (fun q => (by simp at q)) fun _ => ?_
    refine tot_ifb (fun q => (by simp at q)) fun _ => ?_
    refine tot_ifb (fun q => ?_) fun _ => ?_
    · have q : (l.length : Int) ≠ p.Events := by simpa using q
      omega
    refine tot_bind' (idx_nth 0 (by omega) (by show (0 : Int) < (l.length : Int); omega)) ?_
    rw [hz]; exact tot_some rfl
  subst hc
  simp only [ifb_false]
  have hcl : slices_Clone_int_int l = some l := by
    refine tot_eq (?_ : Tot _ (· = l))
    unfold slices_Clone_int_int slices_Clone_int_int_v2
    refine tot_ifb (fun q => by cases q) fun _ => ?_
    refine tot_bind' (gapp_eq (by simp; have : (1000 : Nat) ≤ apRoom := (by decide); omega) (by simp; have : (1000 : Nat) ≤ maxLen := (by decide); omega)) ?_
    exact tot_some (by simp)
  refine tot_bind' hcl ?_
  -- moved together
  have hr1 : -p.Period < by_.tmod p.Period ∧ by_.tmod p.Period < p.Period := by
    refine ⟨?_, Int.tmod_lt_of_pos _ (by omega)⟩
    have := Int.tmod_lt_of_pos (-by_) (b := p.Period) (by omega)
    rw [Int.neg_tmod] at this
    omega
  generalize hr : by_.tmod p.Period = rb at hr1
  have gq : gremK by_ p.Period = some rb := by unfold gremK; rw [if_neg (by omega), hr]
  generalize hsd : (rb + p.Period).tmod p.Period = sh
  have hsh : 0 ≤ sh ∧ sh < p.Period := by
    rw [← hsd]
    exact ⟨Int.tmod_nonneg _ (by omega), Int.tmod_lt_of_pos _ (by omega)⟩
  refine tot_loopN (I := fun i s => s.length = l.length ∧ ∀ j : Int, 0 ≤ j → j < p.Events → nth 0 s j = if j < (i : Int) then (nth 0 l j + sh) % p.Period else nth 0 l j) (J := fun s => s.length = l.length ∧ ∀ j : Int, 0 ≤ j → j < p.Events → nth 0 s j = (nth 0 l j + sh) % p.Period) (E := fun _ => False)
    ⟨rfl, fun j j0 j1 => by rw [if_neg (by omega)]⟩ (fun i s hi hI => ?_) (fun s hI => ⟨hI.1, fun j j0 j1 => by rw [hI.2 j j0 j1, if_pos (by omega)]⟩) (fun s hJ => ?_) (fun y _ => y.elim)
  · obtain ⟨l1, l2⟩ := hI
    have ev := l2 (i : Int) (by omega) (by omega)
    rw [if_neg (by omega)] at ev
    have hb := hg.bd i (by omega) (by omega)
    have g2 : gremK (rb + p.Period) p.Period = some sh := by unfold gremK; rw [if_neg (by omega), hsd]
    have g3 : gremK (nth 0 l (i : Int) + sh) p.Period = some ((nth 0 l (i : Int) + sh) % p.Period) := by
      unfold gremK; rw [if_neg (by omega), Int.tmod_eq_emod_of_nonneg (by omega)]
    unfold fishkeep2_PlanKept_b1
    refine tot_bind' (idx_nth 0 (by omega) (by omega)) ?_
    refine tot_bind' gq ?_
    rw [w64_id (x := rb + p.Period) (by omega) (by omega)]
    refine tot_bind' g2 ?_
    rw [ev, w64_id (x := nth 0 l (i : Int) + sh) (by omega) (by omega)]
    refine tot_bind' g3 ?_
    refine tot_bind' (idx_nth 0 (by omega) (by omega)) ?_
    refine tot_some ⟨by rw [setI_length]; exact l1, fun j j0 j1 => ?_⟩
    rw [nth_setI 0 (by omega) j0 (by omega)]
    by_cases z : j = i
    · subst z
      rw [if_pos rfl, if_pos (by omega)]
    · rw [if_neg z, l2 j j0 j1]
      by_cases z2 : j < (i : Int)
      · rw [if_pos z2, if_pos (by omega)]
      · rw [if_neg z2, if_neg (by omega)]
  · obtain ⟨j1, j2⟩ := hJ
    have hgs : Good p s := ⟨by omega, fun i i0 i1 => by
      rw [j2 i i0 i1]
      have a := Int.emod_nonneg (nth 0 l i + sh) (show p.Period ≠ 0 by omega)
      have c := Int.emod_lt_of_pos (nth 0 l i + sh) (show 0 < p.Period by omega)
      omega⟩
    have hmv : ∀ i, 0 ≤ i → i < p.Events → ∃ k, nth 0 s i = nth 0 l i + sh + k * p.Period := fun i i0 i1 => by
      have e := Int.mul_ediv_add_emod (nth 0 l i + sh) p.Period
      refine ⟨-((nth 0 l i + sh) / p.Period), ?_⟩
      rw [j2 i i0 i1, Int.neg_mul, Int.mul_comm]
      omega
    have has : All p.Period p.Rules (nth 0 s) := fun r hr => keeps_move (hp.all r hr) hmv (ha r hr)
    have hcs : costv p.Period (nth 0 s) p.Rules = costv p.Period (nth 0 l) p.Rules := costv_eq fun r hr => gv_move (hp.all r hr) hmv
    refine tot_bind' (broken_ok hp hgs has) ?_
    refine tot_bind' (cost_ok hp hg) ?_
    refine tot_bind' (cost_ok hp hgs) ?_
    refine tot_bind (P := fun c => c = false) ?_ fun c _ hc => ?_
    · refine tot_ifb (fun q => (by simp at q)) fun _ => ?_
      refine tot_ifb (fun q => (by simp at q)) fun _ => ?_
      refine tot_ifb (fun q => (by simp at q)) fun _ => ?_
      refine tot_ifb (fun q => (by simp at q)) fun _ => ?_
      dsimp only
      rw [hcs]
      exact tot_some (by simp)
    subst hc
    simp only [ifb_false]
    refine tot_ifb (fun _ => tot_some rfl) fun q => ?_
    have q := of_decide_eq_false q
    refine tot_bind (best_ok hp (by omega) ⟨t, ht, hta⟩) fun r _ hr => ?_
    obtain ⟨e1, e2, e3⟩ := hr
    refine tot_bind' (cost_ok hp e2.good) ?_
    refine tot_bind (P := fun c => c = true) ?_ fun c _ hc => tot_some hc
    dsimp only
    rw [e1]
    refine tot_ifb (fun _ => ?_) fun q => (by simp at q)
    refine tot_ifb (fun _ => ?_) fun q => (by simp at q)
    rw [e2.cost]
    refine tot_ifb (fun _ => ?_) fun q => by simp at q
    have := e3 (nth 0 l) ⟨hz, hg.bd⟩ ha
    rw [e2.cost] at this
    exact tot_some (decide_eq_true this)
end Pt
namespace Go.Proofs.Ytphfhogmpfmpjaa
theorem planKept_proved : Rows.PlanKeptSaid := PlanKept.close Pt.law
end Go.Proofs.Ytphfhogmpfmpjaa
