/- The mend laws, the plain side: where there are seconds at all, the search ends soon: it goes on in turns, and with each turn one node more has its last second. -/
import Derived.Test.YtcidamhhffgipaaM1
set_option linter.unusedVariables false
set_option linter.unusedSimpArgs false
namespace Mb
open Go Hk Hd

/-- the least seconds, where there are any -/
structure Fit (n : Nat) (R : Int → Int) (A : List S_mend_Arc) (last : List Int) (u : Int → Int) : Prop where
  min : MinS n R A u
  lasts : ∀ v : Int, 0 ≤ v → v < n → 0 ≤ nI last v → u v ≤ nI last v
  up : ∀ v : Int, 0 ≤ v → v < n → u v ≤ 1099511627776
theorem fit_of {n : Nat} {R : Int → Int} {A : List S_mend_Arc} {last : List Int} {u : Int → Int} (hA : ∀ a ∈ A, GoodArc n a) (hn : n ≤ 24) (hR : ∀ v : Int, 0 ≤ v → v < n → R v ≤ 28800) (hu : Feas n R A u)
    (hl : ∀ v : Int, 0 ≤ v → v < n → 0 ≤ nI last v → u v ≤ nI last v) : ∃ u', Fit n R A last u' ∧ ∀ v : Int, 0 ≤ v → v < n → u' v ≤ u v := by
  obtain ⟨u', h1, h2⟩ := exists_min hA _ u hu (Nat.le_refl _)
  refine ⟨u', ⟨h1, fun v h0 h3 h4 => ?_, fun v h0 h3 => ?_⟩, h2⟩
  · have := h2 v h0 h3; have := hl v h0 h3 h4; omega
  · have := min_chain hA h1 (m := fun _ => 28800) (T0 := 28800) (fun i _ => by omega) (fun a ha => (hA a ha).l1) (fun i hi => hR i (by omega) (by omega)) v.toNat (by omega)
    rw [sumN_const, Int.toNat_of_nonneg h0] at this
    omega
def cnt (n : Nat) (τ u : Int → Int) : Int := sumN (fun i => if τ (i : Int) = u i then 1 else 0) n
theorem cnt_le (n : Nat) (τ u : Int → Int) : cnt n τ u ≤ n := by
  have := sumN_le (f := fun i => if τ (i : Int) = u i then (1 : Int) else 0) (g := fun _ => 1) (n := n) fun i _ => by split <;> omega
  rw [sumN_const] at this
  unfold cnt; omega
/-- a turn of the search. Pd: the arcs that are being tried; X: how many these are at most -/
structure Ph (n : Nat) (R : Int → Int) (A : List S_mend_Arc) (outs : List (List S_mend_Arc)) (u : Int → Int) (M B0 : Int) (Pd : S_mend_Arc → Prop) (X : Int) (t r : List Int) (w : List Bool) (q : List Int) (τ : Int → Int) (k : Nat) (q1 q2 : List Int) (P : Int) : Prop where
  spl : q = q1 ++ q2
  nd : q.Nodup
  qw : ∀ v ∈ q, nB w v = true
  le : ∀ v : Int, 0 ≤ v → v < n → τ v ≤ nI t v
  rt : ∀ v : Int, 0 ≤ v → v < n → R v ≤ τ v
  ar : ∀ a ∈ A, a.From ∈ q1 ∨ Pd a ∨ τ a.From + a.Len ≤ nI t a.To
  up : ∀ v ∈ q2, τ v < nI t v
  cn : (k : Int) ≤ cnt n τ u
  sm : sumI r ≤ B0 + k * M + P
  bud : P + X + sumL (outLen outs) (q1.map Int.toNat) ≤ M
  x0 : 0 ≤ X
section
variable {n : Nat} {R : Int → Int} {A : List S_mend_Arc} {outs : List (List S_mend_Arc)} {u : Int → Int} {M B0 : Int} {Pd : S_mend_Arc → Prop} {X : Int} {t r q : List Int} {w : List Bool} {τ : Int → Int} {k : Nat} {q1 q2 : List Int} {P : Int} {last : List Int} {ok : Bool} {T : Int}
theorem sumL_pos (outs : List (List S_mend_Arc)) : ∀ l, 0 ≤ sumL (outLen outs) l
  | [] => Int.le_refl _
  | i :: l => by
    have := sumL_pos outs l
    simp only [sumL, outLen]; omega
theorem Ph.small (h : Ph n R A outs u M B0 Pd X t r w q τ k q1 q2 P) (hn : n ≤ 24) (hM : M ≤ 2000) (hM0 : 0 ≤ M) (hB : B0 ≤ 2000) : sumI r ≤ 65536 := by
  have h1 := h.sm
  have h2 := h.bud
  have h3 := h.x0
  have h4 := sumL_pos outs (q1.map Int.toNat)
  have h5 := h.cn
  have h6 := cnt_le n τ u
  have h7 : (k : Int) * M ≤ 24 * 2000 := Int.mul_le_mul (by omega) hM hM0 (by omega)
  omega
/-- one arc is tried -/
theorem Ph.try (hA : ∀ a ∈ A, GoodArc n a) (hn : n ≤ 24) (hM : M ≤ 2000) (hM0 : 0 ≤ M) (hB : B0 ≤ 2000) (h : Ph n R A outs u M B0 Pd X t r w q τ k q1 q2 P) (hu : Fit n R A last u) {a : S_mend_Arc} (ha : a ∈ A) {t' r' q' : List Int} {w' : List Bool} {ok' : Bool}
    (hW : Work n R A last T t r ok w q) (hW' : ∀ v : Int, 0 ≤ v → v < n → nI t' v ≤ u v) (hS : Step n last a t r ok w q t' r' ok' w' q') (hok : ok = true) (hr' : ∀ v : Int, 0 ≤ v → v < n → nI r' v ≤ sumI r') (hX : 1 ≤ X) {Pd' : S_mend_Arc → Prop} (hPd : ∀ b ∈ A, Pd b → Pd' b ∨ b = a) :
    ok' = true ∧ ∃ q2', Ph n R A outs u M B0 Pd' (X - 1) t' r' w' q' τ k q1 q2' (P + 1) := by
  have hg := hA a ha
  have f0 := hg.f0; have f1 := hg.f1; have t0 := hg.t0; have t1 := hg.t1
  have hsum : sumI r' ≤ sumI r + 1 := by rcases hS.sum with ⟨e, _⟩ | ⟨e, _⟩ <;> omega
  have hsm := h.small hn (by omega) hM0 (by omega)
  have key : ∀ q2', q' = q1 ++ q2' → q'.Nodup → (∀ v ∈ q', nB w' v = true) → (∀ v ∈ q2', τ v < nI t' v) → ∃ q2', Ph n R A outs u M B0 Pd' (X - 1) t' r' w' q' τ k q1 q2' (P + 1) := by
    intro q2' e1 e2 e3 e4
    refine ⟨q2', e1, e2, e3, fun v h0 h1 => ?_, h.rt, fun b hb => ?_, e4, h.cn, by have := h.sm; omega, by have := h.bud; omega, by omega⟩
    · have := h.le v h0 h1; have := hS.ge v h0 h1; omega
    · by_cases hba : b = a
      · subst hba
        right; right
        have e5 := hS.sat
        have e6 := hS.ge b.From f0 f1
        have e7 := h.le b.From f0 f1
        omega
      · rcases h.ar b hb with h1 | h1 | h1
        · exact .inl h1
        · exact .inr (.inl ((hPd b hb h1).resolve_right hba))
        · have := hS.ge b.To (hA b hb).t0 (hA b hb).t1
          exact .inr (.inr (by omega))
  refine ⟨hS.okc hok (.inr ⟨?_, fun hl => ?_, ?_⟩), ?_⟩
  · have := hW' a.To t0 t1; have := hu.up a.To t0 t1; omega
  · have := hW' a.To t0 t1; have := hu.lasts a.To t0 t1 hl; omega
  · have e1 := hr' a.To t0 t1
    have e2 := h.bud
    have e3 := sumL_pos outs (q1.map Int.toNat)
    have e4 := h.sm
    have e5 := h.cn
    have e6 := cnt_le n τ u
    have e7 : (k : Int) * M ≤ 24 * 2000 := Int.mul_le_mul (by omega) hM hM0 (by omega)
    omega
  · rcases hS.que with ⟨e1, e2, e3⟩ | ⟨e1, e2, e3, e4⟩
    · refine key q2 (e1.trans h.spl) (by rw [e1]; exact h.nd) (fun v hv => ?_) (fun v hv => ?_)
      · rw [e1] at hv
        have := hW.q0 v hv
        rw [e2 v this.1 this.2]; exact h.qw v hv
      · have hq : v ∈ q := by rw [h.spl]; exact List.mem_append_right _ hv
        have := hW.q0 v hq
        have := hS.ge v this.1 this.2
        have := h.up v hv
        omega
    · have hnq : a.To ∉ q := fun hq => by rw [h.qw _ hq] at e2; cases e2
      refine key (q2 ++ [a.To]) (by rw [e1, h.spl, List.append_assoc]) ?_ (fun v hv => ?_) (fun v hv => ?_)
      · rw [e1]
        refine List.nodup_append.2 ⟨h.nd, by simp, fun x hx y hy e => ?_⟩
        rw [List.mem_singleton] at hy
        subst e; subst hy; exact hnq hx
      · rw [e1] at hv
        rcases List.mem_append.1 hv with hv | hv
        · have hr := hW.q0 v hv
          rw [e3 v hr.1 hr.2]
          split
          · rfl
          · exact h.qw v hv
        · rw [List.mem_singleton.1 hv, e3 _ t0 t1, if_pos rfl]
      · rcases List.mem_append.1 hv with hv | hv
        · have hq : v ∈ q := by rw [h.spl]; exact List.mem_append_right _ hv
          have hr := hW.q0 v hq
          have := hS.ge v hr.1 hr.2
          have := h.up v hv
          omega
        · rw [List.mem_singleton.1 hv]
          have := h.le a.To t0 t1
          omega
/-- the next turn begins -/
theorem Ph.next (hA : ∀ a ∈ A, GoodArc n a) (hM : sumN (outLen outs) n ≤ M) (h : Ph n R A outs u M B0 (fun _ => False) 0 t r w q τ k [] q2 P) (hq : q ≠ []) (hq0 : ∀ v ∈ q, 0 ≤ v ∧ v < n) (hu : MinS n R A u) (hle : ∀ v : Int, 0 ≤ v → v < n → nI t v ≤ u v)
    (hlow : ∀ v : Int, 0 ≤ v → v < n → R v ≤ nI t v) (hsat : ∀ a ∈ A, nB w a.From = false → nI t a.From + a.Len ≤ nI t a.To) (hwq : ∀ v : Int, 0 ≤ v → v < n → nB w v = true → v ∈ q) :
    Ph n R A outs u M B0 (fun _ => False) 0 t r w q (nI t) (k + 1) q [] 0 := by
  have e0 : q = q2 := h.spl
  obtain ⟨x, hx⟩ : ∃ x, x ∈ q := by cases q with | nil => exact absurd rfl hq | cons x l => exact ⟨x, by simp⟩
  have hx0 := hq0 x hx
  have hxu := h.up x (e0 ▸ hx)
  have hxl := hle x hx0.1 hx0.2
  have hcnt : ((k + 1 : Nat) : Int) ≤ cnt n (nI t) u := by
    obtain ⟨a, ha, s1, s2, e⟩ := hu.tight (fun i => decide (τ (i : Int) = u i)) ⟨x.toNat, by omega, by rw [decide_eq_false_iff_not, Int.toNat_of_nonneg hx0.1]; omega⟩ fun i hi hS => by
      have h1 := h.rt i (by omega) (by omega)
      have h2 := h.le i (by omega) (by omega)
      have h3 := hle i (by omega) (by omega)
      simp only [decide_eq_false_iff_not] at hS
      omega
    have hg := hA a ha
    have f0 := hg.f0; have f1 := hg.f1; have t0 := hg.t0; have t1 := hg.t1
    simp only [decide_eq_true_eq, decide_eq_false_iff_not, Int.toNat_of_nonneg f0, Int.toNat_of_nonneg t0] at s1 s2
    have har : τ a.From + a.Len ≤ nI t a.To := by
      rcases h.ar a ha with h1 | h1 | h1
      · simp at h1
      · exact h1.elim
      · exact h1
    have hto := hle a.To t0 t1
    have c1 := sumN_le (f := fun i => if i = a.To.toNat then 1 else if τ (i : Int) = u i then (1 : Int) else 0) (g := fun i => if nI t (i : Int) = u i then (1 : Int) else 0) (n := n) fun i hi => by
      by_cases hia : i = a.To.toNat
      · have : (i : Int) = a.To := by omega
        rw [if_pos hia, this, if_pos (by omega)]
        omega
      · rw [if_neg hia]
        have h2 := h.le i (by omega) (by omega)
        have h3 := hle i (by omega) (by omega)
        split
        · rw [if_pos (by omega)]; omega
        · split <;> omega
    have c2 := sumN_upd (f := fun i => if τ (i : Int) = u i then (1 : Int) else 0) (g := fun i => if i = a.To.toNat then 1 else if τ (i : Int) = u i then (1 : Int) else 0) (k := a.To.toNat) (n := n) (by omega) fun i _ hi => by simp [hi]
    simp only [Int.toNat_of_nonneg t0, if_neg s2, if_pos] at c2
    have := h.cn
    unfold cnt at this ⊢
    omega
  refine ⟨by simp, h.nd, h.qw, fun v _ _ => Int.le_refl _, hlow, fun a ha => ?_, fun v hv => by simp at hv, hcnt, ?_, ?_, by omega⟩
  · cases hw : nB w a.From with
    | true => exact .inl (hwq _ (hA a ha).f0 (hA a ha).f1 hw)
    | false => exact .inr (.inr (hsat a ha hw))
  · have h1 := h.sm
    have h2 := h.bud
    simp only [List.map_nil, sumL] at h2
    have : ((k + 1 : Nat) : Int) * M = k * M + M := by rw [Int.natCast_add, Int.add_mul]; simp
    rw [this]; omega
  · have hnd : (q.map Int.toNat).Nodup := by
      refine List.pairwise_map.2 (h.nd.imp_of_mem fun ha hb hab e => hab ?_)
      have := hq0 _ ha; have := hq0 _ hb
      omega
    have := sumL_le (n := n) (l := q.map Int.toNat) (f := outLen outs) (fun i _ => by simp only [outLen]; omega) hnd fun i hi => by
      obtain ⟨v, hv, rfl⟩ := List.mem_map.1 hi
      have := hq0 v hv
      omega
    omega
/-- a node is taken from the queue -/
theorem Ph.pop {x : Int} (h : Ph n R A outs u M B0 (fun _ => False) 0 t r w (x :: q) τ k (x :: q1) q2 P) (hx : 0 ≤ x) (hw : ∀ v : Int, 0 ≤ v → v < n → nB (setI w x false) v = if v = x then false else nB w v) (hq0 : ∀ v ∈ x :: q, 0 ≤ v ∧ v < n) :
    Ph n R A outs u M B0 (fun a => a.From = x ∧ a ∉ (nO outs x).take 0) ((nO outs x).length : Int) t r (setI w x false) q τ k q1 q2 P := by
  obtain ⟨d1, d2⟩ := List.nodup_cons.1 h.nd
  refine ⟨(List.cons.inj h.spl).2, d2, fun v hv => ?_, h.le, h.rt, fun a ha => ?_, h.up, h.cn, h.sm, ?_, by omega⟩
  · have := hq0 v (by simp [hv])
    have hne : v ≠ x := fun e => by subst e; exact d1 hv
    rw [hw v this.1 this.2, if_neg hne]
    exact h.qw v (by simp [hv])
  · rcases h.ar a ha with h1 | h1 | h1
    · rcases List.mem_cons.1 h1 with h1 | h1
      · exact .inr (.inl ⟨h1, by simp⟩)
      · exact .inl h1
    · exact h1.elim
    · exact .inr (.inr h1)
  · have := h.bud
    simp only [List.map_cons, sumL, outLen, Int.toNat_of_nonneg hx] at this
    omega
end
end Mb

/- The mend laws, the plain side: one round of the search. -/
set_option linter.unusedVariables false
set_option linter.unusedSimpArgs false
namespace Mb
open Go Hk Hd

/-- one round of the search; e: what is returned where a second is too far -/
def rb {X : Type} (e : X) (s32 : List (List S_mend_Arc)) (x47 : Int × List Int) (s51 : List Int × List Bool × List Int × List Int × Bool × List Int) : Option (Ctl (List Int × List Bool × List Int × List Int × Bool × List Int) (Ctl (List Int × List Bool × List Int × List Int × Bool × List Int) X)) :=
  ((ifb (decide (((s51.2.2.2.2.2.length) : Int) > 0)) (some s51.2.2.2.2.1) (some false)).bind fun (s52 : Bool) => (ifb s52 ((idx s51.2.2.2.2.2 (0 : Int)).bind fun (x53 : Int) => ((gcut s51.2.2.2.2.2 1 (s51.2.2.2.2.2.length : Int)).bind fun (x54 : List Int) => ((idx s51.2.1 x53).bind fun (x55 : Bool) => ((idx s51.1 x53).bind fun (x56 : Int) => (ifb (decide (x56 > x47.1)) (some (.out (.out e))) ((idx s32 x53).bind fun (x57 : List S_mend_Arc) => ((forX (mend_solver_with_v2_b4 s32) x57 (s51.1, (setI s51.2.1 x53 false), s51.2.2.1, s51.2.2.2.1, s51.2.2.2.2.1, x54)).bind fun c65 => Ctl.on c65 (fun s60 => (some (.go (s60.1, s60.2.1, s60.2.2.1, s60.2.2.2.1, s60.2.2.2.2.1, s60.2.2.2.2.2)))) (fun x_ => x_.elim)))))))) (some (.out (.go (s51.1, s51.2.1, s51.2.2.1, s51.2.2.2.1, s51.2.2.2.2.1, s51.2.2.2.2.2))))))
/-- the times of the solver, as they are to be -/
structure Done (n : Nat) (R : Int → Int) (A : List S_mend_Arc) (last : List Int) (t : List Int) : Prop where
  lt : t.length = n
  up : ∀ v : Int, 0 ≤ v → v < n → nI t v ≤ 1099511627776
  low : ∀ v : Int, 0 ≤ v → v < n → 0 ≤ R v ∧ R v ≤ nI t v
  tight : ∀ v : Int, 0 ≤ v → v < n → nI t v = R v ∨ ∃ a ∈ A, a.To = v ∧ nI t v ≤ nI t a.From + a.Len
  least : ∀ u, Feas n R A u → ∀ v : Int, 0 ≤ v → v < n → nI t v ≤ u v
  lasts : ∀ v : Int, 0 ≤ v → v < n → 0 ≤ nI last v → nI t v ≤ nI last v
  sat : ∀ a ∈ A, nI t a.From + a.Len ≤ nI t a.To
/-- the search's state between two rounds -/
structure Between (n : Nat) (R : Int → Int) (A : List S_mend_Arc) (last : List Int) (outs : List (List S_mend_Arc)) (M B0 : Int) (t r : List Int) (ok : Bool) (w : List Bool) (q : List Int) : Prop where
  work : Work n R A last 1099520000000 t r ok w q
  sat : ∀ a ∈ A, nB w a.From = false → nI t a.From + a.Len ≤ nI t a.To
  sum : sumI r ≤ 2000000
  comp : ∀ u, Fit n R A last u → ok = true ∧ ∃ τ k q1 q2 P, Ph n R A outs u M B0 (fun _ => False) 0 t r w q τ k q1 q2 P
theorem Between.done {n : Nat} {R : Int → Int} {A : List S_mend_Arc} {last t r : List Int} {w : List Bool} {outs : List (List S_mend_Arc)} {M B0 : Int} (hA : ∀ a ∈ A, GoodArc n a) (h : Between n R A last outs M B0 t r true w []) : Done n R A last t :=
  ⟨h.work.lt, h.work.okt rfl, h.work.low, h.work.tight, h.work.least, h.work.okl rfl, fun a ha => h.sat a ha (by
    cases hw : nB w a.From
    · rfl
    · have := h.work.wq a.From (hA a ha).f0 (hA a ha).f1 hw; simp at this)⟩
theorem sum_le {n : Nat} {r : List Int} (hn : n ≤ 24) (lr : r.length = n) (h : ∀ v : Int, 0 ≤ v → v < n → nI r v ≤ 65536) : sumI r ≤ 1572864 := by
  have := sumI_le (c := 65536) r (all_nth 0 fun i h0 h1 => h i h0 (by omega))
  omega
/-- one round -/
theorem round_tot {n : Nat} {R : Int → Int} {A : List S_mend_Arc} {last t r q : List Int} {ok : Bool} {w : List Bool} {outs : List (List S_mend_Arc)} {bd : Int × List Int} {X : Type} {e : X} {K : Nat} {B0 : Int}
    (hn : n ≤ 24) (hA : ∀ a ∈ A, GoodArc n a) (hK : K ≤ 2000) (hB0 : B0 ≤ 2000) (lo : outs.length = n) (ho : ∀ v : Int, 0 ≤ v → v < n → ∀ a, a ∈ nO outs v ↔ a ∈ A ∧ a.From = v) (hl : sumN (outLen outs) n ≤ K) (hbd : ∀ u, Fit n R A last u → ∀ v : Int, 0 ≤ v → v < n → u v ≤ bd.1)
    (hB : Between n R A last outs K B0 t r ok w q) :
    Tot (rb e outs bd (t, w, r, last, ok, q)) (fun c => match c with
      | .go s' => s'.2.2.2.1 = last ∧ Between n R A last outs K B0 s'.1 s'.2.2.1 s'.2.2.2.2.1 s'.2.1 s'.2.2.2.2.2 ∧ 2 * (2000000 - sumI s'.2.2.1) + s'.2.2.2.2.2.length < 2 * (2000000 - sumI r) + q.length
      | .out (.go s') => s'.2.2.2.1 = last ∧ (s'.2.2.2.2.1 = true → Done n R A last s'.1) ∧ (∀ u, Fit n R A last u → s'.2.2.2.2.1 = true)
      | .out (.out x) => x = e ∧ ∀ u, ¬ Fit n R A last u) := by
  unfold rb
  simp only []
  refine tot_bind (P := fun b => (b = true → ok = true ∧ q ≠ []) ∧ (b = false → ok = true → q = [])) ?_ fun b _ hb => ?_
  · simp only [tot_ifb_iff, tot_some_iff, decide_eq_true_eq, decide_eq_false_iff_not]
    refine ⟨fun h => ⟨fun h' => ⟨h', fun e => by subst e; simp at h⟩, fun h' e => by rw [e] at h'; cases h'⟩, fun h => ⟨fun h' => (by cases h'), fun _ _ => ?_⟩⟩
    exact List.eq_nil_of_length_eq_zero (by omega)
  refine tot_ifb (fun h => ?_) fun h => tot_some ⟨rfl, fun hok => (by
    replace hok : ok = true := hok
    have := hb.2 h hok
    subst this; subst hok
    exact hB.done hA), fun u hu => (hB.comp u hu).1⟩
  obtain ⟨hok, hq⟩ := hb.1 h
  subst hok
  obtain ⟨v, q', rfl⟩ : ∃ v q', q = v :: q' := by
    cases q with
    | nil => exact absurd rfl hq
    | cons v q' => exact ⟨v, q', rfl⟩
  have hW := hB.work
  have hv := hW.q0 v (by simp)
  have hvl := len_tot hl v hv.1 hv.2
  refine tot_bind' (show idx (v :: q') 0 = some v from rfl) ?_
  refine tot_bind' gcut_tail ?_
  refine tot_bind' (idx_nB hv.1 (by have := hW.lw; omega)) ?_
  refine tot_bind' (idx_nI hv.1 (by have := hW.lt; omega)) ?_
  refine tot_ifb (fun hbig => tot_some ⟨rfl, fun u hu => ?_⟩) fun _ => ?_
  · have e1 := hbd u hu v hv.1 hv.2
    have e2 := hW.least u hu.min.feas v hv.1 hv.2
    simp only [decide_eq_true_eq, gt_iff_lt] at hbig
    omega
  refine tot_bind' (idx_nO hv.1 (by omega)) ?_
  have hS := sum_le hn hW.lr (hW.okr rfl)
  have htv := hW.okt rfl v hv.1 hv.2
  refine tot_loopX
    (I := fun k s => s.2.2.2.1 = last ∧ Work n R A last 1099520000000 s.1 s.2.2.1 s.2.2.2.2.1 s.2.1 s.2.2.2.2.2 ∧ nI s.1 v = nI t v ∧ sumI s.2.2.1 ≤ sumI r + k ∧ (s.2.2.2.2.2.length : Int) - sumI s.2.2.1 ≤ q'.length - sumI r ∧ sumI r ≤ sumI s.2.2.1 ∧
      (∀ a ∈ A, nB s.2.1 a.From = false → (a.From ≠ v ∨ a ∈ (nO outs v).take k) → nI s.1 a.From + a.Len ≤ nI s.1 a.To) ∧
      ∀ u, Fit n R A last u → s.2.2.2.2.1 = true ∧ ∃ τ kk q1 q2 P, Ph n R A outs u K B0 (fun a => a.From = v ∧ a ∉ (nO outs v).take k) (((nO outs v).length : Int) - k) s.1 s.2.2.1 s.2.1 s.2.2.2.2.2 τ kk q1 q2 P)
    (J := fun s => s.2.2.2.1 = last ∧ Between n R A last outs K B0 s.1 s.2.2.1 s.2.2.2.2.1 s.2.1 s.2.2.2.2.2 ∧ 2 * (2000000 - sumI s.2.2.1) + s.2.2.2.2.2.length < 2 * (2000000 - sumI r) + (q'.length + 1)) (E := fun _ => False) ?_ (fun k a s hx hI => ?_) (fun s hI => ?_) (fun s hJ => tot_some ?_) (fun _ h => h.elim)
  · have hw : ∀ u : Int, 0 ≤ u → u < n → nB (setI w v false) u = if u = v then false else nB w u := fun u h0 h1 => nth_setI false hv.1 h0 (by have := hW.lw; omega)
    refine ⟨rfl, ⟨hW.lt, hW.lr, by rw [setI_length]; exact hW.lw, hW.ll, hW.up, hW.low, hW.tight, hW.least, hW.r0, fun u hu => hW.q0 u (by simp [hu]), fun u h0 h1 hu => ?_, ?_, hW.okt, hW.okl, hW.okr⟩, rfl, by simp, by simp, by simp, fun a ha hwa hd => ?_, fun u hu => ⟨rfl, ?_⟩⟩
    · rw [hw u h0 h1] at hu
      split at hu
      · cases hu
      · rename_i hne
        have := hW.wq u h0 h1 hu
        rcases List.mem_cons.1 this with h | h
        · exact absurd h hne
        · exact h
    · have := hW.qr
      simp at this
      show (q'.length : Int) ≤ sumI r
      omega
    · simp at hd
      have hg := hA a ha
      simp only at hwa
      rw [hw _ hg.f0 hg.f1, if_neg hd] at hwa
      exact hB.sat a ha hwa
    · obtain ⟨_, τ, kk, q1, q2, P, hp⟩ := hB.comp u hu
      have fin : ∀ (τ : Int → Int) (kk : Nat) (q1 q2 : List Int) (P : Int), Ph n R A outs u K B0 (fun _ => False) 0 t r w (v :: q') τ kk (v :: q1) q2 P → ∃ τ kk q1 q2 P, Ph n R A outs u K B0 (fun a => a.From = v ∧ a ∉ (nO outs v).take 0) (((nO outs v).length : Int) - (0 : Nat)) t r (setI w v false) q' τ kk q1 q2 P := fun τ kk q1 q2 P hp => by
        have := hp.pop hv.1 hw hW.q0
        exact ⟨τ, kk, q1, q2, P, by simpa using this⟩
      cases q1 with
      | cons x q1 =>
        obtain rfl : v = x := (List.cons.inj hp.spl).1
        exact fin _ _ _ _ _ hp
      | nil =>
        have := hp.next hA hl (by simp) hW.q0 hu.min (fun v h0 h1 => hW.least u hu.min.feas v h0 h1) (fun v h0 h1 => (hW.low v h0 h1).2) hB.sat hW.wq
        exact fin _ _ _ _ _ this
  · obtain ⟨kL, kW, kv, ks, kq, kr, ksat, kc⟩ := hI
    have hal := (List.getElem?_eq_some_iff.1 hx).1
    have ham := (ho v hv.1 hv.2 a).1 (List.mem_of_getElem? hx)
    have hg := hA a ham.1
    have htry := try_tot (outs := outs) hn hA hg ham.1 kW (by omega) (by omega) (T' := 1099520000000) (by rw [ham.2, kv]; have := hg.l1; omega) (by omega)
    unfold mend_solver_with_v2_b4
    rw [kL]
    refine tot_bind htry fun x _ hx' => tot_some ?_
    obtain ⟨xW, xS, xL⟩ := hx'
    refine ⟨xL, xW, ?_, ?_, ?_, ?_, fun b hb hwb hd => ?_, fun u hu => ?_⟩
    · rw [xS.same v hv.1 hv.2 (fun e => hg.ne (ham.2.trans e)), kv]
    · rcases xS.sum with ⟨e, _⟩ | ⟨e, _⟩ <;> simp only [e] <;> omega
    · rcases xS.sum with ⟨e, e'⟩ | ⟨e, e'⟩ <;> simp only [e] <;> omega
    · rcases xS.sum with ⟨e, e'⟩ | ⟨e, e'⟩ <;> simp only [e] <;> omega
    · have hgb := hA b hb
      obtain ⟨w1, t1⟩ := xS.still b.From hgb.f0 hgb.f1 hwb
      simp only at t1 ⊢
      rw [t1]
      have hge := xS.ge b.To hgb.t0 hgb.t1
      have old : (b.From ≠ v ∨ b ∈ (nO outs v).take k) → nI s.1 b.From + b.Len ≤ nI x.2.2.1 b.To := fun hd => by
        have := ksat b hb w1 hd
        omega
      rcases hd with hd | hd
      · exact old (.inl hd)
      · rcases mem_take_succ hx hd with hd | rfl
        · exact old (.inr hd)
        · have := xS.sat
          rw [t1] at this; exact this
    · obtain ⟨c1, τ, kk, q1, q2, P, hp⟩ := kc u hu
      have hr0 : ∀ y ∈ x.1, 0 ≤ y := all_nth 0 fun i h0 h1 => xW.r0 i h0 (by have := xW.lr; omega)
      have hrs := le_sumI x.1 hr0
      obtain ⟨d1, q2', hp'⟩ := hp.try hA hn (by omega) (by omega) hB0 hu ham.1 kW (fun v h0 h1 => xW.least u hu.min.feas v h0 h1) xS c1 (fun v h0 h1 => hrs.2 _ (nth_mem 0 h0 (by have := xW.lr; omega))) (by omega)
        (Pd' := fun a => a.From = v ∧ a ∉ (nO outs v).take (k + 1)) (fun b hb hpd => by
          by_cases hba : b = a
          · exact .inr hba
          · exact .inl ⟨hpd.1, fun hm => by
              rcases mem_take_succ hx hm with hm | hm
              · exact hpd.2 hm
              · exact hba hm⟩)
      refine ⟨d1, τ, kk, q1, q2', P + 1, ?_⟩
      have e : ((nO outs v).length : Int) - (k : Nat) - 1 = ((nO outs v).length : Int) - ((k + 1 : Nat) : Int) := by omega
      rw [e] at hp'
      exact hp'
  · obtain ⟨kL, kW, kv, ks, kq, kr, ksat, kc⟩ := hI
    refine ⟨kL, ⟨kW, fun a ha hwa => ksat a ha hwa ?_, by omega, fun u hu => ?_⟩, by omega⟩
    · by_cases hf : a.From = v
      · right
        rw [List.take_length]
        exact (ho v hv.1 hv.2 a).2 ⟨ha, hf⟩
      · exact .inl hf
    · obtain ⟨c1, τ, kk, q1, q2, P, hp⟩ := kc u hu
      refine ⟨c1, τ, kk, q1, q2, P, hp.spl, hp.nd, hp.qw, hp.le, hp.rt, fun a ha => ?_, hp.up, hp.cn, hp.sm, by have := hp.bud; omega, by omega⟩
      rcases hp.ar a ha with h | h | h
      · exact .inl h
      · exfalso
        refine h.2 ?_
        rw [List.take_length]
        exact (ho v hv.1 hv.2 a).2 ⟨ha, h.1⟩
      · exact .inr (.inr h)
  · exact hJ
end Mb

/- The mend laws, the plain side: a solver with further arcs: it is right, and where there are seconds it has them. -/
set_option linter.unusedVariables false
set_option linter.unusedSimpArgs false
namespace Mb
open Go Hk Hd

abbrev WSt := List Int × List Bool × List Int × List Int × Bool × List Int
/-- what is done behind the copies -/
def wcore {X : Type} (e : X) (fin : WSt → List (List S_mend_Arc) → X) (B : List S_mend_Arc) (s24 : List Int × List Int × List (List S_mend_Arc)) : Option X :=
  ((forX mend_solver_with_v2_b1 B s24.2.2).bind fun c71 => Ctl.on c71 (fun s32 => ((gmake 1 ((s24.2.1.length) : Int) false).bind fun (x39 : List Bool) => ((gmake 8 ((s24.2.1.length) : Int) (0 : Int)).bind fun (x40 : List Int) => ((forX (mend_solver_with_v2_b2 s32) B (s24.2.1, x39, x40, s24.1, true, ([] : List Int))).bind fun c69 => Ctl.on c69 (fun s43 => ((mend_solver_bound s43.1 s43.2.2.2.1 s32).bind fun (x47 : Int × List Int) => ((iter (rb e s32 x47) (s43.1, s43.2.1, s43.2.2.1, x47.2, s43.2.2.2.2.1, s43.2.2.2.2.2)).bind fun c67 => Ctl.on c67 (fun s50 => (some (fin s50 s32))) (fun r66 => (some r66))))) (fun x_ => x_.elim))))) (fun x_ => x_.elim))
theorem with_v2_eq (s : S_mend_solver) (B : List S_mend_Arc) : mend_solver_with_v2 (some s) B = ((slices_Clone_int_int s.times).bind fun x26 => (slices_Clone_mend_Arc_mend_Arc_v6 s.outs).bind fun x29 => some (s.last, x26, x29)).bind fun s24 =>
    wcore ((none : Option S_mend_solver), false) (fun s50 s32 => (some (S_mend_solver.mk s50.1 s50.2.2.2.1 s32), s50.2.2.2.2.1)) B s24 := rfl
theorem with_eq (B : List S_mend_Arc) (p1 p2 : List Int) (p3 : List (List S_mend_Arc)) : mend_solver_with B p1 p2 p3 = ((slices_Clone_int_int_v3 p1).bind fun x19 => (slices_Clone_mend_Arc_mend_Arc p3).bind fun x20 => some (p2, x19, x20)).bind fun s18 =>
    wcore ((none : Option S_mend_solver), false, p2) (fun s50 s32 => (some (S_mend_solver.mk s50.1 s50.2.2.2.1 s32), s50.2.2.2.2.1, p2)) B s18 := rfl
section
variable {n : Nat} {R : Int → Int} {A B : List S_mend_Arc} {K : Nat} {t last : List Int} {outs : List (List S_mend_Arc)}
theorem wcore_tot {X : Type} {e : X} {fin : WSt → List (List S_mend_Arc) → X} {Q : X → Prop} (hn : n ≤ 24) (hR : ∀ v : Int, 0 ≤ v → v < n → R v ≤ 28800) (hA : ∀ a ∈ A, GoodArc n a) (hB : ∀ a ∈ B, GoodArc n a) (hBl : B.length ≤ 250) (hK : K + B.length ≤ 2000)
    (hs : Solved n R A K t last outs) (he : (∀ u, ¬ Fit n R (A ++ B) last u) → Q e)
    (hfin : ∀ (s : WSt) o, s.2.2.2.1 = last → (s.2.2.2.2.1 = true → Solved n R (A ++ B) (K + B.length) s.1 last o) → (∀ u, Fit n R (A ++ B) last u → s.2.2.2.2.1 = true) → Q (fin s o)) : Tot (wcore e fin B (last, t, outs)) Q := by
  have hAB : ∀ a ∈ A ++ B, GoodArc n a := fun a ha => (List.mem_append.1 ha).elim (hA a) (hB a)
  obtain ⟨lt, ll, lo, up, low, tight, least, lasts, sat, mem, tot⟩ := hs
  unfold wcore
  refine outs_tot hB hBl (by omega) lo mem tot fun outs' lo' mem' len' => ?_
  refine tot_bind' (gmake_eq (by omega) (by simp only [mkRoom]; omega) (by simp only [maxLen]; omega)) ?_
  refine tot_bind' (gmake_eq (by omega) (by simp only [mkRoom]; omega) (by simp only [maxLen]; omega)) ?_
  simp only [Int.toNat_natCast, lt]
  refine tot_loopX
    (I := fun k s => s.2.2.2.1 = last ∧ Work n R (A ++ B) last (1099511627776 + k * 28800) s.1 s.2.2.1 s.2.2.2.2.1 s.2.1 s.2.2.2.2.2 ∧ sumI s.2.2.1 ≤ k ∧ k ≤ B.length ∧ (∀ a ∈ A ++ B, nB s.2.1 a.From = false → (a ∈ A ∨ a ∈ B.take k) → nI s.1 a.From + a.Len ≤ nI s.1 a.To) ∧
      ∀ u, Fit n R (A ++ B) last u → s.2.2.2.2.1 = true ∧ ∃ τ q2 P, Ph n R (A ++ B) outs' u ((K + B.length : Nat) : Int) 0 (fun a => a ∈ B ∧ a ∉ B.take k) ((B.length : Int) - k) s.1 s.2.2.1 s.2.1 s.2.2.2.2.2 τ 0 [] q2 P)
    (J := fun s => s.2.2.2.1 = last ∧ Between n R (A ++ B) last outs' ((K + B.length : Nat) : Int) 0 s.1 s.2.2.1 s.2.2.2.2.1 s.2.1 s.2.2.2.2.2) (E := fun _ => False) ?_ (fun k a s hx hI => ?_) (fun s hI => ?_) (fun s hJ => ?_) (fun _ h => h.elim)
  · have z : ∀ v : Int, 0 ≤ v → v < n → nI (List.replicate n 0) v = 0 := fun v h0 h1 => nth_replicate h0 h1
    have zb : ∀ v : Int, 0 ≤ v → v < n → nB (List.replicate n false) v = false := fun v h0 h1 => nth_replicate h0 h1
    refine ⟨rfl, ⟨lt, by simp, by simp, ll, fun v h0 h1 => by have := up v h0 h1; simp only []; omega, low, fun v h0 h1 => ?_, fun u hu => least u ⟨hu.ready, fun a ha => hu.arcs a (List.mem_append_left _ ha)⟩, fun v h0 h1 => ?_, fun v hv => by simp at hv, fun v h0 h1 hv => ?_, ?_, fun _ => up, fun _ => lasts, fun _ v h0 h1 => ?_⟩, ?_, by omega, fun a ha _ hd => ?_, fun u hu => ⟨rfl, nI t, [], 0, ?_⟩⟩
    · rcases tight v h0 h1 with h | ⟨a, ha, h⟩
      · exact .inl h
      · exact .inr ⟨a, List.mem_append_left _ ha, h⟩
    · show 0 ≤ nI (List.replicate n 0) v
      rw [z v h0 h1]; omega
    · exfalso
      rw [zb v h0 h1] at hv; cases hv
    · show ((0 : Nat) : Int) ≤ sumI (List.replicate n 0)
      rw [sumI_zero]; simp
    · show nI (List.replicate n 0) v ≤ 65536
      rw [z v h0 h1]; omega
    · show sumI (List.replicate n 0) ≤ _
      rw [sumI_zero]; simp
    · simp at hd
      exact sat a hd
    · refine ⟨rfl, List.nodup_nil, fun v hv => by simp at hv, fun v _ _ => Int.le_refl _, fun v h0 h1 => (low v h0 h1).2, fun a ha => ?_, fun v hv => by simp at hv, ?_, ?_, ?_, by simp⟩
      · rcases List.mem_append.1 ha with ha | ha
        · exact .inr (.inr (sat a ha))
        · exact .inr (.inl ⟨ha, by simp⟩)
      · unfold cnt
        exact sumN_pos fun i _ => ite_nn (by omega)
      · show sumI (List.replicate n 0) ≤ _
        rw [sumI_zero]; simp
      · simp [sumL]; omega
  · obtain ⟨kL, kW, ks, kb, ksat, kc⟩ := hI
    have hal := (List.getElem?_eq_some_iff.1 hx).1
    have haB : a ∈ B := List.mem_of_getElem? hx
    have ham : a ∈ A ++ B := List.mem_append_right _ haB
    have hg := hAB a ham
    have hup := kW.up a.From hg.f0 hg.f1
    have hl1 := hg.l1
    have htry := try_tot (outs := outs') hn hAB hg ham kW (by omega) (by omega) (T' := 1099511627776 + (k + 1 : Nat) * 28800) (by omega) (by omega)
    unfold mend_solver_with_v2_b2
    rw [kL]
    refine tot_bind htry fun x _ hx' => tot_some ?_
    obtain ⟨xW, xS, xL⟩ := hx'
    refine ⟨xL, xW, ?_, by omega, fun b hb hwb hd => ?_, fun u hu => ?_⟩
    · rcases xS.sum with ⟨e, _⟩ | ⟨e, _⟩ <;> simp only [e] <;> omega
    · have hgb := hAB b hb
      obtain ⟨w1, t1⟩ := xS.still b.From hgb.f0 hgb.f1 hwb
      simp only at t1 ⊢
      rw [t1]
      have hge := xS.ge b.To hgb.t0 hgb.t1
      have old : (b ∈ A ∨ b ∈ B.take k) → nI s.1 b.From + b.Len ≤ nI x.2.2.1 b.To := fun hd => by
        have := ksat b hb w1 hd
        omega
      rcases hd with hd | hd
      · exact old (.inl hd)
      · rcases mem_take_succ hx hd with hd | rfl
        · exact old (.inr hd)
        · have := xS.sat
          rw [t1] at this; exact this
    · obtain ⟨c1, τ, q2, P, hp⟩ := kc u hu
      have hr0 : ∀ y ∈ x.1, 0 ≤ y := all_nth 0 fun i h0 h1 => xW.r0 i h0 (by have := xW.lr; omega)
      have hrs := le_sumI x.1 hr0
      obtain ⟨d1, q2', hp'⟩ := hp.try hAB hn (by omega) (by omega) (by omega) hu ham kW (fun v h0 h1 => xW.least u hu.min.feas v h0 h1) xS c1 (fun v h0 h1 => hrs.2 _ (nth_mem 0 h0 (by have := xW.lr; omega))) (by omega)
        (Pd' := fun a => a ∈ B ∧ a ∉ B.take (k + 1)) (fun b hb hpd => by
          by_cases hba : b = a
          · exact .inr hba
          · exact .inl ⟨hpd.1, fun hm => by
              rcases mem_take_succ hx hm with hm | hm
              · exact hpd.2 hm
              · exact hba hm⟩)
      refine ⟨d1, τ, q2', P + 1, ?_⟩
      have e : (B.length : Int) - (k : Nat) - 1 = (B.length : Int) - ((k + 1 : Nat) : Int) := by omega
      rw [e] at hp'
      exact hp'
  · obtain ⟨kL, kW, ks, kb, ksat, kc⟩ := hI
    refine ⟨kL, ⟨kW.lt, kW.lr, kW.lw, kW.ll, fun v h0 h1 => by have := kW.up v h0 h1; omega, kW.low, kW.tight, kW.least, kW.r0, kW.q0, kW.wq, kW.qr, kW.okt, kW.okl, kW.okr⟩, fun a ha hwa => ksat a ha hwa ?_, by omega, fun u hu => ?_⟩
    · rw [List.take_length]
      exact List.mem_append.1 ha
    · obtain ⟨c1, τ, q2, P, hp⟩ := kc u hu
      refine ⟨c1, τ, 0, [], q2, P, hp.spl, hp.nd, hp.qw, hp.le, hp.rt, fun a ha => ?_, hp.up, hp.cn, hp.sm, by have := hp.bud; omega, by omega⟩
      rcases hp.ar a ha with h | h | h
      · exact .inl h
      · exfalso
        refine h.2 ?_
        rw [List.take_length]
        exact h.1
      · exact .inr (.inr h)
  obtain ⟨jL, hJ⟩ := hJ
  have hup : ∀ x ∈ s.1, x ≤ 4398046511104 := all_nth 0 fun i h0 h1 => by
    have := hJ.work.up i h0 (by have := hJ.work.lt; omega)
    show nI s.1 i ≤ _
    omega
  refine tot_bind (bound_tot (l := s.2.2.2.1) hup (by omega) (all_nth [] fun i h0 h1 a ha => (hAB a ((mem' i h0 (by omega) a).1 ha).1).l1)) fun bd _ hbd => ?_
  obtain ⟨b1, T0, m, b2, b3, b4⟩ := hbd
  rw [b1, jL]
  have hbd : ∀ u, Fit n R (A ++ B) last u → ∀ v : Int, 0 ≤ v → v < n → u v ≤ bd.1 := fun u hu v h0 h1 => by
    have := min_chain hAB hu.min (m := m) (T0 := T0) (fun i hi => (b3 i (by omega)).1) (fun a ha => ?_) (fun i hi => ?_) v.toNat (by omega)
    · rw [Int.toNat_of_nonneg h0] at this
      rw [b4, lo']; exact this
    · have hg := hAB a ha
      have f0 := hg.f0; have f1 := hg.f1
      refine (b3 a.From.toNat (by omega)).2 a ?_
      rw [Int.toNat_of_nonneg f0]
      exact (mem' _ f0 f1 a).2 ⟨ha, rfl⟩
    · have k1 := (hJ.work.low (i : Nat) (by omega) (by omega)).2
      have k2 := b2 _ (nth_mem (0 : Int) (xs := s.1) (i := (i : Nat)) (by omega) (by have := hJ.work.lt; omega))
      have k2 : nI s.1 (i : Nat) ≤ T0 := k2
      omega
  refine tot_bind (P := fun c => match c with | .go s' => s'.2.2.2.1 = last ∧ (s'.2.2.2.2.1 = true → Done n R (A ++ B) last s'.1) ∧ (∀ u, Fit n R (A ++ B) last u → s'.2.2.2.2.1 = true) | .out x => x = e ∧ ∀ u, ¬ Fit n R (A ++ B) last u)
    (tot_iter (I := fun s => s.2.2.2.1 = last ∧ Between n R (A ++ B) last outs' ((K + B.length : Nat) : Int) 0 s.1 s.2.2.1 s.2.2.2.2.1 s.2.1 s.2.2.2.2.2) (μ := fun s => (2 * (2000000 - sumI s.2.2.1) + s.2.2.2.2.2.length).toNat) ⟨rfl, hJ⟩ ?_ (fun s hI => ?_)) fun c _ hc => ?_
  · have h1 := hJ.sum
    have h2 := hJ.work.qr
    have h3 : (0 : Int) ≤ sumI s.2.2.1 := by omega
    simp only [bigN]
    omega
  · obtain ⟨t', w', r', l', ok', q'⟩ := s
    obtain ⟨hl, hI⟩ := hI
    simp only at hl
    subst hl
    have hr := round_tot (e := e) (bd := bd) hn hAB hK (by omega) lo' mem' len' hbd hI
    refine tot_mono hr fun c hc => ?_
    rcases c with s' | (s' | x)
    · obtain ⟨c1, c2, c3⟩ := hc
      refine ⟨⟨c1, c2⟩, ?_⟩
      have h1 := c2.sum
      simp only at c3 ⊢
      omega
    · exact hc
    · exact hc
  · rcases c with s' | x
    · obtain ⟨c1, c2, c3⟩ := hc
      refine tot_some (hfin s' outs' c1 (fun hok => ?_) c3)
      have hd := c2 hok
      exact ⟨hd.lt, ll, lo', hd.up, hd.low, hd.tight, hd.least, hd.lasts, hd.sat, mem', len'⟩
    · obtain ⟨c1, c2⟩ := hc
      refine tot_some ?_
      rw [c1]
      exact he c2
/-- what is known of a solver with further arcs -/
structure WOk (n : Nat) (R : Int → Int) (AB : List S_mend_Arc) (K : Nat) (last : List Int) (x : Option S_mend_solver) (is : Bool) : Prop where
  right : is = true → ∃ s', x = some s' ∧ Solved n R AB K s'.times last s'.outs ∧ s'.last = last
  whole : ∀ u, Feas n R AB u → (∀ v : Int, 0 ≤ v → v < n → 0 ≤ nI last v → u v ≤ nI last v) → is = true
theorem with_tot (hn : n ≤ 24) (hR : ∀ v : Int, 0 ≤ v → v < n → R v ≤ 28800) (hA : ∀ a ∈ A, GoodArc n a) (hB : ∀ a ∈ B, GoodArc n a) (hBl : B.length ≤ 250) (hK : K + B.length ≤ 2000) {s : S_mend_solver} (hs : Solved n R A K s.times last s.outs) (hl : s.last = last) :
    Tot (mend_solver_with_v2 (some s) B) (fun x => WOk n R (A ++ B) (K + B.length) last x.1 x.2) := by
  have hAB : ∀ a ∈ A ++ B, GoodArc n a := fun a ha => (List.mem_append.1 ha).elim (hA a) (hB a)
  have e1 := hs.lt; have e2 := hs.lo
  rw [with_v2_eq]
  refine tot_bind' (x := (last, s.times, s.outs)) ?_ ?_
  · rw [clone_eq (by omega), (cloneO_eq (xs := s.outs) (by omega)).2, hl]; rfl
  refine wcore_tot hn hR hA hB hBl hK hs (fun hno => ⟨fun h => (by cases h), fun u hu hul => ?_⟩) fun s' o h1 h2 h3 => ⟨fun h => ⟨_, rfl, ?_, h1⟩, fun u hu hul => ?_⟩
  · obtain ⟨u', hf, _⟩ := fit_of hAB hn hR hu hul
    exact absurd hf (hno u')
  · exact h2 h
  · obtain ⟨u', hf, _⟩ := fit_of hAB hn hR hu hul
    exact h3 u' hf
theorem with1_tot (hn : n ≤ 24) (hR : ∀ v : Int, 0 ≤ v → v < n → R v ≤ 28800) (hA : ∀ a ∈ A, GoodArc n a) (hB : ∀ a ∈ B, GoodArc n a) (hBl : B.length ≤ 250) (hK : K + B.length ≤ 2000) (hs : Solved n R A K t last outs) :
    Tot (mend_solver_with B t last outs) (fun x => WOk n R (A ++ B) (K + B.length) last x.1 x.2.1) := by
  have hAB : ∀ a ∈ A ++ B, GoodArc n a := fun a ha => (List.mem_append.1 ha).elim (hA a) (hB a)
  have e1 := hs.lt; have e2 := hs.lo
  rw [with_eq]
  refine tot_bind' (x := (last, t, outs)) ?_ ?_
  · rw [clone_eq3 (by omega), (cloneO_eq (xs := outs) (by omega)).1]; rfl
  refine wcore_tot hn hR hA hB hBl hK hs (fun hno => ⟨fun h => (by cases h), fun u hu hul => ?_⟩) fun s' o h1 h2 h3 => ⟨fun h => ⟨_, rfl, ?_, h1⟩, fun u hu hul => ?_⟩
  · obtain ⟨u', hf, _⟩ := fit_of hAB hn hR hu hul
    exact absurd hf (hno u')
  · exact h2 h
  · obtain ⟨u', hf, _⟩ := fit_of hAB hn hR hu hul
    exact h3 u' hf
end
end Mb
