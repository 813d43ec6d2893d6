/- MendLeast, the plain side: with, start, picked, Times. -/
import Derived.Test.YtcidamhhffgipaaMendC
set_option linter.unusedVariables false
set_option linter.unusedSimpArgs false
namespace Hk
open Go

theorem with_tot {n : Nat} {R : Int → Int} {A B : List S_mend_Arc} {K : Nat} {t last : List Int} {outs : List (List S_mend_Arc)} (hn : n ≤ 24) (hA : ∀ a ∈ A, GoodArc n a) (hB : ∀ a ∈ B, GoodArc n a) (hBl : B.length ≤ 250) (hK : K ≤ 100000)
    (hs : Solved n R A K t last outs) :
    Tot (mend_solver_with t last outs B) (fun x => x.2 = true → ∃ s', x.1 = some s' ∧ Solved n R (A ++ B) (K + B.length) s'.times last s'.outs ∧ s'.last = last) := by
  have hAB : ∀ a ∈ A ++ B, GoodArc n a := fun a ha => (List.mem_append.1 ha).elim (hA a) (hB a)
  obtain ⟨lt, ll, lo, up, low, tight, least, lasts, sat, mem, len⟩ := hs
  unfold mend_solver_with
  refine tot_bind (P := (· = (t, last, outs))) ?_ fun s _ hs => ?_
  · refine tot_bind' (clone_eq (by omega)) (tot_bind' (cloneO_eq (by omega)) (tot_some rfl))
  subst hs
  refine outs_tot hB hBl hK lo mem len fun outs' lo' mem' len' => ?_
  refine tot_bind' (gmake_eq (by omega) (by simp only [mkRoom]; omega) (by simp only [maxLen]; omega)) ?_
  refine tot_bind' (gmake_eq (by omega) (by simp only [mkRoom]; omega) (by simp only [maxLen]; omega)) ?_
  simp only [Int.toNat_natCast, lt]
  refine tot_loop
    (I := fun k s => Work n R (A ++ B) last (1099511627776 + k * 28800) s.2.2.1 s.1 s.2.2.2.1 s.2.1 s.2.2.2.2 ∧ sumI s.1 ≤ k ∧ k ≤ B.length ∧ ∀ a ∈ A ++ B, nB s.2.1 a.From = false → (a ∈ A ∨ a ∈ B.take k) → nI s.2.2.1 a.From + a.Len ≤ nI s.2.2.1 a.To)
    (J := fun s => Between n R (A ++ B) last s.2.2.1 s.1 s.2.2.2.1 s.2.1 s.2.2.2.2) (E := fun _ => False) ?_ (fun k a s hx hI => ?_) (fun s hI => ?_) (fun s hJ => ?_) (fun _ h => h.elim)
  · refine ⟨⟨lt, by simp, by simp, ll, fun v h0 h1 => by have := up v h0 h1; simp only []; omega, low, fun v h0 h1 => ?_, fun u hu => least u ⟨hu.ready, fun a ha => hu.arcs a (List.mem_append_left _ ha)⟩, fun v h0 h1 => ?_, fun v hv => by simp at hv, fun v h0 h1 hv => ?_, ?_, fun _ => up, fun _ => lasts, fun _ v h0 h1 => ?_⟩, ?_, by omega, fun a ha _ hd => ?_⟩
    · rcases tight v h0 h1 with h | ⟨a, ha, h⟩
      · exact .inl h
      · exact .inr ⟨a, List.mem_append_left _ ha, h⟩
    · show 0 ≤ nI (List.replicate n 0) v
      rw [show nI (List.replicate n 0) v = 0 from nth_replicate h0 h1]; omega
    · exfalso
      have : nB (List.replicate n false) v = false := nth_replicate h0 h1
      rw [show nB (List.replicate n false) v = false from this] at hv; cases hv
    · show ((0 : Nat) : Int) ≤ sumI (List.replicate n 0)
      rw [sumI_zero]; simp
    · show nI (List.replicate n 0) v ≤ 65536
      rw [show nI (List.replicate n 0) v = 0 from nth_replicate h0 h1]; omega
    · show sumI (List.replicate n 0) ≤ _
      rw [sumI_zero]; simp
    · simp at hd
      exact sat a hd
  · obtain ⟨kW, ks, kb, ksat⟩ := hI
    have hal := (List.getElem?_eq_some_iff.1 hx).1
    have ham : a ∈ A ++ B := List.mem_append_right _ (List.mem_of_getElem? hx)
    have hg := hAB a ham
    have hup := kW.up a.From hg.f0 hg.f1
    have hl1 := hg.l1
    have htry := try_tot (outs := outs') hn hAB hg ham kW (by omega) (by omega) (T' := 1099511627776 + (k + 1 : Nat) * 28800) (by omega) (by omega)
    unfold mend_solver_with_b7
    refine tot_bind htry fun x _ hx' => tot_some ?_
    obtain ⟨xW, xS⟩ := hx'
    refine ⟨xW, ?_, by omega, fun b hb hwb hd => ?_⟩
    · rcases xS.sum with ⟨e, _⟩ | ⟨e, _⟩ <;> simp only [e] <;> omega
    · have hgb := hAB b hb
      obtain ⟨w1, t1⟩ := xS.still b.From hgb.f0 hgb.f1 hwb
      simp only at t1 ⊢
      rw [t1]
      have hge := xS.ge b.To hgb.t0 hgb.t1
      have old : (b ∈ A ∨ b ∈ B.take k) → nI s.2.2.1 b.From + b.Len ≤ nI x.1 b.To := fun hd => by
        have := ksat b hb w1 hd
        omega
      rcases hd with hd | hd
      · exact old (.inl hd)
      · rcases mem_take_succ hx hd with hd | rfl
        · exact old (.inr hd)
        · have := xS.sat
          rw [t1] at this; exact this
  · obtain ⟨kW, ks, kb, ksat⟩ := hI
    refine ⟨⟨kW.lt, kW.lr, kW.lw, kW.ll, fun v h0 h1 => by have := kW.up v h0 h1; omega, kW.low, kW.tight, kW.least, kW.r0, kW.q0, kW.wq, kW.qr, kW.okt, kW.okl, kW.okr⟩, fun a ha hwa => ksat a ha hwa ?_, by omega⟩
    rw [List.take_length]
    exact List.mem_append.1 ha
  refine tot_bind (bound_tot _ _ _) fun bd _ _ => ?_
  refine tot_bind (P := fun c => match c with | .go s' => s'.2.2.2.2 = true → Done n R (A ++ B) last s'.1 | .out x => x.2 = false)
    (tot_iter (I := fun s => Between n R (A ++ B) last s.1 s.2.1 s.2.2.2.2 s.2.2.1 s.2.2.2.1) (μ := fun s => (2 * (2000000 - sumI s.2.1) + s.2.2.2.1.length).toNat) hJ ?_ (fun s hI => ?_)) fun c _ hc => ?_
  · have h1 := hJ.sum
    have h2 := hJ.work.qr
    have h3 : (0 : Int) ≤ sumI s.1 := by omega
    simp only [bigN]
    omega
  · obtain ⟨t', r', w', q', ok'⟩ := s
    have hr := round_tot (K := K + B.length) (outs := outs') (s0 := (t, last, outs)) (bd := bd) hn hAB (by omega) lo' mem' len' rfl hI
    refine tot_mono hr fun c hc => ?_
    rcases c with s' | (s' | x)
    · refine ⟨hc.1, ?_⟩
      have h1 := hc.1.sum
      have h2 := hc.2
      simp only at h2 ⊢
      omega
    · exact hc
    · exact hc
  · rcases c with s' | x
    · refine tot_some fun hok => ⟨_, rfl, ?_, rfl⟩
      have hd := hc hok
      exact ⟨hd.lt, ll, lo', hd.up, hd.low, hd.tight, hd.least, hd.lasts, hd.sat, mem', len'⟩
    · exact tot_some fun hok => by rw [hc] at hok; cases hok
theorem with_v2_eq (s : S_mend_solver) (B : List S_mend_Arc) : mend_solver_with_v2 (some s) B = mend_solver_with s.times s.last s.outs B := rfl
end Hk
