/- MendBound: the statement follows from the plain law MendBoundLaw. Printed by a tool. -/
import Derived.Test.YtcidamhhffgipaaMBa
import Derived.Test.YtcidamhhffgipaaK5
import Derived.Test.YtcidamhhffgipaaRows
import Derived.JoinedCond
set_option linter.unusedVariables false
set_option linter.unusedSimpArgs false
set_option maxRecDepth 20000
set_option maxHeartbeats 2000000
namespace Go.Proofs.Ytcidamhhffgipaa.MendBound
open Hk Hd Go.ChangeShapes Go.WideShapes Go.ChangeAt Go.RowKit
theorem ce26 : Try.prog.cellsOf 26 = 5 := by kernel_rfl
theorem ce22 : Try.prog.cellsOf 22 = 1 := by kernel_rfl
theorem ce3 : Try.prog.cellsOf 3 = 1 := by kernel_rfl
theorem ud3 : Try.prog.underlying 3 = some (.int .i64) := by kernel_rfl
theorem opn3 : Opn Try.prog 3 (fInt .i64) I64 := opn_int ud3 ce3
theorem ud22 : Try.prog.underlying 22 = some (.slice 3) := by kernel_rfl
theorem opn22 : Opn Try.prog 22 (fSl (fInt .i64)) (AllOk I64) := opn_slice ud22 ce22 opn3
theorem ce23 : Try.prog.cellsOf 23 = 1 := by kernel_rfl
theorem ce34 : Try.prog.cellsOf 34 = 3 := by kernel_rfl
def okS_mend_Arc (x : S_mend_Arc) : Prop := I64 x.From ∧ I64 x.To ∧ I64 x.Len
theorem fs34 : tyFs Try.prog 34 = some [(3, 0), (3, 1), (3, 2)] := by kernel_rfl
theorem opn34 : Opn Try.prog 34 fS_mend_Arc okS_mend_Arc := ⟨ce34, by decide, fun h => by
  obtain ⟨hl, n, hf⟩ := trod_fs fs34 h
  rw [ce34] at hl
  obtain ⟨_, h0⟩ := hf (3, 0) (by decide)
  obtain ⟨y0, h0, k0⟩ := opn3.go h0
  simp only [ce3] at h0
  obtain ⟨_, h1⟩ := hf (3, 1) (by decide)
  obtain ⟨y1, h1, k1⟩ := opn3.go h1
  simp only [ce3] at h1
  obtain ⟨_, h2⟩ := hf (3, 2) (by decide)
  obtain ⟨y2, h2, k2⟩ := opn3.go h2
  simp only [ce3] at h2
  have hp : fS_mend_Arc.p _ (_ : List Value) (⟨y0, y1, y2⟩ : S_mend_Arc) := fp_cons h0 (fp_cons h1 (fp_last (by rw [hl]; rfl) h2))
  rw [List.drop_zero] at hp
  exact ⟨_, hp, k0, k1, k2⟩⟩
theorem ud23 : Try.prog.underlying 23 = some (.slice 34) := by kernel_rfl
theorem opn23 : Opn Try.prog 23 (fSl fS_mend_Arc) (AllOk okS_mend_Arc) := opn_slice ud23 ce23 opn34
theorem ce24 : Try.prog.cellsOf 24 = 1 := by kernel_rfl
theorem ce37 : Try.prog.cellsOf 37 = 1 := by kernel_rfl
theorem ce35 : Try.prog.cellsOf 35 = 1 := by kernel_rfl
theorem ud35 : Try.prog.underlying 35 = some (.slice 23) := by kernel_rfl
theorem opn35 : Opn Try.prog 35 (fSl (fSl fS_mend_Arc)) (AllOk (AllOk okS_mend_Arc)) := opn_slice ud35 ce35 opn23
def okS_mend_Choice (x : S_mend_Choice) : Prop := (AllOk (AllOk okS_mend_Arc)) x.Ways
theorem fs37 : tyFs Try.prog 37 = some [(35, 0)] := by kernel_rfl
theorem opn37 : Opn Try.prog 37 fS_mend_Choice okS_mend_Choice := ⟨ce37, by decide, fun h => by
  obtain ⟨hl, n, hf⟩ := trod_fs fs37 h
  rw [ce37] at hl
  obtain ⟨_, h0⟩ := hf (35, 0) (by decide)
  obtain ⟨y0, h0, k0⟩ := opn35.go h0
  simp only [ce35] at h0
  have hp : fS_mend_Choice.p _ (_ : List Value) (⟨y0⟩ : S_mend_Choice) := fp_last (by rw [hl]; rfl) h0
  rw [List.drop_zero] at hp
  exact ⟨_, hp, k0⟩⟩
theorem ud24 : Try.prog.underlying 24 = some (.slice 37) := by kernel_rfl
theorem opn24 : Opn Try.prog 24 (fSl fS_mend_Choice) (AllOk okS_mend_Choice) := opn_slice ud24 ce24 opn37
def okS_mend_Graph (x : S_mend_Graph) : Prop := (AllOk I64) x.Ready ∧ (AllOk I64) x.Last ∧ (AllOk I64) x.Due ∧ (AllOk okS_mend_Arc) x.Arcs ∧ (AllOk okS_mend_Choice) x.Choices
theorem fs26 : tyFs Try.prog 26 = some [(22, 0), (22, 1), (22, 2), (23, 3), (24, 4)] := by kernel_rfl
theorem opn26 : Opn Try.prog 26 fS_mend_Graph okS_mend_Graph := ⟨ce26, by decide, fun h => by
  obtain ⟨hl, n, hf⟩ := trod_fs fs26 h
  rw [ce26] at hl
  obtain ⟨_, h0⟩ := hf (22, 0) (by decide)
  obtain ⟨y0, h0, k0⟩ := opn22.go h0
  simp only [ce22] at h0
  obtain ⟨_, h1⟩ := hf (22, 1) (by decide)
  obtain ⟨y1, h1, k1⟩ := opn22.go h1
  simp only [ce22] at h1
  obtain ⟨_, h2⟩ := hf (22, 2) (by decide)
  obtain ⟨y2, h2, k2⟩ := opn22.go h2
  simp only [ce22] at h2
  obtain ⟨_, h3⟩ := hf (23, 3) (by decide)
  obtain ⟨y3, h3, k3⟩ := opn23.go h3
  simp only [ce23] at h3
  obtain ⟨_, h4⟩ := hf (24, 4) (by decide)
  obtain ⟨y4, h4, k4⟩ := opn24.go h4
  simp only [ce24] at h4
  have hp : fS_mend_Graph.p _ (_ : List Value) (⟨y0, y1, y2, y3, y4⟩ : S_mend_Graph) := fp_cons h0 (fp_cons h1 (fp_cons h2 (fp_cons h3 (fp_last (by rw [hl]; rfl) h4))))
  rw [List.drop_zero] at hp
  exact ⟨_, hp, k0, k1, k2, k3, k4⟩⟩
theorem ud4 : Try.prog.underlying 4 = some .bool := by kernel_rfl
theorem laid : laidOutB Try.prog = true := by kernel_rfl
theorem own : ownKnob Try.prog.godebug = none := by kernel_rfl
theorem pars : Try.f4.params = #[26, 22, 22] := rfl
theorem rr22 : Try.prog.readableRec 22 = true := by kernel_rfl
theorem rs22 : (22 : TypeId) < Try.prog.types.size := of_decide_eq_true (by kernel_rfl)
theorem rr26 : Try.prog.readableRec 26 = true := by kernel_rfl
theorem rs26 : (26 : TypeId) < Try.prog.types.size := of_decide_eq_true (by kernel_rfl)
def MendBoundLaw : Prop := ∀ (x0 : S_mend_Graph) (x1 : List Int) (x2 : List Int), okS_mend_Graph x0 → (AllOk I64) x1 → (AllOk I64) x2 → fishkeep2_MendBound x0 x1 x2 = some true
theorem contract (law : MendBoundLaw) (H : Type) (enc : TypeId × Value → H) (W : World) (base : Nat) (args : Array Value) (ds gs : List (DataW H)) (before : List MemPlace)
    (hval : ∀ (j : Nat) t v, Try.f4.params[j]? = some t → args[j]? = some v → Value.okWide Try.prog W .any base t v)
    (hW : DataW.Whole enc Try.prog Try.f4.params.toList Rows.mendBoundSpec.vars false W args.toList ds gs before) :
    Calls Try.prog 4 args W fun e W' => ∃ v, e = .returned v ∧ Rows.mendBoundSpec.post enc Try.prog Try.f4 false true false false W args v W' := by
  have hW0 := hW
  obtain ⟨p, q, hA, hV, rfl, hfz, hnd⟩ := hW
  rw [pars] at hA hval
  obtain ⟨v0, vs0, d0, ds0, p0, q0, e0, g0, b0, h0, r0⟩ := trodAll_cons hA
  obtain ⟨v1, vs1, d1, ds1, p1, q1, e1, g1, b1, h1, r1⟩ := trodAll_cons r0
  obtain ⟨v2, vs2, d2, ds2, p2, q2, e2, g2, b2, h2, r2⟩ := trodAll_cons r1
  obtain ⟨z1, z2, z3⟩ := trodAll_nil r2
  subst z1 z2
  subst e2 g2
  subst e1 g1
  subst g0
  obtain rfl : args = #[v0, v1, v2] := by cases args; simp_all
  have hgs : gs = [] := by cases gs with | nil => rfl | cons g l => exact hV.elim
  subst hgs
  have ok0 := hval 0 26 v0 rfl rfl
  obtain ⟨fu0, h0⟩ := h0
  obtain ⟨x0, h0, k0⟩ := opn26.go h0
  obtain ⟨cs0, rfl⟩ := okWide_agg fs26 ok0
  replace h0 : fS_mend_Graph.p (wh W) cs0.toList x0 := h0
  have ok1 := hval 1 22 v1 rfl rfl
  obtain ⟨fu1, h1⟩ := h1
  obtain ⟨x1, h1, k1⟩ := opn22.go h1
  obtain ⟨A1, n1, c1, hc1, hs1⟩ := h1
  obtain rfl := okWide_sl ud22 ok1 hc1
  have ok2 := hval 2 22 v2 rfl rfl
  obtain ⟨fu2, h2⟩ := h2
  obtain ⟨x2, h2, k2⟩ := opn22.go h2
  obtain ⟨A2, n2, c2, hc2, hs2⟩ := h2
  obtain rfl := okWide_sl ud22 ok2 hc2
  have hlaw := law x0 x1 x2 k0 k1 k2
  refine (root_calls (B := tab) (vs := [.dat (.st 2), .one (.d (.sl (.int .i64))), .one (.d (.sl (.int .i64)))]) fishkeep2_MendBound.H (W := W) (p := (x0, x1, x2, ())) hlaw ⟨⟨cs0.toList, by simp, cellsOf_ok (B := tab) (t := (.st 2)) (by kernel_rfl) h0⟩, ⟨A1, n1, c1, rfl, hs1⟩, ⟨A2, n2, c2, rfl, hs2⟩, trivial⟩).mono fun e W' he => ?_
  obtain ⟨v, f', rfl, hle, rfl, hw⟩ := he
  exact ⟨_, rfl, post_of_wd hW0 laid (by rw [pars]; intro t ht; simp only [List.mem_cons, List.not_mem_nil, or_false] at ht; rcases ht with rfl | rfl | rfl; all_goals first | exact ⟨rr22, rs22⟩ | exact ⟨rr26, rs26⟩) rfl rfl rfl ud4 hle hw⟩
set_option maxRecDepth 100000 in
theorem lifted (law : MendBoundLaw) (os : Os) (started : os.Started) (H : Type) (enc : TypeId × Value → H) :
    ReturnsInHanded {} Try.checked os 4 .any (Rows.mendBoundSpec.pre6 enc Try.prog Try.f4 Rows.mendBoundRow.domain false) (Rows.mendBoundSpec.post enc Try.prog Try.f4 false true false false) := by
  refine returnsInHanded_of_change (C := Try.checked) own started (by kernel_rfl) Try.func4
    (ChangeSpec.witness6 (enc := enc) (C := Try.checked) false ⟨#[], #[(.agg #[(.slice none 0 0), (.slice none 0 0), (.slice none 0 0), (.slice none 0 0), (.slice none 0 0)]), (.slice none 0 0), (.slice none 0 0)], []⟩ 8 (by kernel_rfl) (by kernel_rfl) (by kernel_rfl) (by kernel_rfl)) ?_
  intro W base args ds gs before hval hW _ _
  exact contract law H enc W base args ds gs before hval hW
theorem close (law : MendBoundLaw) : Rows.MendBoundSaid :=
  OpenClaim.holds_of_wide 4 Try.f4 rfl rfl rfl rfl rfl rfl rfl ⟨rfl, rfl, rfl, rfl, rfl⟩ rfl rfl rfl rfl rfl (by kernel_rfl) Try.func4 (by kernel_rfl)
    (of_decide_eq_true (by kernel_rfl)) (by unfold Func.isWrapper; first | (rw [if_pos (by decide +kernel)]; kernel_rfl) | (rw [if_neg (by decide +kernel)]; exact ⟨rfl, rfl⟩))
    (fun os started H enc _ => lifted law os started H enc)
end Go.Proofs.Ytcidamhhffgipaa.MendBound
