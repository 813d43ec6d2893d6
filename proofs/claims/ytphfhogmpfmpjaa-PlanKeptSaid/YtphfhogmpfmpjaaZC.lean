/- PlanKept: the statement follows from the plain law PlanKeptLaw. Printed by a tool. -/
import Derived.Test.YtphfhogmpfmpjaaZa
import Derived.Test.YtphfhogmpfmpjaaK5
import Derived.Test.YtphfhogmpfmpjaaRows
import Derived.JoinedCond
set_option linter.unusedVariables false
set_option linter.unusedSimpArgs false
set_option maxRecDepth 20000
set_option maxHeartbeats 2000000
namespace Go.Proofs.Ytphfhogmpfmpjaa.PlanKept
open Hk Hd Go.ChangeShapes Go.WideShapes Go.ChangeAt Go.RowKit
theorem ce24 : Try.prog.cellsOf 24 = 3 := by kernel_rfl
theorem ce3 : Try.prog.cellsOf 3 = 1 := by kernel_rfl
theorem ud3 : Try.prog.underlying 3 = some (.int .i64) := by kernel_rfl
theorem opn3 : Opn Try.prog 3 (fInt .i64) I64 := opn_int ud3 ce3
theorem ce22 : Try.prog.cellsOf 22 = 1 := by kernel_rfl
theorem ce29 : Try.prog.cellsOf 29 = 5 := by kernel_rfl
def okS_plan_Rule (x : S_plan_Rule) : Prop := I64 x.From ∧ I64 x.To ∧ I64 x.Min ∧ I64 x.Max ∧ I64 x.Weight
theorem fs29 : tyFs Try.prog 29 = some [(3, 0), (3, 1), (3, 2), (3, 3), (3, 4)] := by kernel_rfl
theorem opn29 : Opn Try.prog 29 fS_plan_Rule okS_plan_Rule := ⟨ce29, by decide, fun h => by
  obtain ⟨hl, n, hf⟩ := trod_fs fs29 h
  rw [ce29] at hl
  obtain ⟨_, h0⟩ := hf (3, 0) (by decide)
  obtain ⟨y0, h0, k0⟩ := opn3.go h0
  simp only [ce3] at h0
  obtain ⟨_, h1⟩ := hf (3, 1) (by decide)
  obtain ⟨y1, h1, k1⟩ := opn3.go h1
  simp only [ce3] at h1
  obtain ⟨_, h2⟩ := hf (3, 2) (by decide)
  obtain ⟨y2, h2, k2⟩ := opn3.go h2
  simp only [ce3] at h2
  obtain ⟨_, h3⟩ := hf (3, 3) (by decide)
  obtain ⟨y3, h3, k3⟩ := opn3.go h3
  simp only [ce3] at h3
  obtain ⟨_, h4⟩ := hf (3, 4) (by decide)
  obtain ⟨y4, h4, k4⟩ := opn3.go h4
  simp only [ce3] at h4
  have hp : fS_plan_Rule.p _ (_ : List Value) (⟨y0, y1, y2, y3, y4⟩ : S_plan_Rule) := fp_cons h0 (fp_cons h1 (fp_cons h2 (fp_cons h3 (fp_last (by rw [hl]; rfl) h4))))
  rw [List.drop_zero] at hp
  exact ⟨_, hp, k0, k1, k2, k3, k4⟩⟩
theorem ud22 : Try.prog.underlying 22 = some (.slice 29) := by kernel_rfl
theorem opn22 : Opn Try.prog 22 (fSl fS_plan_Rule) (AllOk okS_plan_Rule) := opn_slice ud22 ce22 opn29
def okS_plan_Periodic (x : S_plan_Periodic) : Prop := I64 x.Period ∧ I64 x.Events ∧ (AllOk okS_plan_Rule) x.Rules
theorem fs24 : tyFs Try.prog 24 = some [(3, 0), (3, 1), (22, 2)] := by kernel_rfl
theorem opn24 : Opn Try.prog 24 fS_plan_Periodic okS_plan_Periodic := ⟨ce24, by decide, fun h => by
  obtain ⟨hl, n, hf⟩ := trod_fs fs24 h
  rw [ce24] at hl
  obtain ⟨_, h0⟩ := hf (3, 0) (by decide)
  obtain ⟨y0, h0, k0⟩ := opn3.go h0
  simp only [ce3] at h0
  obtain ⟨_, h1⟩ := hf (3, 1) (by decide)
  obtain ⟨y1, h1, k1⟩ := opn3.go h1
  simp only [ce3] at h1
  obtain ⟨_, h2⟩ := hf (22, 2) (by decide)
  obtain ⟨y2, h2, k2⟩ := opn22.go h2
  simp only [ce22] at h2
  have hp : fS_plan_Periodic.p _ (_ : List Value) (⟨y0, y1, y2⟩ : S_plan_Periodic) := fp_cons h0 (fp_cons h1 (fp_last (by rw [hl]; rfl) h2))
  rw [List.drop_zero] at hp
  exact ⟨_, hp, k0, k1, k2⟩⟩
theorem ce30 : Try.prog.cellsOf 30 = 1 := by kernel_rfl
theorem ud30 : Try.prog.underlying 30 = some (.slice 3) := by kernel_rfl
theorem opn30 : Opn Try.prog 30 (fSl (fInt .i64)) (AllOk I64) := opn_slice ud30 ce30 opn3
theorem ud4 : Try.prog.underlying 4 = some .bool := by kernel_rfl
theorem laid : laidOutB Try.prog = true := by kernel_rfl
theorem own : ownKnob Try.prog.godebug = none := by kernel_rfl
theorem pars : Try.f5.params = #[24, 3, 30] := rfl
theorem rr3 : Try.prog.readableRec 3 = true := by kernel_rfl
theorem rs3 : (3 : TypeId) < Try.prog.types.size := of_decide_eq_true (by kernel_rfl)
theorem rr24 : Try.prog.readableRec 24 = true := by kernel_rfl
theorem rs24 : (24 : TypeId) < Try.prog.types.size := of_decide_eq_true (by kernel_rfl)
theorem rr30 : Try.prog.readableRec 30 = true := by kernel_rfl
theorem rs30 : (30 : TypeId) < Try.prog.types.size := of_decide_eq_true (by kernel_rfl)
def PlanKeptLaw : Prop := ∀ (x0 : S_plan_Periodic) (x1 : Int) (x2 : List Int), okS_plan_Periodic x0 → I64 x1 → (AllOk I64) x2 → fishkeep2_PlanKept x0 x1 x2 = some true
theorem contract (law : PlanKeptLaw) (H : Type) (enc : TypeId × Value → H) (W : World) (base : Nat) (args : Array Value) (ds gs : List (DataW H)) (before : List MemPlace)
    (hval : ∀ (j : Nat) t v, Try.f5.params[j]? = some t → args[j]? = some v → Value.okWide Try.prog W .any base t v)
    (hW : DataW.Whole enc Try.prog Try.f5.params.toList Rows.planKeptSpec.vars false W args.toList ds gs before) :
    Calls Try.prog 5 args W fun e W' => ∃ v, e = .returned v ∧ Rows.planKeptSpec.post enc Try.prog Try.f5 false true false false W args v W' := by
  have hW0 := hW
  obtain ⟨p, q, hA, hV, rfl, hfz, hnd⟩ := hW
  rw [pars] at hA hval
  obtain ⟨v0, vs0, d0, ds0, p0, q0, e0, g0, b0, h0, r0⟩ := trodAll_cons hA
  obtain ⟨v1, vs1, d1, ds1, p1, q1, e1, g1, b1, h1, r1⟩ := trodAll_cons r0
  obtain ⟨v2, vs2, d2, ds2, p2, q2, e2, g2, b2, h2, r2⟩ := trodAll_cons r1
  obtain ⟨z1, z2, z3⟩ := trodAll_nil r2
  subst z1 z2
  subst e2 g2
  subst e1 g1
  subst g0
  obtain rfl : args = #[v0, v1, v2] := by cases args; simp_all
  have hgs : gs = [] := by cases gs with | nil => rfl | cons g l => exact hV.elim
  subst hgs
  have ok0 := hval 0 24 v0 rfl rfl
  obtain ⟨fu0, h0⟩ := h0
  obtain ⟨x0, h0, k0⟩ := opn24.go h0
  obtain ⟨cs0, rfl⟩ := okWide_agg fs24 ok0
  replace h0 : fS_plan_Periodic.p (wh W) cs0.toList x0 := h0
  have ok1 := hval 1 3 v1 rfl rfl
  obtain ⟨fu1, h1⟩ := h1
  obtain ⟨x1, h1, k1⟩ := opn3.go h1
  obtain rfl := okWide_i ud3 ok1 h1
  have ok2 := hval 2 30 v2 rfl rfl
  obtain ⟨fu2, h2⟩ := h2
  obtain ⟨x2, h2, k2⟩ := opn30.go h2
  obtain ⟨A2, n2, c2, hc2, hs2⟩ := h2
  obtain rfl := okWide_sl ud30 ok2 hc2
  have hlaw := law x0 x1 x2 k0 k1 k2
  refine (root_calls (B := tab) (vs := [.dat (.st 1), .one (.d (.int .i64)), .one (.d (.sl (.int .i64)))]) fishkeep2_PlanKept.H (W := W) (p := (x0, x1, x2, ())) hlaw ⟨⟨cs0.toList, by simp, cellsOf_ok (B := tab) (t := (.st 1)) (by kernel_rfl) h0⟩, (by exact rfl), ⟨A2, n2, c2, rfl, hs2⟩, trivial⟩).mono fun e W' he => ?_
  obtain ⟨v, f', rfl, hle, rfl, hw⟩ := he
  exact ⟨_, rfl, post_of_wd hW0 laid (by rw [pars]; intro t ht; simp only [List.mem_cons, List.not_mem_nil, or_false] at ht; rcases ht with rfl | rfl | rfl; all_goals first | exact ⟨rr3, rs3⟩ | exact ⟨rr24, rs24⟩ | exact ⟨rr30, rs30⟩) rfl rfl rfl ud4 hle hw⟩
set_option maxRecDepth 100000 in
theorem lifted (law : PlanKeptLaw) (os : Os) (started : os.Started) (H : Type) (enc : TypeId × Value → H) :
    ReturnsInHanded {} Try.checked os 5 .any (Rows.planKeptSpec.pre6 enc Try.prog Try.f5 Rows.planKeptRow.domain false) (Rows.planKeptSpec.post enc Try.prog Try.f5 false true false false) := by
  refine returnsInHanded_of_change (C := Try.checked) own started (by kernel_rfl) Try.func5
    (ChangeSpec.witness6 (enc := enc) (C := Try.checked) false ⟨#[], #[(.agg #[(.int .i64 0), (.int .i64 0), (.slice none 0 0)]), (.int .i64 0), (.slice none 0 0)], []⟩ 8 (by kernel_rfl) (by kernel_rfl) (by kernel_rfl) (by kernel_rfl)) ?_
  intro W base args ds gs before hval hW _ hwt
  exact contract law H enc W base args ds gs before hval hW
theorem close (law : PlanKeptLaw) : Rows.PlanKeptSaid :=
  OpenClaim.holds_of_wide 5 Try.f5 rfl rfl rfl rfl rfl rfl rfl ⟨rfl, rfl, rfl, rfl, rfl⟩ rfl rfl rfl rfl rfl (by kernel_rfl) Try.func5 (by kernel_rfl)
    (of_decide_eq_true (by kernel_rfl)) (by unfold Func.isWrapper; first | (rw [if_pos (by decide +kernel)]; kernel_rfl) | (rw [if_neg (by decide +kernel)]; exact ⟨rfl, rfl⟩))
    (fun os started H enc _ => lifted law os started H enc)
end Go.Proofs.Ytphfhogmpfmpjaa.PlanKept
