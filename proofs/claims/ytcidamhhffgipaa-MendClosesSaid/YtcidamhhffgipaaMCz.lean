/- MendCloses: the statement follows from the plain law MendClosesLaw. Printed by a tool. -/
import Derived.Test.YtcidamhhffgipaaMCa
import Derived.Test.YtcidamhhffgipaaK5
import Derived.Test.YtcidamhhffgipaaRows
import Derived.JoinedCond
set_option linter.unusedVariables false
set_option linter.unusedSimpArgs false
set_option maxRecDepth 20000
set_option maxHeartbeats 2000000
namespace Go.Proofs.Ytcidamhhffgipaa.MendCloses
open Hk Hd Go.ChangeShapes Go.WideShapes Go.ChangeAt Go.RowKit
theorem ce45 : Try.prog.cellsOf 45 = 1 := by kernel_rfl
theorem ce22 : Try.prog.cellsOf 22 = 1 := by kernel_rfl
theorem ce3 : Try.prog.cellsOf 3 = 1 := by kernel_rfl
theorem ud3 : Try.prog.underlying 3 = some (.int .i64) := by kernel_rfl
theorem opn3 : Opn Try.prog 3 (fInt .i64) I64 := opn_int ud3 ce3
theorem ud22 : Try.prog.underlying 22 = some (.slice 3) := by kernel_rfl
theorem opn22 : Opn Try.prog 22 (fSl (fInt .i64)) (AllOk I64) := opn_slice ud22 ce22 opn3
theorem ud45 : Try.prog.underlying 45 = some (.slice 22) := by kernel_rfl
theorem opn45 : Opn Try.prog 45 (fSl (fSl (fInt .i64))) (AllOk (AllOk I64)) := opn_slice ud45 ce45 opn22
theorem ud4 : Try.prog.underlying 4 = some .bool := by kernel_rfl
theorem laid : laidOutB Try.prog = true := by kernel_rfl
theorem own : ownKnob Try.prog.godebug = none := by kernel_rfl
theorem pars : Try.f5.params = #[45] := rfl
theorem rr45 : Try.prog.readableRec 45 = true := by kernel_rfl
theorem rs45 : (45 : TypeId) < Try.prog.types.size := of_decide_eq_true (by kernel_rfl)
def MendClosesLaw : Prop := ∀ (x0 : List (List Int)), (AllOk (AllOk I64)) x0 → fishkeep2_MendCloses x0 = some true
theorem contract (law : MendClosesLaw) (H : Type) (enc : TypeId × Value → H) (W : World) (base : Nat) (args : Array Value) (ds gs : List (DataW H)) (before : List MemPlace)
    (hval : ∀ (j : Nat) t v, Try.f5.params[j]? = some t → args[j]? = some v → Value.okWide Try.prog W .any base t v)
    (hW : DataW.Whole enc Try.prog Try.f5.params.toList Rows.mendClosesSpec.vars false W args.toList ds gs before) :
    Calls Try.prog 5 args W fun e W' => ∃ v, e = .returned v ∧ Rows.mendClosesSpec.post enc Try.prog Try.f5 false true false false W args v W' := by
  have hW0 := hW
  obtain ⟨p, q, hA, hV, rfl, hfz, hnd⟩ := hW
  rw [pars] at hA hval
  obtain ⟨v0, vs0, d0, ds0, p0, q0, e0, g0, b0, h0, r0⟩ := trodAll_cons hA
  obtain ⟨z1, z2, z3⟩ := trodAll_nil r0
  subst z1 z2
  subst g0
  obtain rfl : args = #[v0] := by cases args; simp_all
  have hgs : gs = [] := by cases gs with | nil => rfl | cons g l => exact hV.elim
  subst hgs
  have ok0 := hval 0 45 v0 rfl rfl
  obtain ⟨fu0, h0⟩ := h0
  obtain ⟨x0, h0, k0⟩ := opn45.go h0
  obtain ⟨A0, n0, c0, hc0, hs0⟩ := h0
  obtain rfl := okWide_sl ud45 ok0 hc0
  have hlaw := law x0 k0
  refine (root_calls (B := tab) (vs := [.one (.d (.sl (.sl (.int .i64))))]) fishkeep2_MendCloses.H (W := W) (p := (x0, ())) hlaw ⟨⟨A0, n0, c0, rfl, hs0⟩, trivial⟩).mono fun e W' he => ?_
  obtain ⟨v, f', rfl, hle, rfl, hw⟩ := he
  exact ⟨_, rfl, post_of_wd hW0 laid (by rw [pars]; intro t ht; simp only [List.mem_cons, List.not_mem_nil, or_false] at ht; rcases ht with rfl; all_goals first | exact ⟨rr45, rs45⟩) rfl rfl rfl ud4 hle hw⟩
set_option maxRecDepth 100000 in
theorem lifted (law : MendClosesLaw) (os : Os) (started : os.Started) (H : Type) (enc : TypeId × Value → H) :
    ReturnsInHanded {} Try.checked os 5 .any (Rows.mendClosesSpec.pre6 enc Try.prog Try.f5 Rows.mendClosesRow.domain false) (Rows.mendClosesSpec.post enc Try.prog Try.f5 false true false false) := by
  refine returnsInHanded_of_change (C := Try.checked) own started (by kernel_rfl) Try.func5
    (ChangeSpec.witness6 (enc := enc) (C := Try.checked) false ⟨#[], #[(.slice none 0 0)], []⟩ 8 (by kernel_rfl) (by kernel_rfl) (by kernel_rfl) (by kernel_rfl)) ?_
  intro W base args ds gs before hval hW _ _
  exact contract law H enc W base args ds gs before hval hW
theorem close (law : MendClosesLaw) : Rows.MendClosesSaid :=
  OpenClaim.holds_of_wide 5 Try.f5 rfl rfl rfl rfl rfl rfl rfl ⟨rfl, rfl, rfl, rfl, rfl⟩ rfl rfl rfl rfl rfl (by kernel_rfl) Try.func5 (by kernel_rfl)
    (of_decide_eq_true (by kernel_rfl)) (by unfold Func.isWrapper; first | (rw [if_pos (by decide +kernel)]; kernel_rfl) | (rw [if_neg (by decide +kernel)]; exact ⟨rfl, rfl⟩))
    (fun os started H enc _ => lifted law os started H enc)
end Go.Proofs.Ytcidamhhffgipaa.MendCloses
