/- FareWhole: the card follows from the plain law FareWholeLaw. Printed by a tool. -/
import Derived.Test.YtodbddhmfecbbaaGreatDoorZa
import Derived.Test.YtodbddhmfecbbaaGreatDoorK5
import Derived.Test.YtodbddhmfecbbaaGreatDoorRows
import Derived.Test.YtodbddhmfecbbaaGreatDoorTie
import Derived.Test.YtodbddhmfecbbaaGreatDoorCards
import Derived.JoinedCond
import Derived.LaidMore
import Derived.LaidLaws
import Derived.LaidHandle
import Derived.OpenShut
import Derived.Stop.Joined
import Derived.SevenTiedAt
set_option linter.unusedVariables false
set_option linter.unusedSimpArgs false
set_option maxRecDepth 20000
set_option maxHeartbeats 2000000
namespace Go.Proofs.YtodbddhmfecbbaaGreatDoor.FareWhole
open Hk Hd Go.ChangeShapes Go.WideShapes Go.ChangeAt Go.RowKit
theorem ce3 : Tryz.prog.cellsOf 3 = 1 := by kernel_rfl
theorem ud3 : Tryz.prog.underlying 3 = some (.int .i64) := by kernel_rfl
theorem opn3 : Opn Tryz.prog 3 (fInt .i64) I64 := opn_int ud3 ce3
theorem ce27 : Tryz.prog.cellsOf 27 = 1 := by kernel_rfl
theorem ud27 : Tryz.prog.underlying 27 = some (.slice 3) := by kernel_rfl
theorem opn27 : Opn Tryz.prog 27 (fSl (fInt .i64)) (AllOk I64) := opn_slice ud27 ce27 opn3
theorem ud4 : Tryz.prog.underlying 4 = some .bool := by kernel_rfl
theorem laid : laidOutB Tryz.prog = true := by kernel_rfl
theorem own : ownKnob Tryz.prog.godebug = none := by kernel_rfl
theorem pars : Tryz.f5.params = #[3, 27] := rfl
theorem rr3 : Tryz.prog.readableRec 3 = true := by kernel_rfl
theorem rs3 : (3 : TypeId) < Tryz.prog.types.size := of_decide_eq_true (by kernel_rfl)
theorem rr27 : Tryz.prog.readableRec 27 = true := by kernel_rfl
theorem rs27 : (27 : TypeId) < Tryz.prog.types.size := of_decide_eq_true (by kernel_rfl)
def FareWholeLaw : Prop := ∀ (x0 : Int) (x1 : List Int), I64 x0 → (AllOk I64) x1 → fishkeep2_FareWhole x0 x1 = some true
theorem contract (law : FareWholeLaw) (H : Type) (enc : TypeId × Value → H) (W : World) (base : Nat) (args : Array Value) (ds gs : List (DataW H)) (before : List MemPlace)
    (hval : ∀ (j : Nat) t v, Tryz.f5.params[j]? = some t → args[j]? = some v → Value.okWide Tryz.prog W .any base t v)
    (hW : DataW.Whole enc Tryz.prog Tryz.f5.params.toList Rows.fareWholeSpec.vars false W args.toList ds gs before) :
    Calls Tryz.prog 5 args W fun e W' => ∃ v, e = .returned v ∧ Rows.fareWholeSpec.post enc Tryz.prog Tryz.f5 false true false false W args v W' := by
  have hW0 := hW
  obtain ⟨p, q, hA, hV, rfl, hfz, hnd⟩ := hW
  rw [pars] at hA hval
  obtain ⟨v0, vs0, d0, ds0, p0, q0, e0, g0, b0, h0, r0⟩ := trodAll_cons hA
  obtain ⟨v1, vs1, d1, ds1, p1, q1, e1, g1, b1, h1, r1⟩ := trodAll_cons r0
  obtain ⟨z1, z2, z3⟩ := trodAll_nil r1
  subst z1 z2
  subst e1 g1
  subst g0
  obtain rfl : args = #[v0, v1] := by cases args; simp_all
  have hgs : gs = [] := by cases gs with | nil => rfl | cons g l => exact hV.elim
  subst hgs
  have ok0 := hval 0 3 v0 rfl rfl
  obtain ⟨fu0, h0⟩ := h0
  obtain ⟨x0, h0, k0⟩ := opn3.go h0
  obtain rfl := okWide_i ud3 ok0 h0
  have ok1 := hval 1 27 v1 rfl rfl
  obtain ⟨fu1, h1⟩ := h1
  obtain ⟨x1, h1, k1⟩ := opn27.go h1
  obtain ⟨A1, n1, c1, hc1, hs1⟩ := h1
  obtain rfl := okWide_sl ud27 ok1 hc1
  have hlaw := law x0 x1 k0 k1
  refine (root_calls (B := tab) (vs := [.one (.d (.int .i64)), .one (.d (.sl (.int .i64)))]) fishkeep2_FareWhole.H (W := W) (p := (x0, x1, ())) hlaw ⟨(by exact rfl), ⟨A1, n1, c1, rfl, hs1⟩, trivial⟩).mono fun e W' he => ?_
  obtain ⟨v, f', rfl, hle, rfl, hw⟩ := he
  exact ⟨_, rfl, post_of_wd hW0 laid (by rw [pars]; intro t ht; simp only [List.mem_cons, List.not_mem_nil, or_false] at ht; rcases ht with rfl | rfl; all_goals first | exact ⟨rr3, rs3⟩ | exact ⟨rr27, rs27⟩) rfl rfl rfl ud4 hle hw⟩
def pinV : DataW Unit → Value
  | .lit (.int k n) => .int k n
  | _ => Go.undef
def pinO (d : DataW Unit) : Obj → Obj
  | .cells c t fr => match d with
    | .agg l => .cells (l.map pinV).toArray t fr
    | _ => .cells c t fr
  | x => x
noncomputable def startW (os : Os) : World := { World.doorLaid Tryz.prog 700 os with heap := ((World.doorLaid Tryz.prog 700 os).heap.modify ((Tryz.prog.globalNamed "unicode/utf8.first").getD 0) (pinO Rows.laid_unicode_utf8_first)) }
set_option maxRecDepth 100000 in
theorem met (os : Os) (args : Array Value) : laidMetH Tryz.prog Rows.fareWholeRow.laid ((startW os).forCall (fun _ _ => 0) ⟨#[], args, []⟩).memory :=
  laidMetH_of_parts (laidMet_of_run' 12 (by kernel_rfl) (by kernel_rfl)) (by kernel_rfl)
set_option maxRecDepth 100000 in
theorem lifted (law : FareWholeLaw) (os : Os) (started : os.Started) (H : Type) (enc : TypeId × Value → H) :
    ReturnsInHanded {} Tryz.checked os 5 .any (fun w args => (Rows.fareWholeSpec.pre enc Tryz.prog Tryz.f5 [] false w args ∧ laidMetH Tryz.prog Rows.fareWholeRow.laid w) ∧ sizedMet enc Tryz.prog Tryz.f5 (OpenSpec.ofChange Rows.fareWholeSpec) false w args)
      (Rows.fareWholeSpec.post enc Tryz.prog Tryz.f5 false true false false) := by
  refine returnsInHanded_of_change_and (C := Tryz.checked) (X := fun w _ => laidMetH Tryz.prog Rows.fareWholeRow.laid w) (fun _ _ _ hh h => h.of_heap hh) own started (by kernel_rfl) Tryz.func5
    (ChangeSpec.witness_shaped (enc := enc) (C := Tryz.checked) (os := os) (X := fun w _ => laidMetH Tryz.prog Rows.fareWholeRow.laid w) false (startW os) #[(.int .i64 0), (.slice none 0 0)] 8 rfl (World.shaped_of_RefB (by kernel_rfl) (by kernel_rfl)) (by kernel_rfl) (by kernel_rfl) (by kernel_rfl) (met os _)) ?_
  intro W base args ds gs before hval hW _ hwt hX _
  exact contract law H enc W base args ds gs before hval hW
theorem said (law : FareWholeLaw) : Rows.FareWholeSaid :=
  OpenClaim.holds_of_wide 5 Tryz.f5 rfl rfl rfl rfl rfl rfl rfl ⟨rfl, rfl, rfl, rfl, rfl⟩ rfl rfl rfl rfl rfl (by kernel_rfl) Tryz.func5 (by kernel_rfl)
    (of_decide_eq_true (by kernel_rfl)) (by unfold Func.isWrapper; first | (rw [if_pos (by decide +kernel)]; kernel_rfl) | (rw [if_neg (by decide +kernel)]; exact ⟨rfl, rfl⟩))
    (fun os started H enc _ => lifted law os started H enc)
theorem ws3 : Tryz.prog.wantsStandIn 3 = false := by kernel_rfl
theorem ws27 : Tryz.prog.wantsStandIn 27 = false := by kernel_rfl
theorem close (law : FareWholeLaw) : Rows.FareWholeCardSaid :=
  Claim7.holds_tied_plain_at .later [] [.data, .data, .data, .data, .sentinel, .sentinel, .pinned] true (true, "4e3be0113d941e06885c8b7b4f46a567ce977fcd01901e696592c7b50e21d9f8") true
    (said law) (fun _ h => by cases h) (by kernel_rfl) (fun _ h => by cases h) fareWhole_row_tie rfl ⟨rfl, rfl⟩ (by kernel_rfl) rfl
    (fun f fn hf hfn => by
      obtain rfl : f = 5 := Option.some.inj ((show Tryz.prog.funcNamed "fishplate/fishkeep2.FareWhole" = some 5 by kernel_rfl).symm.trans hf) |>.symm
      obtain rfl : fn = Tryz.f5 := (Option.some.inj (Tryz.func5.symm.trans hfn)).symm
      exact ⟨by kernel_rfl, fun j t ht => by
        rw [pars] at ht
        have hm := List.mem_of_getElem? (l := [3, 27]) (by simpa using ht)
        simp only [List.mem_cons, List.not_mem_nil, or_false] at hm
        rcases hm with rfl | rfl
        all_goals first | exact ws3 | exact ws27⟩)
    (by kernel_rfl)
end Go.Proofs.YtodbddhmfecbbaaGreatDoor.FareWhole
