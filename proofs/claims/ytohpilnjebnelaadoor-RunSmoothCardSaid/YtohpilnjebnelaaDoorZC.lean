/- RunSmooth: the card follows from the plain law RunSmoothLaw. Printed by a tool. -/
import Derived.Test.YtohpilnjebnelaaDoorZa
import Derived.Test.YtohpilnjebnelaaDoorK5
import Derived.Test.YtohpilnjebnelaaDoorRows
import Derived.Test.YtohpilnjebnelaaDoorTie
import Derived.Test.YtohpilnjebnelaaDoorCards
import Derived.JoinedCond
import Derived.LaidMore
import Derived.LaidLaws
import Derived.LaidHandle
import Derived.OpenShut
import Derived.Stop.Joined
import Derived.SevenTiedAt
set_option linter.unusedVariables false
set_option linter.unusedSimpArgs false
set_option maxRecDepth 20000
set_option maxHeartbeats 2000000
namespace Go.Proofs.YtohpilnjebnelaaDoor.RunSmooth
open Hk Hd Go.ChangeShapes Go.WideShapes Go.ChangeAt Go.RowKit
theorem ce41 : Tryd.prog.cellsOf 41 = 1 := by kernel_rfl
theorem ce42 : Tryd.prog.cellsOf 42 = 1 := by kernel_rfl
theorem ce3 : Tryd.prog.cellsOf 3 = 1 := by kernel_rfl
theorem ud3 : Tryd.prog.underlying 3 = some (.int .i64) := by kernel_rfl
theorem opn3 : Opn Tryd.prog 3 (fInt .i64) I64 := opn_int ud3 ce3
theorem ud42 : Tryd.prog.underlying 42 = some (.slice 3) := by kernel_rfl
theorem opn42 : Opn Tryd.prog 42 (fSl (fInt .i64)) (AllOk I64) := opn_slice ud42 ce42 opn3
theorem ud41 : Tryd.prog.underlying 41 = some (.slice 42) := by kernel_rfl
theorem opn41 : Opn Tryd.prog 41 (fSl (fSl (fInt .i64))) (AllOk (AllOk I64)) := opn_slice ud41 ce41 opn42
theorem ud4 : Tryd.prog.underlying 4 = some .bool := by kernel_rfl
theorem laid : laidOutB Tryd.prog = true := by kernel_rfl
theorem own : ownKnob Tryd.prog.godebug = none := by kernel_rfl
theorem pars : Tryd.f6.params = #[41, 3, 3] := rfl
theorem rr3 : Tryd.prog.readableRec 3 = true := by kernel_rfl
theorem rs3 : (3 : TypeId) < Tryd.prog.types.size := of_decide_eq_true (by kernel_rfl)
theorem rr41 : Tryd.prog.readableRec 41 = true := by kernel_rfl
theorem rs41 : (41 : TypeId) < Tryd.prog.types.size := of_decide_eq_true (by kernel_rfl)
def RunSmoothLaw : Prop := ∀ (x0 : List (List Int)) (x1 : Int) (x2 : Int), (AllOk (AllOk I64)) x0 → I64 x1 → I64 x2 → fishkeep1_RunSmooth x0 x1 x2 = some true
theorem contract (law : RunSmoothLaw) (H : Type) (enc : TypeId × Value → H) (W : World) (base : Nat) (args : Array Value) (ds gs : List (DataW H)) (before : List MemPlace)
    (hval : ∀ (j : Nat) t v, Tryd.f6.params[j]? = some t → args[j]? = some v → Value.okWide Tryd.prog W .any base t v)
    (hW : DataW.Whole enc Tryd.prog Tryd.f6.params.toList Rows.runSmoothSpec.vars false W args.toList ds gs before) :
    Calls Tryd.prog 6 args W fun e W' => ∃ v, e = .returned v ∧ Rows.runSmoothSpec.post enc Tryd.prog Tryd.f6 false true false false W args v W' := by
  have hW0 := hW
  obtain ⟨p, q, hA, hV, rfl, hfz, hnd⟩ := hW
  rw [pars] at hA hval
  obtain ⟨v0, vs0, d0, ds0, p0, q0, e0, g0, b0, h0, r0⟩ := trodAll_cons hA
  obtain ⟨v1, vs1, d1, ds1, p1, q1, e1, g1, b1, h1, r1⟩ := trodAll_cons r0
  obtain ⟨v2, vs2, d2, ds2, p2, q2, e2, g2, b2, h2, r2⟩ := trodAll_cons r1
  obtain ⟨z1, z2, z3⟩ := trodAll_nil r2
  subst z1 z2
  subst e2 g2
  subst e1 g1
  subst g0
  obtain rfl : args = #[v0, v1, v2] := by cases args; simp_all
  have hgs : gs = [] := by cases gs with | nil => rfl | cons g l => exact hV.elim
  subst hgs
  have ok0 := hval 0 41 v0 rfl rfl
  obtain ⟨fu0, h0⟩ := h0
  obtain ⟨x0, h0, k0⟩ := opn41.go h0
  obtain ⟨A0, n0, c0, hc0, hs0⟩ := h0
  obtain rfl := okWide_sl ud41 ok0 hc0
  have ok1 := hval 1 3 v1 rfl rfl
  obtain ⟨fu1, h1⟩ := h1
  obtain ⟨x1, h1, k1⟩ := opn3.go h1
  obtain rfl := okWide_i ud3 ok1 h1
  have ok2 := hval 2 3 v2 rfl rfl
  obtain ⟨fu2, h2⟩ := h2
  obtain ⟨x2, h2, k2⟩ := opn3.go h2
  obtain rfl := okWide_i ud3 ok2 h2
  have hlaw := law x0 x1 x2 k0 k1 k2
  refine (root_calls (B := tab) (vs := [.one (.d (.sl (.sl (.int .i64)))), .one (.d (.int .i64)), .one (.d (.int .i64))]) fishkeep1_RunSmooth.H (W := W) (p := (x0, x1, x2, ())) hlaw ⟨⟨A0, n0, c0, rfl, hs0⟩, (by exact rfl), (by exact rfl), trivial⟩).mono fun e W' he => ?_
  obtain ⟨v, f', rfl, hle, rfl, hw⟩ := he
  exact ⟨_, rfl, post_of_wd hW0 laid (by rw [pars]; intro t ht; simp only [List.mem_cons, List.not_mem_nil, or_false] at ht; rcases ht with rfl | rfl | rfl; all_goals first | exact ⟨rr3, rs3⟩ | exact ⟨rr41, rs41⟩) rfl rfl rfl ud4 hle hw⟩
def pinV : DataW Unit → Value
  | .lit (.int k n) => .int k n
  | _ => Go.undef
def pinO (d : DataW Unit) : Obj → Obj
  | .cells c t fr => match d with
    | .agg l => .cells (l.map pinV).toArray t fr
    | _ => .cells c t fr
  | x => x
noncomputable def startW (os : Os) : World := { World.doorLaid Tryd.prog 700 os with heap := ((World.doorLaid Tryd.prog 700 os).heap.modify ((Tryd.prog.globalNamed "unicode/utf8.first").getD 0) (pinO Rows.laid_unicode_utf8_first)) }
set_option maxRecDepth 100000 in
theorem met (os : Os) (args : Array Value) : laidMetH Tryd.prog Rows.runSmoothRow.laid ((startW os).forCall (fun _ _ => 0) ⟨#[], args, []⟩).memory :=
  laidMetH_of_parts (laidMet_of_run' 12 (by kernel_rfl) (by kernel_rfl)) (by kernel_rfl)
set_option maxRecDepth 100000 in
theorem lifted (law : RunSmoothLaw) (os : Os) (started : os.Started) (H : Type) (enc : TypeId × Value → H) :
    ReturnsInHanded {} Tryd.checked os 6 .any (fun w args => (Rows.runSmoothSpec.pre enc Tryd.prog Tryd.f6 [] false w args ∧ laidMetH Tryd.prog Rows.runSmoothRow.laid w) ∧ sizedMet enc Tryd.prog Tryd.f6 (OpenSpec.ofChange Rows.runSmoothSpec) false w args)
      (Rows.runSmoothSpec.post enc Tryd.prog Tryd.f6 false true false false) := by
  refine returnsInHanded_of_change_and (C := Tryd.checked) (X := fun w _ => laidMetH Tryd.prog Rows.runSmoothRow.laid w) (fun _ _ _ hh h => h.of_heap hh) own started (by kernel_rfl) Tryd.func6
    (ChangeSpec.witness_shaped (enc := enc) (C := Tryd.checked) (os := os) (X := fun w _ => laidMetH Tryd.prog Rows.runSmoothRow.laid w) false (startW os) #[(.slice none 0 0), (.int .i64 0), (.int .i64 0)] 8 rfl (World.shaped_of_RefB (by kernel_rfl) (by kernel_rfl)) (by kernel_rfl) (by kernel_rfl) (by kernel_rfl) (met os _)) ?_
  intro W base args ds gs before hval hW _ _ _ _
  exact contract law H enc W base args ds gs before hval hW
theorem said (law : RunSmoothLaw) : Rows.RunSmoothSaid :=
  OpenClaim.holds_of_wide 6 Tryd.f6 rfl rfl rfl rfl rfl rfl rfl ⟨rfl, rfl, rfl, rfl, rfl⟩ rfl rfl rfl rfl rfl (by kernel_rfl) Tryd.func6 (by kernel_rfl)
    (of_decide_eq_true (by kernel_rfl)) (by unfold Func.isWrapper; first | (rw [if_pos (by decide +kernel)]; kernel_rfl) | (rw [if_neg (by decide +kernel)]; exact ⟨rfl, rfl⟩))
    (fun os started H enc _ => lifted law os started H enc)
theorem ws3 : Tryd.prog.wantsStandIn 3 = false := by kernel_rfl
theorem ws41 : Tryd.prog.wantsStandIn 41 = false := by kernel_rfl
theorem close (law : RunSmoothLaw) : Rows.RunSmoothCardSaid :=
  Claim7.holds_tied_plain_at .later [] [.data, .data, .data, .data, .sentinel, .sentinel, .pinned] true (true, "7c58d727ffb5e7b0d03aad5744ba21dd0618801c1c2cacf51a3e5ff38e52408f") true
    (said law) (fun _ h => by cases h) (by kernel_rfl) (fun _ h => by cases h) runSmooth_row_tie rfl ⟨rfl, rfl⟩ (by kernel_rfl) rfl
    (fun f fn hf hfn => by
      obtain rfl : f = 6 := Option.some.inj ((show Tryd.prog.funcNamed "fishplate/fishkeep1.RunSmooth" = some 6 by kernel_rfl).symm.trans hf) |>.symm
      obtain rfl : fn = Tryd.f6 := (Option.some.inj (Tryd.func6.symm.trans hfn)).symm
      exact ⟨by kernel_rfl, fun j t ht => by
        rw [pars] at ht
        have hm := List.mem_of_getElem? (l := [41, 3, 3]) (by simpa using ht)
        simp only [List.mem_cons, List.not_mem_nil, or_false] at hm
        rcases hm with rfl | rfl | rfl
        all_goals first | exact ws3 | exact ws41⟩)
    (by kernel_rfl)
end Go.Proofs.YtohpilnjebnelaaDoor.RunSmooth
