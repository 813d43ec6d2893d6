/- FareOnce: the card follows from the plain law FareOnceLaw. Printed by a tool. -/
import Derived.Test.YtodbddhmfecbbaaGreatDoorZa
import Derived.Test.YtodbddhmfecbbaaGreatDoorK5
import Derived.Test.YtodbddhmfecbbaaGreatDoorG1
import Derived.Test.YtodbddhmfecbbaaGreatDoorRows
import Derived.Test.YtodbddhmfecbbaaGreatDoorTie
import Derived.Test.YtodbddhmfecbbaaGreatDoorCards
import Derived.JoinedCond
import Derived.LaidMore
import Derived.LaidLaws
import Derived.LaidHandle
import Derived.OpenShut
import Derived.Stop.Joined
import Derived.SevenTiedAt
set_option linter.unusedVariables false
set_option linter.unusedSimpArgs false
set_option maxRecDepth 20000
set_option maxHeartbeats 2000000
namespace Go.Proofs.YtodbddhmfecbbaaGreatDoor.FareOnce
open Hk Hd Go.ChangeShapes Go.WideShapes Go.ChangeAt Go.RowKit
theorem ce3 : Tryz.prog.cellsOf 3 = 1 := by kernel_rfl
theorem ud3 : Tryz.prog.underlying 3 = some (.int .i64) := by kernel_rfl
theorem opn3 : Opn Tryz.prog 3 (fInt .i64) I64 := opn_int ud3 ce3
theorem ce27 : Tryz.prog.cellsOf 27 = 1 := by kernel_rfl
theorem ud27 : Tryz.prog.underlying 27 = some (.slice 3) := by kernel_rfl
theorem opn27 : Opn Tryz.prog 27 (fSl (fInt .i64)) (AllOk I64) := opn_slice ud27 ce27 opn3
theorem ud4 : Tryz.prog.underlying 4 = some .bool := by kernel_rfl
theorem laid : laidOutB Tryz.prog = true := by kernel_rfl
theorem own : ownKnob Tryz.prog.godebug = none := by kernel_rfl
theorem pars : Tryz.f7.params = #[3, 3, 3, 27] := rfl
theorem rr3 : Tryz.prog.readableRec 3 = true := by kernel_rfl
theorem rs3 : (3 : TypeId) < Tryz.prog.types.size := of_decide_eq_true (by kernel_rfl)
theorem rr27 : Tryz.prog.readableRec 27 = true := by kernel_rfl
theorem rs27 : (27 : TypeId) < Tryz.prog.types.size := of_decide_eq_true (by kernel_rfl)
def FareOnceLaw : Prop := ∀ (x0 : Int) (x1 : Int) (x2 : Int) (x3 : List Int), I64 x0 → I64 x1 → I64 x2 → (AllOk I64) x3 → x3.length * 8 ≤ 140737488351232 → fishkeep2_FareOnce x0 x1 x2 x3 = some true ∨ fishkeep2_FareOnce_v2 x0 x1 x2 x3 = some true
theorem bw3 : Tryz.prog.bytesOf 3 = 8 := by kernel_rfl
theorem contract (law : FareOnceLaw) (H : Type) (enc : TypeId × Value → H) (W : World) (base : Nat) (args : Array Value) (ds gs : List (DataW H)) (before : List MemPlace)
    (hval : ∀ (j : Nat) t v, Tryz.f7.params[j]? = some t → args[j]? = some v → Value.okWide Tryz.prog W .any base t v)
    (hW : DataW.Whole enc Tryz.prog Tryz.f7.params.toList Rows.fareOnceSpec.vars false W args.toList ds gs before) (hwt : (DataW.weightsEach Tryz.prog (Tryz.f7.params.toList ++ Rows.fareOnceSpec.plain.varTypes Tryz.prog) (ds ++ gs)).all (· ≤ reachBytes) = true) :
    Calls Tryz.prog 7 args W fun e W' => ∃ v, e = .returned v ∧ Rows.fareOnceSpec.post enc Tryz.prog Tryz.f7 false true false false W args v W' := by
  have hW0 := hW
  obtain ⟨p, q, hA, hV, rfl, hfz, hnd⟩ := hW
  rw [pars] at hA hval
  obtain ⟨v0, vs0, d0, ds0, p0, q0, e0, g0, b0, h0, r0⟩ := trodAll_cons hA
  obtain ⟨v1, vs1, d1, ds1, p1, q1, e1, g1, b1, h1, r1⟩ := trodAll_cons r0
  obtain ⟨v2, vs2, d2, ds2, p2, q2, e2, g2, b2, h2, r2⟩ := trodAll_cons r1
  obtain ⟨v3, vs3, d3, ds3, p3, q3, e3, g3, b3, h3, r3⟩ := trodAll_cons r2
  obtain ⟨z1, z2, z3⟩ := trodAll_nil r3
  subst z1 z2
  subst e3 g3
  subst e2 g2
  subst e1 g1
  subst g0
  obtain rfl : args = #[v0, v1, v2, v3] := by cases args; simp_all
  have hgs : gs = [] := by cases gs with | nil => rfl | cons g l => exact hV.elim
  subst hgs
  have hwt' : (DataW.weightsEach Tryz.prog [3, 3, 3, 27] [d0, d1, d2, d3]).all (· ≤ reachBytes) = true := hwt
  simp only [DataW.weightsEach, List.all_append, Bool.and_eq_true] at hwt'
  have wz3 := hwt'.2.2.2.1
  have ok0 := hval 0 3 v0 rfl rfl
  obtain ⟨fu0, h0⟩ := h0
  obtain ⟨x0, h0, k0⟩ := opn3.go h0
  obtain rfl := okWide_i ud3 ok0 h0
  have ok1 := hval 1 3 v1 rfl rfl
  obtain ⟨fu1, h1⟩ := h1
  obtain ⟨x1, h1, k1⟩ := opn3.go h1
  obtain rfl := okWide_i ud3 ok1 h1
  have ok2 := hval 2 3 v2 rfl rfl
  obtain ⟨fu2, h2⟩ := h2
  obtain ⟨x2, h2, k2⟩ := opn3.go h2
  obtain rfl := okWide_i ud3 ok2 h2
  have ok3 := hval 3 27 v3 rfl rfl
  obtain ⟨fu3, h3⟩ := h3
  have tr3 := h3
  obtain ⟨x3, h3, k3⟩ := opn27.go h3
  obtain ⟨A3, n3, c3, hc3, hs3⟩ := h3
  have wt3 := wt_len ud27 bw3 tr3 wz3 hc3
  rw [hs3.len] at wt3
  obtain rfl := okWide_sl ud27 ok3 hc3
  have hlaw := law x0 x1 x2 x3 k0 k1 k2 k3 wt3
  rcases hlaw with hlaw | hlaw
  · refine (root_calls (B := tab) (vs := [.one (.d (.int .i64)), .one (.d (.int .i64)), .one (.d (.int .i64)), .one (.d (.sl (.int .i64)))]) fishkeep2_FareOnce.H (W := W) (p := (x0, x1, x2, x3, ())) hlaw ⟨(by exact rfl), (by exact rfl), (by exact rfl), ⟨A3, n3, c3, rfl, hs3⟩, trivial⟩).mono fun e W' he => ?_
    obtain ⟨v, f', rfl, hle, rfl, hw⟩ := he
    exact ⟨_, rfl, post_of_wd hW0 laid (by rw [pars]; intro t ht; simp only [List.mem_cons, List.not_mem_nil, or_false] at ht; rcases ht with rfl | rfl | rfl | rfl; all_goals first | exact ⟨rr3, rs3⟩ | exact ⟨rr27, rs27⟩) rfl rfl rfl ud4 hle hw⟩
  · refine (root_calls (B := tab) (vs := [.one (.d (.int .i64)), .one (.d (.int .i64)), .one (.d (.int .i64)), .one (.d (.sl (.int .i64)))]) fishkeep2_FareOnce_v2.H (W := W) (p := (x0, x1, x2, x3, ())) hlaw ⟨(by exact rfl), (by exact rfl), (by exact rfl), ⟨A3, n3, c3, rfl, hs3⟩, trivial⟩).mono fun e W' he => ?_
    obtain ⟨v, f', rfl, hle, rfl, hw⟩ := he
    exact ⟨_, rfl, post_of_wd hW0 laid (by rw [pars]; intro t ht; simp only [List.mem_cons, List.not_mem_nil, or_false] at ht; rcases ht with rfl | rfl | rfl | rfl; all_goals first | exact ⟨rr3, rs3⟩ | exact ⟨rr27, rs27⟩) rfl rfl rfl ud4 hle hw⟩
def pinV : DataW Unit → Value
  | .lit (.int k n) => .int k n
  | _ => Go.undef
def pinO (d : DataW Unit) : Obj → Obj
  | .cells c t fr => match d with
    | .agg l => .cells (l.map pinV).toArray t fr
    | _ => .cells c t fr
  | x => x
noncomputable def startW (os : Os) : World := { World.doorLaid Tryz.prog 700 os with heap := ((World.doorLaid Tryz.prog 700 os).heap.modify ((Tryz.prog.globalNamed "unicode/utf8.first").getD 0) (pinO Rows.laid_unicode_utf8_first)) }
set_option maxRecDepth 100000 in
theorem met (os : Os) (args : Array Value) : laidMetH Tryz.prog Rows.fareOnceRow.laid ((startW os).forCall (fun _ _ => 0) ⟨#[], args, []⟩).memory :=
  laidMetH_of_parts (laidMet_of_run' 12 (by kernel_rfl) (by kernel_rfl)) (by kernel_rfl)
set_option maxRecDepth 100000 in
theorem lifted (law : FareOnceLaw) (os : Os) (started : os.Started) (H : Type) (enc : TypeId × Value → H) :
    ReturnsInHanded {} Tryz.checked os 7 .any (fun w args => (Rows.fareOnceSpec.pre enc Tryz.prog Tryz.f7 [] false w args ∧ laidMetH Tryz.prog Rows.fareOnceRow.laid w) ∧ sizedMet enc Tryz.prog Tryz.f7 (OpenSpec.ofChange Rows.fareOnceSpec) false w args)
      (Rows.fareOnceSpec.post enc Tryz.prog Tryz.f7 false true false false) := by
  refine returnsInHanded_of_change_and (C := Tryz.checked) (X := fun w _ => laidMetH Tryz.prog Rows.fareOnceRow.laid w) (fun _ _ _ hh h => h.of_heap hh) own started (by kernel_rfl) Tryz.func7
    (ChangeSpec.witness_shaped (enc := enc) (C := Tryz.checked) (os := os) (X := fun w _ => laidMetH Tryz.prog Rows.fareOnceRow.laid w) false (startW os) #[(.int .i64 0), (.int .i64 0), (.int .i64 0), (.slice none 0 0)] 8 rfl (World.shaped_of_RefB (by kernel_rfl) (by kernel_rfl)) (by kernel_rfl) (by kernel_rfl) (by kernel_rfl) (met os _)) ?_
  intro W base args ds gs before hval hW _ hwt hX _
  exact contract law H enc W base args ds gs before hval hW hwt
theorem said (law : FareOnceLaw) : Rows.FareOnceSaid :=
  OpenClaim.holds_of_wide 7 Tryz.f7 rfl rfl rfl rfl rfl rfl rfl ⟨rfl, rfl, rfl, rfl, rfl⟩ rfl rfl rfl rfl rfl (by kernel_rfl) Tryz.func7 (by kernel_rfl)
    (of_decide_eq_true (by kernel_rfl)) (by unfold Func.isWrapper; first | (rw [if_pos (by decide +kernel)]; kernel_rfl) | (rw [if_neg (by decide +kernel)]; exact ⟨rfl, rfl⟩))
    (fun os started H enc _ => lifted law os started H enc)
theorem ws3 : Tryz.prog.wantsStandIn 3 = false := by kernel_rfl
theorem ws27 : Tryz.prog.wantsStandIn 27 = false := by kernel_rfl
theorem close (law : FareOnceLaw) : Rows.FareOnceCardSaid :=
  Claim7.holds_tied_plain_at .later [] [.data, .data, .data, .data, .sentinel, .sentinel, .pinned] true (true, "4e3be0113d941e06885c8b7b4f46a567ce977fcd01901e696592c7b50e21d9f8") true
    (said law) (fun _ h => by cases h) (by kernel_rfl) (fun _ h => by cases h) fareOnce_row_tie rfl ⟨rfl, rfl⟩ (by kernel_rfl) rfl
    (fun f fn hf hfn => by
      obtain rfl : f = 7 := Option.some.inj ((show Tryz.prog.funcNamed "fishplate/fishkeep2.FareOnce" = some 7 by kernel_rfl).symm.trans hf) |>.symm
      obtain rfl : fn = Tryz.f7 := (Option.some.inj (Tryz.func7.symm.trans hfn)).symm
      exact ⟨by kernel_rfl, fun j t ht => by
        rw [pars] at ht
        have hm := List.mem_of_getElem? (l := [3, 3, 3, 27]) (by simpa using ht)
        simp only [List.mem_cons, List.not_mem_nil, or_false] at hm
        rcases hm with rfl | rfl | rfl | rfl
        all_goals first | exact ws3 | exact ws27⟩)
    (by kernel_rfl)
end Go.Proofs.YtodbddhmfecbbaaGreatDoor.FareOnce
