/- FarePacked: the card follows from the plain law FarePackedLaw. Printed by a tool. -/
import Derived.Test.YtodbddhmfecbbaaGreatDoorZa
import Derived.Test.YtodbddhmfecbbaaGreatDoorK5
import Derived.Test.YtodbddhmfecbbaaGreatDoorRows
import Derived.Test.YtodbddhmfecbbaaGreatDoorTie
import Derived.Test.YtodbddhmfecbbaaGreatDoorCards
import Derived.JoinedCond
import Derived.LaidMore
import Derived.LaidLaws
import Derived.LaidHandle
import Derived.OpenShut
import Derived.Stop.Joined
import Derived.SevenTiedAt
set_option linter.unusedVariables false
set_option linter.unusedSimpArgs false
set_option maxRecDepth 20000
set_option maxHeartbeats 2000000
namespace Go.Proofs.YtodbddhmfecbbaaGreatDoor.FarePacked
open Hk Hd Go.ChangeShapes Go.WideShapes Go.ChangeAt Go.RowKit
theorem ce60 : Tryz.prog.cellsOf 60 = 1 := by kernel_rfl
theorem ce63 : Tryz.prog.cellsOf 63 = 2 := by kernel_rfl
theorem ce3 : Tryz.prog.cellsOf 3 = 1 := by kernel_rfl
theorem ud3 : Tryz.prog.underlying 3 = some (.int .i64) := by kernel_rfl
theorem opn3 : Opn Tryz.prog 3 (fInt .i64) I64 := opn_int ud3 ce3
def okS_fare_Span (x : S_fare_Span) : Prop := I64 x.From ∧ I64 x.To
theorem fs63 : tyFs Tryz.prog 63 = some [(3, 0), (3, 1)] := by kernel_rfl
theorem opn63 : Opn Tryz.prog 63 fS_fare_Span okS_fare_Span := ⟨ce63, by decide, fun h => by
  obtain ⟨hl, n, hf⟩ := trod_fs fs63 h
  rw [ce63] at hl
  obtain ⟨_, h0⟩ := hf (3, 0) (by decide)
  obtain ⟨y0, h0, k0⟩ := opn3.go h0
  simp only [ce3] at h0
  obtain ⟨_, h1⟩ := hf (3, 1) (by decide)
  obtain ⟨y1, h1, k1⟩ := opn3.go h1
  simp only [ce3] at h1
  have hp : fS_fare_Span.p _ (_ : List Value) (⟨y0, y1⟩ : S_fare_Span) := fp_cons h0 (fp_last (by rw [hl]; rfl) h1)
  rw [List.drop_zero] at hp
  exact ⟨_, hp, k0, k1⟩⟩
theorem ud60 : Tryz.prog.underlying 60 = some (.slice 63) := by kernel_rfl
theorem opn60 : Opn Tryz.prog 60 (fSl fS_fare_Span) (AllOk okS_fare_Span) := opn_slice ud60 ce60 opn63
theorem ud4 : Tryz.prog.underlying 4 = some .bool := by kernel_rfl
theorem laid : laidOutB Tryz.prog = true := by kernel_rfl
theorem own : ownKnob Tryz.prog.godebug = none := by kernel_rfl
theorem pars : Tryz.f6.params = #[60, 3, 3] := rfl
theorem rr3 : Tryz.prog.readableRec 3 = true := by kernel_rfl
theorem rs3 : (3 : TypeId) < Tryz.prog.types.size := of_decide_eq_true (by kernel_rfl)
theorem rr60 : Tryz.prog.readableRec 60 = true := by kernel_rfl
theorem rs60 : (60 : TypeId) < Tryz.prog.types.size := of_decide_eq_true (by kernel_rfl)
def FarePackedLaw : Prop := ∀ (x0 : List S_fare_Span) (x1 : Int) (x2 : Int), (AllOk okS_fare_Span) x0 → I64 x1 → I64 x2 → fishkeep2_FarePacked x0 x1 x2 = some true
theorem contract (law : FarePackedLaw) (H : Type) (enc : TypeId × Value → H) (W : World) (base : Nat) (args : Array Value) (ds gs : List (DataW H)) (before : List MemPlace)
    (hval : ∀ (j : Nat) t v, Tryz.f6.params[j]? = some t → args[j]? = some v → Value.okWide Tryz.prog W .any base t v)
    (hW : DataW.Whole enc Tryz.prog Tryz.f6.params.toList Rows.farePackedSpec.vars false W args.toList ds gs before) :
    Calls Tryz.prog 6 args W fun e W' => ∃ v, e = .returned v ∧ Rows.farePackedSpec.post enc Tryz.prog Tryz.f6 false true false false W args v W' := by
  have hW0 := hW
  obtain ⟨p, q, hA, hV, rfl, hfz, hnd⟩ := hW
  rw [pars] at hA hval
  obtain ⟨v0, vs0, d0, ds0, p0, q0, e0, g0, b0, h0, r0⟩ := trodAll_cons hA
  obtain ⟨v1, vs1, d1, ds1, p1, q1, e1, g1, b1, h1, r1⟩ := trodAll_cons r0
  obtain ⟨v2, vs2, d2, ds2, p2, q2, e2, g2, b2, h2, r2⟩ := trodAll_cons r1
  obtain ⟨z1, z2, z3⟩ := trodAll_nil r2
  subst z1 z2
  subst e2 g2
  subst e1 g1
  subst g0
  obtain rfl : args = #[v0, v1, v2] := by cases args; simp_all
  have hgs : gs = [] := by cases gs with | nil => rfl | cons g l => exact hV.elim
  subst hgs
  have ok0 := hval 0 60 v0 rfl rfl
  obtain ⟨fu0, h0⟩ := h0
  obtain ⟨x0, h0, k0⟩ := opn60.go h0
  obtain ⟨A0, n0, c0, hc0, hs0⟩ := h0
  obtain rfl := okWide_sl ud60 ok0 hc0
  have ok1 := hval 1 3 v1 rfl rfl
  obtain ⟨fu1, h1⟩ := h1
  obtain ⟨x1, h1, k1⟩ := opn3.go h1
  obtain rfl := okWide_i ud3 ok1 h1
  have ok2 := hval 2 3 v2 rfl rfl
  obtain ⟨fu2, h2⟩ := h2
  obtain ⟨x2, h2, k2⟩ := opn3.go h2
  obtain rfl := okWide_i ud3 ok2 h2
  have hlaw := law x0 x1 x2 k0 k1 k2
  refine (root_calls (B := tab) (vs := [.one (.d (.sl (.st 0))), .one (.d (.int .i64)), .one (.d (.int .i64))]) fishkeep2_FarePacked.H (W := W) (p := (x0, x1, x2, ())) hlaw ⟨⟨A0, n0, c0, rfl, hs0⟩, (by exact rfl), (by exact rfl), trivial⟩).mono fun e W' he => ?_
  obtain ⟨v, f', rfl, hle, rfl, hw⟩ := he
  exact ⟨_, rfl, post_of_wd hW0 laid (by rw [pars]; intro t ht; simp only [List.mem_cons, List.not_mem_nil, or_false] at ht; rcases ht with rfl | rfl | rfl; all_goals first | exact ⟨rr3, rs3⟩ | exact ⟨rr60, rs60⟩) rfl rfl rfl ud4 hle hw⟩
def pinV : DataW Unit → Value
  | .lit (.int k n) => .int k n
  | _ => Go.undef
def pinO (d : DataW Unit) : Obj → Obj
  | .cells c t fr => match d with
    | .agg l => .cells (l.map pinV).toArray t fr
    | _ => .cells c t fr
  | x => x
noncomputable def startW (os : Os) : World := { World.doorLaid Tryz.prog 700 os with heap := ((World.doorLaid Tryz.prog 700 os).heap.modify ((Tryz.prog.globalNamed "unicode/utf8.first").getD 0) (pinO Rows.laid_unicode_utf8_first)) }
set_option maxRecDepth 100000 in
theorem met (os : Os) (args : Array Value) : laidMetH Tryz.prog Rows.farePackedRow.laid ((startW os).forCall (fun _ _ => 0) ⟨#[], args, []⟩).memory :=
  laidMetH_of_parts (laidMet_of_run' 12 (by kernel_rfl) (by kernel_rfl)) (by kernel_rfl)
set_option maxRecDepth 100000 in
theorem lifted (law : FarePackedLaw) (os : Os) (started : os.Started) (H : Type) (enc : TypeId × Value → H) :
    ReturnsInHanded {} Tryz.checked os 6 .any (fun w args => (Rows.farePackedSpec.pre enc Tryz.prog Tryz.f6 [] false w args ∧ laidMetH Tryz.prog Rows.farePackedRow.laid w) ∧ sizedMet enc Tryz.prog Tryz.f6 (OpenSpec.ofChange Rows.farePackedSpec) false w args)
      (Rows.farePackedSpec.post enc Tryz.prog Tryz.f6 false true false false) := by
  refine returnsInHanded_of_change_and (C := Tryz.checked) (X := fun w _ => laidMetH Tryz.prog Rows.farePackedRow.laid w) (fun _ _ _ hh h => h.of_heap hh) own started (by kernel_rfl) Tryz.func6
    (ChangeSpec.witness_shaped (enc := enc) (C := Tryz.checked) (os := os) (X := fun w _ => laidMetH Tryz.prog Rows.farePackedRow.laid w) false (startW os) #[(.slice none 0 0), (.int .i64 0), (.int .i64 0)] 8 rfl (World.shaped_of_RefB (by kernel_rfl) (by kernel_rfl)) (by kernel_rfl) (by kernel_rfl) (by kernel_rfl) (met os _)) ?_
  intro W base args ds gs before hval hW _ hwt hX _
  exact contract law H enc W base args ds gs before hval hW
theorem said (law : FarePackedLaw) : Rows.FarePackedSaid :=
  OpenClaim.holds_of_wide 6 Tryz.f6 rfl rfl rfl rfl rfl rfl rfl ⟨rfl, rfl, rfl, rfl, rfl⟩ rfl rfl rfl rfl rfl (by kernel_rfl) Tryz.func6 (by kernel_rfl)
    (of_decide_eq_true (by kernel_rfl)) (by unfold Func.isWrapper; first | (rw [if_pos (by decide +kernel)]; kernel_rfl) | (rw [if_neg (by decide +kernel)]; exact ⟨rfl, rfl⟩))
    (fun os started H enc _ => lifted law os started H enc)
theorem ws3 : Tryz.prog.wantsStandIn 3 = false := by kernel_rfl
theorem ws60 : Tryz.prog.wantsStandIn 60 = false := by kernel_rfl
theorem close (law : FarePackedLaw) : Rows.FarePackedCardSaid :=
  Claim7.holds_tied_plain_at .later [] [.data, .data, .data, .data, .sentinel, .sentinel, .pinned] true (true, "4e3be0113d941e06885c8b7b4f46a567ce977fcd01901e696592c7b50e21d9f8") true
    (said law) (fun _ h => by cases h) (by kernel_rfl) (fun _ h => by cases h) farePacked_row_tie rfl ⟨rfl, rfl⟩ (by kernel_rfl) rfl
    (fun f fn hf hfn => by
      obtain rfl : f = 6 := Option.some.inj ((show Tryz.prog.funcNamed "fishplate/fishkeep2.FarePacked" = some 6 by kernel_rfl).symm.trans hf) |>.symm
      obtain rfl : fn = Tryz.f6 := (Option.some.inj (Tryz.func6.symm.trans hfn)).symm
      exact ⟨by kernel_rfl, fun j t ht => by
        rw [pars] at ht
        have hm := List.mem_of_getElem? (l := [60, 3, 3]) (by simpa using ht)
        simp only [List.mem_cons, List.not_mem_nil, or_false] at hm
        rcases hm with rfl | rfl | rfl
        all_goals first | exact ws3 | exact ws60⟩)
    (by kernel_rfl)
end Go.Proofs.YtodbddhmfecbbaaGreatDoor.FarePacked
