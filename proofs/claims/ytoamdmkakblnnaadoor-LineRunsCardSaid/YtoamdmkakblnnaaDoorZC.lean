/- LineRuns: the card follows from the plain law LineRunsLaw. Printed by a tool. -/
import Derived.Test.YtoamdmkakblnnaaDoorZa
import Derived.Test.YtoamdmkakblnnaaDoorK5
import Derived.Test.YtoamdmkakblnnaaDoorRows
import Derived.Test.YtoamdmkakblnnaaDoorTie
import Derived.Test.YtoamdmkakblnnaaDoorCards
import Derived.JoinedCond
import Derived.LaidMore
import Derived.LaidLaws
import Derived.LaidHandle
import Derived.OpenShut
import Derived.Stop.Joined
import Derived.SevenTiedAt
set_option linter.unusedVariables false
set_option linter.unusedSimpArgs false
set_option maxRecDepth 20000
set_option maxHeartbeats 2000000
namespace Go.Proofs.YtoamdmkakblnnaaDoor.LineRuns
open Hk Hd Go.ChangeShapes Go.WideShapes Go.ChangeAt Go.RowKit
theorem ce28 : Tryd.prog.cellsOf 28 = 5 := by kernel_rfl
theorem ce22 : Tryd.prog.cellsOf 22 = 1 := by kernel_rfl
theorem ce9 : Tryd.prog.cellsOf 9 = 1 := by kernel_rfl
theorem ud9 : Tryd.prog.underlying 9 = some .string := by kernel_rfl
theorem opn9 : Opn Tryd.prog 9 fStr (fun s => s.size ≤ maxLen) := opn_str ud9 ce9
theorem ud22 : Tryd.prog.underlying 22 = some (.slice 9) := by kernel_rfl
theorem opn22 : Opn Tryd.prog 22 (fSl fStr) (AllOk (fun s => s.size ≤ maxLen)) := opn_slice ud22 ce22 opn9
theorem ce23 : Tryd.prog.cellsOf 23 = 1 := by kernel_rfl
theorem ce66 : Tryd.prog.cellsOf 66 = 7 := by kernel_rfl
theorem ce3 : Tryd.prog.cellsOf 3 = 1 := by kernel_rfl
theorem ud3 : Tryd.prog.underlying 3 = some (.int .i64) := by kernel_rfl
theorem opn3 : Opn Tryd.prog 3 (fInt .i64) I64 := opn_int ud3 ce3
theorem ce4 : Tryd.prog.cellsOf 4 = 1 := by kernel_rfl
theorem ud4 : Tryd.prog.underlying 4 = some .bool := by kernel_rfl
theorem opn4 : Opn Tryd.prog 4 fBool (fun _ => True) := opn_bool ud4 ce4
def okS_api_Section (x : S_api_Section) : Prop := I64 x.Kind ∧ I64 x.Length ∧ I64 x.Grade ∧ I64 x.Speed ∧ I64 x.Slow ∧ I64 x.Station ∧ (fun _ => True) x.Axles
theorem fs66 : tyFs Tryd.prog 66 = some [(3, 0), (3, 1), (3, 2), (3, 3), (3, 4), (3, 5), (4, 6)] := by kernel_rfl
theorem opn66 : Opn Tryd.prog 66 fS_api_Section okS_api_Section := ⟨ce66, by decide, fun h => by
  obtain ⟨hl, n, hf⟩ := trod_fs fs66 h
  rw [ce66] at hl
  obtain ⟨_, h0⟩ := hf (3, 0) (by decide)
  obtain ⟨y0, h0, k0⟩ := opn3.go h0
  simp only [ce3] at h0
  obtain ⟨_, h1⟩ := hf (3, 1) (by decide)
  obtain ⟨y1, h1, k1⟩ := opn3.go h1
  simp only [ce3] at h1
  obtain ⟨_, h2⟩ := hf (3, 2) (by decide)
  obtain ⟨y2, h2, k2⟩ := opn3.go h2
  simp only [ce3] at h2
  obtain ⟨_, h3⟩ := hf (3, 3) (by decide)
  obtain ⟨y3, h3, k3⟩ := opn3.go h3
  simp only [ce3] at h3
  obtain ⟨_, h4⟩ := hf (3, 4) (by decide)
  obtain ⟨y4, h4, k4⟩ := opn3.go h4
  simp only [ce3] at h4
  obtain ⟨_, h5⟩ := hf (3, 5) (by decide)
  obtain ⟨y5, h5, k5⟩ := opn3.go h5
  simp only [ce3] at h5
  obtain ⟨_, h6⟩ := hf (4, 6) (by decide)
  obtain ⟨y6, h6, k6⟩ := opn4.go h6
  simp only [ce4] at h6
  have hp : fS_api_Section.p _ (_ : List Value) (⟨y0, y1, y2, y3, y4, y5, y6⟩ : S_api_Section) := fp_cons h0 (fp_cons h1 (fp_cons h2 (fp_cons h3 (fp_cons h4 (fp_cons h5 (fp_last (by rw [hl]; rfl) h6))))))
  rw [List.drop_zero] at hp
  exact ⟨_, hp, k0, k1, k2, k3, k4, k5, k6⟩⟩
theorem ud23 : Tryd.prog.underlying 23 = some (.slice 66) := by kernel_rfl
theorem opn23 : Opn Tryd.prog 23 (fSl fS_api_Section) (AllOk okS_api_Section) := opn_slice ud23 ce23 opn66
theorem ce24 : Tryd.prog.cellsOf 24 = 1 := by kernel_rfl
theorem ce94 : Tryd.prog.cellsOf 94 = 4 := by kernel_rfl
def okS_api_Link (x : S_api_Link) : Prop := I64 x.A ∧ I64 x.EndA ∧ I64 x.B ∧ I64 x.EndB
theorem fs94 : tyFs Tryd.prog 94 = some [(3, 0), (3, 1), (3, 2), (3, 3)] := by kernel_rfl
theorem opn94 : Opn Tryd.prog 94 fS_api_Link okS_api_Link := ⟨ce94, by decide, fun h => by
  obtain ⟨hl, n, hf⟩ := trod_fs fs94 h
  rw [ce94] at hl
  obtain ⟨_, h0⟩ := hf (3, 0) (by decide)
  obtain ⟨y0, h0, k0⟩ := opn3.go h0
  simp only [ce3] at h0
  obtain ⟨_, h1⟩ := hf (3, 1) (by decide)
  obtain ⟨y1, h1, k1⟩ := opn3.go h1
  simp only [ce3] at h1
  obtain ⟨_, h2⟩ := hf (3, 2) (by decide)
  obtain ⟨y2, h2, k2⟩ := opn3.go h2
  simp only [ce3] at h2
  obtain ⟨_, h3⟩ := hf (3, 3) (by decide)
  obtain ⟨y3, h3, k3⟩ := opn3.go h3
  simp only [ce3] at h3
  have hp : fS_api_Link.p _ (_ : List Value) (⟨y0, y1, y2, y3⟩ : S_api_Link) := fp_cons h0 (fp_cons h1 (fp_cons h2 (fp_last (by rw [hl]; rfl) h3)))
  rw [List.drop_zero] at hp
  exact ⟨_, hp, k0, k1, k2, k3⟩⟩
theorem ud24 : Tryd.prog.underlying 24 = some (.slice 94) := by kernel_rfl
theorem opn24 : Opn Tryd.prog 24 (fSl fS_api_Link) (AllOk okS_api_Link) := opn_slice ud24 ce24 opn94
theorem ce25 : Tryd.prog.cellsOf 25 = 1 := by kernel_rfl
theorem ce77 : Tryd.prog.cellsOf 77 = 2 := by kernel_rfl
def okS_api_Signal (x : S_api_Signal) : Prop := I64 x.Section ∧ I64 x.End
theorem fs77 : tyFs Tryd.prog 77 = some [(3, 0), (3, 1)] := by kernel_rfl
theorem opn77 : Opn Tryd.prog 77 fS_api_Signal okS_api_Signal := ⟨ce77, by decide, fun h => by
  obtain ⟨hl, n, hf⟩ := trod_fs fs77 h
  rw [ce77] at hl
  obtain ⟨_, h0⟩ := hf (3, 0) (by decide)
  obtain ⟨y0, h0, k0⟩ := opn3.go h0
  simp only [ce3] at h0
  obtain ⟨_, h1⟩ := hf (3, 1) (by decide)
  obtain ⟨y1, h1, k1⟩ := opn3.go h1
  simp only [ce3] at h1
  have hp : fS_api_Signal.p _ (_ : List Value) (⟨y0, y1⟩ : S_api_Signal) := fp_cons h0 (fp_last (by rw [hl]; rfl) h1)
  rw [List.drop_zero] at hp
  exact ⟨_, hp, k0, k1⟩⟩
theorem ud25 : Tryd.prog.underlying 25 = some (.slice 77) := by kernel_rfl
theorem opn25 : Opn Tryd.prog 25 (fSl fS_api_Signal) (AllOk okS_api_Signal) := opn_slice ud25 ce25 opn77
theorem ce26 : Tryd.prog.cellsOf 26 = 1 := by kernel_rfl
theorem ce115 : Tryd.prog.cellsOf 115 = 2 := by kernel_rfl
def okS_api_Gate (x : S_api_Gate) : Prop := I64 x.Section ∧ I64 x.Close
theorem fs115 : tyFs Tryd.prog 115 = some [(3, 0), (3, 1)] := by kernel_rfl
theorem opn115 : Opn Tryd.prog 115 fS_api_Gate okS_api_Gate := ⟨ce115, by decide, fun h => by
  obtain ⟨hl, n, hf⟩ := trod_fs fs115 h
  rw [ce115] at hl
  obtain ⟨_, h0⟩ := hf (3, 0) (by decide)
  obtain ⟨y0, h0, k0⟩ := opn3.go h0
  simp only [ce3] at h0
  obtain ⟨_, h1⟩ := hf (3, 1) (by decide)
  obtain ⟨y1, h1, k1⟩ := opn3.go h1
  simp only [ce3] at h1
  have hp : fS_api_Gate.p _ (_ : List Value) (⟨y0, y1⟩ : S_api_Gate) := fp_cons h0 (fp_last (by rw [hl]; rfl) h1)
  rw [List.drop_zero] at hp
  exact ⟨_, hp, k0, k1⟩⟩
theorem ud26 : Tryd.prog.underlying 26 = some (.slice 115) := by kernel_rfl
theorem opn26 : Opn Tryd.prog 26 (fSl fS_api_Gate) (AllOk okS_api_Gate) := opn_slice ud26 ce26 opn115
def okS_api_Net (x : S_api_Net) : Prop := (AllOk (fun s => s.size ≤ maxLen)) x.Stations ∧ (AllOk okS_api_Section) x.Sections ∧ (AllOk okS_api_Link) x.Links ∧ (AllOk okS_api_Signal) x.Signals ∧ (AllOk okS_api_Gate) x.Gates
theorem fs28 : tyFs Tryd.prog 28 = some [(22, 0), (23, 1), (24, 2), (25, 3), (26, 4)] := by kernel_rfl
theorem opn28 : Opn Tryd.prog 28 fS_api_Net okS_api_Net := ⟨ce28, by decide, fun h => by
  obtain ⟨hl, n, hf⟩ := trod_fs fs28 h
  rw [ce28] at hl
  obtain ⟨_, h0⟩ := hf (22, 0) (by decide)
  obtain ⟨y0, h0, k0⟩ := opn22.go h0
  simp only [ce22] at h0
  obtain ⟨_, h1⟩ := hf (23, 1) (by decide)
  obtain ⟨y1, h1, k1⟩ := opn23.go h1
  simp only [ce23] at h1
  obtain ⟨_, h2⟩ := hf (24, 2) (by decide)
  obtain ⟨y2, h2, k2⟩ := opn24.go h2
  simp only [ce24] at h2
  obtain ⟨_, h3⟩ := hf (25, 3) (by decide)
  obtain ⟨y3, h3, k3⟩ := opn25.go h3
  simp only [ce25] at h3
  obtain ⟨_, h4⟩ := hf (26, 4) (by decide)
  obtain ⟨y4, h4, k4⟩ := opn26.go h4
  simp only [ce26] at h4
  have hp : fS_api_Net.p _ (_ : List Value) (⟨y0, y1, y2, y3, y4⟩ : S_api_Net) := fp_cons h0 (fp_cons h1 (fp_cons h2 (fp_cons h3 (fp_last (by rw [hl]; rfl) h4))))
  rw [List.drop_zero] at hp
  exact ⟨_, hp, k0, k1, k2, k3, k4⟩⟩
theorem laid : laidOutB Tryd.prog = true := by kernel_rfl
theorem own : ownKnob Tryd.prog.godebug = none := by kernel_rfl
theorem pars : Tryd.f5.params = #[28] := rfl
theorem rr28 : Tryd.prog.readableRec 28 = true := by kernel_rfl
theorem rs28 : (28 : TypeId) < Tryd.prog.types.size := of_decide_eq_true (by kernel_rfl)
def LineRunsLaw : Prop := ∀ (x0 : S_api_Net), okS_api_Net x0 → fishkeep1_LineRuns x0 = some true
theorem contract (law : LineRunsLaw) (H : Type) (enc : TypeId × Value → H) (W : World) (base : Nat) (args : Array Value) (ds gs : List (DataW H)) (before : List MemPlace)
    (hval : ∀ (j : Nat) t v, Tryd.f5.params[j]? = some t → args[j]? = some v → Value.okWide Tryd.prog W .any base t v)
    (hW : DataW.Whole enc Tryd.prog Tryd.f5.params.toList Rows.lineRunsSpec.vars false W args.toList ds gs before) :
    Calls Tryd.prog 5 args W fun e W' => ∃ v, e = .returned v ∧ Rows.lineRunsSpec.post enc Tryd.prog Tryd.f5 false true false false W args v W' := by
  have hW0 := hW
  obtain ⟨p, q, hA, hV, rfl, hfz, hnd⟩ := hW
  rw [pars] at hA hval
  obtain ⟨v0, vs0, d0, ds0, p0, q0, e0, g0, b0, h0, r0⟩ := trodAll_cons hA
  obtain ⟨z1, z2, z3⟩ := trodAll_nil r0
  subst z1 z2
  subst g0
  obtain rfl : args = #[v0] := by cases args; simp_all
  have hgs : gs = [] := by cases gs with | nil => rfl | cons g l => exact hV.elim
  subst hgs
  have ok0 := hval 0 28 v0 rfl rfl
  obtain ⟨fu0, h0⟩ := h0
  obtain ⟨x0, h0, k0⟩ := opn28.go h0
  obtain ⟨cs0, rfl⟩ := okWide_agg fs28 ok0
  replace h0 : fS_api_Net.p (wh W) cs0.toList x0 := h0
  have hlaw := law x0 k0
  refine (root_calls (B := tab) (vs := [.dat (.st 4)]) fishkeep1_LineRuns.H (W := W) (p := (x0, ())) hlaw ⟨⟨cs0.toList, by simp, cellsOf_ok (B := tab) (t := (.st 4)) (by kernel_rfl) h0⟩, trivial⟩).mono fun e W' he => ?_
  obtain ⟨v, f', rfl, hle, rfl, hw⟩ := he
  exact ⟨_, rfl, post_of_wd hW0 laid (by rw [pars]; intro t ht; simp only [List.mem_cons, List.not_mem_nil, or_false] at ht; rcases ht with rfl; all_goals first | exact ⟨rr28, rs28⟩) rfl rfl rfl ud4 hle hw⟩
def pinV : DataW Unit → Value
  | .lit (.int k n) => .int k n
  | _ => Go.undef
def pinO (d : DataW Unit) : Obj → Obj
  | .cells c t fr => match d with
    | .agg l => .cells (l.map pinV).toArray t fr
    | _ => .cells c t fr
  | x => x
noncomputable def startW (os : Os) : World := { World.doorLaid Tryd.prog 700 os with heap := ((World.doorLaid Tryd.prog 700 os).heap.modify ((Tryd.prog.globalNamed "unicode/utf8.first").getD 0) (pinO Rows.laid_unicode_utf8_first)) }
set_option maxRecDepth 100000 in
theorem met (os : Os) (args : Array Value) : laidMetH Tryd.prog Rows.lineRunsRow.laid ((startW os).forCall (fun _ _ => 0) ⟨#[], args, []⟩).memory :=
  laidMetH_of_parts (laidMet_of_run' 12 (by kernel_rfl) (by kernel_rfl)) (by kernel_rfl)
set_option maxRecDepth 100000 in
theorem lifted (law : LineRunsLaw) (os : Os) (started : os.Started) (H : Type) (enc : TypeId × Value → H) :
    ReturnsInHanded {} Tryd.checked os 5 .any (fun w args => (Rows.lineRunsSpec.pre enc Tryd.prog Tryd.f5 [] false w args ∧ laidMetH Tryd.prog Rows.lineRunsRow.laid w) ∧ sizedMet enc Tryd.prog Tryd.f5 (OpenSpec.ofChange Rows.lineRunsSpec) false w args)
      (Rows.lineRunsSpec.post enc Tryd.prog Tryd.f5 false true false false) := by
  refine returnsInHanded_of_change_and (C := Tryd.checked) (X := fun w _ => laidMetH Tryd.prog Rows.lineRunsRow.laid w) (fun _ _ _ hh h => h.of_heap hh) own started (by kernel_rfl) Tryd.func5
    (ChangeSpec.witness_shaped (enc := enc) (C := Tryd.checked) (os := os) (X := fun w _ => laidMetH Tryd.prog Rows.lineRunsRow.laid w) false (startW os) #[(.agg #[(.slice none 0 0), (.slice none 0 0), (.slice none 0 0), (.slice none 0 0), (.slice none 0 0)])] 8 rfl (World.shaped_of_RefB (by kernel_rfl) (by kernel_rfl)) (by kernel_rfl) (by kernel_rfl) (by kernel_rfl) (met os _)) ?_
  intro W base args ds gs before hval hW _ hwt hX _
  exact contract law H enc W base args ds gs before hval hW
theorem said (law : LineRunsLaw) : Rows.LineRunsSaid :=
  OpenClaim.holds_of_wide 5 Tryd.f5 rfl rfl rfl rfl rfl rfl rfl ⟨rfl, rfl, rfl, rfl, rfl⟩ rfl rfl rfl rfl rfl (by kernel_rfl) Tryd.func5 (by kernel_rfl)
    (of_decide_eq_true (by kernel_rfl)) (by unfold Func.isWrapper; first | (rw [if_pos (by decide +kernel)]; kernel_rfl) | (rw [if_neg (by decide +kernel)]; exact ⟨rfl, rfl⟩))
    (fun os started H enc _ => lifted law os started H enc)
theorem ws28 : Tryd.prog.wantsStandIn 28 = false := by kernel_rfl
theorem close (law : LineRunsLaw) : Rows.LineRunsCardSaid :=
  Claim7.holds_tied_plain_at .later [] [.data, .data, .data, .data, .sentinel, .sentinel, .pinned] true (true, "2424766e35e1da6b97e4d822a18393bc1a437a8ac12c0a14beb017df04be70b4") true
    (said law) (fun _ h => by cases h) (by kernel_rfl) (fun _ h => by cases h) lineRuns_row_tie rfl ⟨rfl, rfl⟩ (by kernel_rfl) rfl
    (fun f fn hf hfn => by
      obtain rfl : f = 5 := Option.some.inj ((show Tryd.prog.funcNamed "fishplate/fishkeep1.LineRuns" = some 5 by kernel_rfl).symm.trans hf) |>.symm
      obtain rfl : fn = Tryd.f5 := (Option.some.inj (Tryd.func5.symm.trans hfn)).symm
      exact ⟨by kernel_rfl, fun j t ht => by
        rw [pars] at ht
        have hm := List.mem_of_getElem? (l := [28]) (by simpa using ht)
        simp only [List.mem_cons, List.not_mem_nil, or_false] at hm
        rcases hm with rfl
        all_goals first | exact ws28⟩)
    (by kernel_rfl)
end Go.Proofs.YtoamdmkakblnnaaDoor.LineRuns
