/- RunApart: the card follows from the plain law RunApartLaw. Printed by a tool. -/
import Derived.Test.YtohpilnjebnelaaDoorZa
import Derived.Test.YtohpilnjebnelaaDoorK5
import Derived.Test.YtohpilnjebnelaaDoorG1
import Derived.Test.YtohpilnjebnelaaDoorRows
import Derived.Test.YtohpilnjebnelaaDoorTie
import Derived.Test.YtohpilnjebnelaaDoorCards
import Derived.JoinedCond
import Derived.LaidMore
import Derived.LaidLaws
import Derived.LaidHandle
import Derived.OpenShut
import Derived.Stop.Joined
import Derived.SevenTiedAt
set_option linter.unusedVariables false
set_option linter.unusedSimpArgs false
set_option maxRecDepth 20000
set_option maxHeartbeats 2000000
namespace Go.Proofs.YtohpilnjebnelaaDoor.RunApart
open Hk Hd Go.ChangeShapes Go.WideShapes Go.ChangeAt Go.RowKit
theorem ce31 : Tryd.prog.cellsOf 31 = 1 := by kernel_rfl
theorem ce36 : Tryd.prog.cellsOf 36 = 6 := by kernel_rfl
theorem ce34 : Tryd.prog.cellsOf 34 = 4 := by kernel_rfl
theorem ce3 : Tryd.prog.cellsOf 3 = 1 := by kernel_rfl
theorem ud3 : Tryd.prog.underlying 3 = some (.int .i64) := by kernel_rfl
theorem opn3 : Opn Tryd.prog 3 (fInt .i64) I64 := opn_int ud3 ce3
def okS_api_Need (x : S_api_Need) : Prop := I64 x.Kind ∧ I64 x.Place ∧ I64 x.Position ∧ I64 x.At
theorem fs34 : tyFs Tryd.prog 34 = some [(3, 0), (3, 1), (3, 2), (3, 3)] := by kernel_rfl
theorem opn34 : Opn Tryd.prog 34 fS_api_Need okS_api_Need := ⟨ce34, by decide, fun h => by
  obtain ⟨hl, n, hf⟩ := trod_fs fs34 h
  rw [ce34] at hl
  obtain ⟨_, h0⟩ := hf (3, 0) (by decide)
  obtain ⟨y0, h0, k0⟩ := opn3.go h0
  simp only [ce3] at h0
  obtain ⟨_, h1⟩ := hf (3, 1) (by decide)
  obtain ⟨y1, h1, k1⟩ := opn3.go h1
  simp only [ce3] at h1
  obtain ⟨_, h2⟩ := hf (3, 2) (by decide)
  obtain ⟨y2, h2, k2⟩ := opn3.go h2
  simp only [ce3] at h2
  obtain ⟨_, h3⟩ := hf (3, 3) (by decide)
  obtain ⟨y3, h3, k3⟩ := opn3.go h3
  simp only [ce3] at h3
  have hp : fS_api_Need.p _ (_ : List Value) (⟨y0, y1, y2, y3⟩ : S_api_Need) := fp_cons h0 (fp_cons h1 (fp_cons h2 (fp_last (by rw [hl]; rfl) h3)))
  rw [List.drop_zero] at hp
  exact ⟨_, hp, k0, k1, k2, k3⟩⟩
def okS_api_Hold (x : S_api_Hold) : Prop := okS_api_Need x.Need ∧ I64 x.From ∧ I64 x.To
theorem fs36 : tyFs Tryd.prog 36 = some [(34, 0), (3, 4), (3, 5)] := by kernel_rfl
theorem opn36 : Opn Tryd.prog 36 fS_api_Hold okS_api_Hold := ⟨ce36, by decide, fun h => by
  obtain ⟨hl, n, hf⟩ := trod_fs fs36 h
  rw [ce36] at hl
  obtain ⟨_, h0⟩ := hf (34, 0) (by decide)
  obtain ⟨y0, h0, k0⟩ := opn34.go h0
  simp only [ce34] at h0
  obtain ⟨_, h1⟩ := hf (3, 4) (by decide)
  obtain ⟨y1, h1, k1⟩ := opn3.go h1
  simp only [ce3] at h1
  obtain ⟨_, h2⟩ := hf (3, 5) (by decide)
  obtain ⟨y2, h2, k2⟩ := opn3.go h2
  simp only [ce3] at h2
  have hp : fS_api_Hold.p _ (_ : List Value) (⟨y0, y1, y2⟩ : S_api_Hold) := fp_cons h0 (fp_cons h1 (fp_last (by rw [hl]; rfl) h2))
  rw [List.drop_zero] at hp
  exact ⟨_, hp, k0, k1, k2⟩⟩
theorem ud31 : Tryd.prog.underlying 31 = some (.slice 36) := by kernel_rfl
theorem opn31 : Opn Tryd.prog 31 (fSl fS_api_Hold) (AllOk okS_api_Hold) := opn_slice ud31 ce31 opn36
theorem ud4 : Tryd.prog.underlying 4 = some .bool := by kernel_rfl
theorem laid : laidOutB Tryd.prog = true := by kernel_rfl
theorem own : ownKnob Tryd.prog.godebug = none := by kernel_rfl
theorem pars : Tryd.f4.params = #[31, 31, 3] := rfl
theorem rr3 : Tryd.prog.readableRec 3 = true := by kernel_rfl
theorem rs3 : (3 : TypeId) < Tryd.prog.types.size := of_decide_eq_true (by kernel_rfl)
theorem rr31 : Tryd.prog.readableRec 31 = true := by kernel_rfl
theorem rs31 : (31 : TypeId) < Tryd.prog.types.size := of_decide_eq_true (by kernel_rfl)
def RunApartLaw : Prop := ∀ (x0 : List S_api_Hold) (x1 : List S_api_Hold) (x2 : Int), (AllOk okS_api_Hold) x0 → (AllOk okS_api_Hold) x1 → I64 x2 → x0.length * 48 ≤ 140737488351232 → x1.length * 48 ≤ 140737488351232 → fishkeep1_RunApart x0 x1 x2 = some true
theorem bw0 : Tryd.prog.bytesOf 36 = 48 := by kernel_rfl
theorem bw1 : Tryd.prog.bytesOf 36 = 48 := by kernel_rfl
theorem contract (law : RunApartLaw) (H : Type) (enc : TypeId × Value → H) (W : World) (base : Nat) (args : Array Value) (ds gs : List (DataW H)) (before : List MemPlace)
    (hval : ∀ (j : Nat) t v, Tryd.f4.params[j]? = some t → args[j]? = some v → Value.okWide Tryd.prog W .any base t v)
    (hW : DataW.Whole enc Tryd.prog Tryd.f4.params.toList Rows.runApartSpec.vars false W args.toList ds gs before) (hwt : (DataW.weightsEach Tryd.prog (Tryd.f4.params.toList ++ Rows.runApartSpec.plain.varTypes Tryd.prog) (ds ++ gs)).all (· ≤ reachBytes) = true) :
    Calls Tryd.prog 4 args W fun e W' => ∃ v, e = .returned v ∧ Rows.runApartSpec.post enc Tryd.prog Tryd.f4 false true false false W args v W' := by
  have hW0 := hW
  obtain ⟨p, q, hA, hV, rfl, hfz, hnd⟩ := hW
  rw [pars] at hA hval
  obtain ⟨v0, vs0, d0, ds0, p0, q0, e0, g0, b0, h0, r0⟩ := trodAll_cons hA
  obtain ⟨v1, vs1, d1, ds1, p1, q1, e1, g1, b1, h1, r1⟩ := trodAll_cons r0
  obtain ⟨v2, vs2, d2, ds2, p2, q2, e2, g2, b2, h2, r2⟩ := trodAll_cons r1
  obtain ⟨z1, z2, z3⟩ := trodAll_nil r2
  subst z1 z2
  subst e2 g2
  subst e1 g1
  subst g0
  obtain rfl : args = #[v0, v1, v2] := by cases args; simp_all
  have hgs : gs = [] := by cases gs with | nil => rfl | cons g l => exact hV.elim
  subst hgs
  have hwt' : (DataW.weightsEach Tryd.prog [31, 31, 3] [d0, d1, d2]).all (· ≤ reachBytes) = true := hwt
  simp only [DataW.weightsEach, List.all_append, Bool.and_eq_true] at hwt'
  have wz0 := hwt'.1
  have wz1 := hwt'.2.1
  have ok0 := hval 0 31 v0 rfl rfl
  obtain ⟨fu0, h0⟩ := h0
  have tr0 := h0
  obtain ⟨x0, h0, k0⟩ := opn31.go h0
  obtain ⟨A0, n0, c0, hc0, hs0⟩ := h0
  have wt0 := wt_len ud31 bw0 tr0 wz0 hc0
  rw [hs0.len] at wt0
  obtain rfl := okWide_sl ud31 ok0 hc0
  have ok1 := hval 1 31 v1 rfl rfl
  obtain ⟨fu1, h1⟩ := h1
  have tr1 := h1
  obtain ⟨x1, h1, k1⟩ := opn31.go h1
  obtain ⟨A1, n1, c1, hc1, hs1⟩ := h1
  have wt1 := wt_len ud31 bw1 tr1 wz1 hc1
  rw [hs1.len] at wt1
  obtain rfl := okWide_sl ud31 ok1 hc1
  have ok2 := hval 2 3 v2 rfl rfl
  obtain ⟨fu2, h2⟩ := h2
  obtain ⟨x2, h2, k2⟩ := opn3.go h2
  obtain rfl := okWide_i ud3 ok2 h2
  have hlaw := law x0 x1 x2 k0 k1 k2 wt0 wt1
  refine (root_calls (B := tab) (vs := [.one (.d (.sl (.st 3))), .one (.d (.sl (.st 3))), .one (.d (.int .i64))]) fishkeep1_RunApart.H (W := W) (p := (x0, x1, x2, ())) hlaw ⟨⟨A0, n0, c0, rfl, hs0⟩, ⟨A1, n1, c1, rfl, hs1⟩, (by exact rfl), trivial⟩).mono fun e W' he => ?_
  obtain ⟨v, f', rfl, hle, rfl, hw⟩ := he
  exact ⟨_, rfl, post_of_wd hW0 laid (by rw [pars]; intro t ht; simp only [List.mem_cons, List.not_mem_nil, or_false] at ht; rcases ht with rfl | rfl | rfl; all_goals first | exact ⟨rr3, rs3⟩ | exact ⟨rr31, rs31⟩) rfl rfl rfl ud4 hle hw⟩
def pinV : DataW Unit → Value
  | .lit (.int k n) => .int k n
  | _ => Go.undef
def pinO (d : DataW Unit) : Obj → Obj
  | .cells c t fr => match d with
    | .agg l => .cells (l.map pinV).toArray t fr
    | _ => .cells c t fr
  | x => x
noncomputable def startW (os : Os) : World := { World.doorLaid Tryd.prog 700 os with heap := ((World.doorLaid Tryd.prog 700 os).heap.modify ((Tryd.prog.globalNamed "unicode/utf8.first").getD 0) (pinO Rows.laid_unicode_utf8_first)) }
set_option maxRecDepth 100000 in
theorem met (os : Os) (args : Array Value) : laidMetH Tryd.prog Rows.runApartRow.laid ((startW os).forCall (fun _ _ => 0) ⟨#[], args, []⟩).memory :=
  laidMetH_of_parts (laidMet_of_run' 12 (by kernel_rfl) (by kernel_rfl)) (by kernel_rfl)
set_option maxRecDepth 100000 in
theorem lifted (law : RunApartLaw) (os : Os) (started : os.Started) (H : Type) (enc : TypeId × Value → H) :
    ReturnsInHanded {} Tryd.checked os 4 .any (fun w args => (Rows.runApartSpec.pre enc Tryd.prog Tryd.f4 [] false w args ∧ laidMetH Tryd.prog Rows.runApartRow.laid w) ∧ sizedMet enc Tryd.prog Tryd.f4 (OpenSpec.ofChange Rows.runApartSpec) false w args)
      (Rows.runApartSpec.post enc Tryd.prog Tryd.f4 false true false false) := by
  refine returnsInHanded_of_change_and (C := Tryd.checked) (X := fun w _ => laidMetH Tryd.prog Rows.runApartRow.laid w) (fun _ _ _ hh h => h.of_heap hh) own started (by kernel_rfl) Tryd.func4
    (ChangeSpec.witness_shaped (enc := enc) (C := Tryd.checked) (os := os) (X := fun w _ => laidMetH Tryd.prog Rows.runApartRow.laid w) false (startW os) #[(.slice none 0 0), (.slice none 0 0), (.int .i64 0)] 8 rfl (World.shaped_of_RefB (by kernel_rfl) (by kernel_rfl)) (by kernel_rfl) (by kernel_rfl) (by kernel_rfl) (met os _)) ?_
  intro W base args ds gs before hval hW _ hwt _ _
  exact contract law H enc W base args ds gs before hval hW hwt
theorem said (law : RunApartLaw) : Rows.RunApartSaid :=
  OpenClaim.holds_of_wide 4 Tryd.f4 rfl rfl rfl rfl rfl rfl rfl ⟨rfl, rfl, rfl, rfl, rfl⟩ rfl rfl rfl rfl rfl (by kernel_rfl) Tryd.func4 (by kernel_rfl)
    (of_decide_eq_true (by kernel_rfl)) (by unfold Func.isWrapper; first | (rw [if_pos (by decide +kernel)]; kernel_rfl) | (rw [if_neg (by decide +kernel)]; exact ⟨rfl, rfl⟩))
    (fun os started H enc _ => lifted law os started H enc)
theorem ws3 : Tryd.prog.wantsStandIn 3 = false := by kernel_rfl
theorem ws31 : Tryd.prog.wantsStandIn 31 = false := by kernel_rfl
theorem close (law : RunApartLaw) : Rows.RunApartCardSaid :=
  Claim7.holds_tied_plain_at .later [] [.data, .data, .data, .data, .sentinel, .sentinel, .pinned] true (true, "7c58d727ffb5e7b0d03aad5744ba21dd0618801c1c2cacf51a3e5ff38e52408f") true
    (said law) (fun _ h => by cases h) (by kernel_rfl) (fun _ h => by cases h) runApart_row_tie rfl ⟨rfl, rfl⟩ (by kernel_rfl) rfl
    (fun f fn hf hfn => by
      obtain rfl : f = 4 := Option.some.inj ((show Tryd.prog.funcNamed "fishplate/fishkeep1.RunApart" = some 4 by kernel_rfl).symm.trans hf) |>.symm
      obtain rfl : fn = Tryd.f4 := (Option.some.inj (Tryd.func4.symm.trans hfn)).symm
      exact ⟨by kernel_rfl, fun j t ht => by
        rw [pars] at ht
        have hm := List.mem_of_getElem? (l := [31, 31, 3]) (by simpa using ht)
        simp only [List.mem_cons, List.not_mem_nil, or_false] at hm
        rcases hm with rfl | rfl | rfl
        all_goals first | exact ws3 | exact ws31⟩)
    (by kernel_rfl)
end Go.Proofs.YtohpilnjebnelaaDoor.RunApart
