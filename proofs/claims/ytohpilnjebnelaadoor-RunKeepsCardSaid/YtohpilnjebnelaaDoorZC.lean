/- RunKeeps: the card follows from the plain law RunKeepsLaw. Printed by a tool. -/
import Derived.Test.YtohpilnjebnelaaDoorZa
import Derived.Test.YtohpilnjebnelaaDoorK5
import Derived.Test.YtohpilnjebnelaaDoorRows
import Derived.Test.YtohpilnjebnelaaDoorTie
import Derived.Test.YtohpilnjebnelaaDoorCards
import Derived.JoinedCond
import Derived.LaidMore
import Derived.LaidLaws
import Derived.LaidHandle
import Derived.OpenShut
import Derived.Stop.Joined
import Derived.SevenTiedAt
set_option linter.unusedVariables false
set_option linter.unusedSimpArgs false
set_option maxRecDepth 20000
set_option maxHeartbeats 2000000
namespace Go.Proofs.YtohpilnjebnelaaDoor.RunKeeps
open Hk Hd Go.ChangeShapes Go.WideShapes Go.ChangeAt Go.RowKit
theorem ce23 : Tryd.prog.cellsOf 23 = 10 := by kernel_rfl
theorem ce9 : Tryd.prog.cellsOf 9 = 1 := by kernel_rfl
theorem ud9 : Tryd.prog.underlying 9 = some .string := by kernel_rfl
theorem opn9 : Opn Tryd.prog 9 fStr (fun s => s.size ≤ maxLen) := opn_str ud9 ce9
theorem ce3 : Tryd.prog.cellsOf 3 = 1 := by kernel_rfl
theorem ud3 : Tryd.prog.underlying 3 = some (.int .i64) := by kernel_rfl
theorem opn3 : Opn Tryd.prog 3 (fInt .i64) I64 := opn_int ud3 ce3
def okS_api_Stock (x : S_api_Stock) : Prop := (fun s => s.size ≤ maxLen) x.Name ∧ I64 x.Length ∧ I64 x.Mass ∧ I64 x.Start ∧ I64 x.Power ∧ I64 x.Roll ∧ I64 x.Drag ∧ I64 x.Brake ∧ I64 x.Top ∧ I64 x.Seats
theorem fs23 : tyFs Tryd.prog 23 = some [(9, 0), (3, 1), (3, 2), (3, 3), (3, 4), (3, 5), (3, 6), (3, 7), (3, 8), (3, 9)] := by kernel_rfl
theorem opn23 : Opn Tryd.prog 23 fS_api_Stock okS_api_Stock := ⟨ce23, by decide, fun h => by
  obtain ⟨hl, n, hf⟩ := trod_fs fs23 h
  rw [ce23] at hl
  obtain ⟨_, h0⟩ := hf (9, 0) (by decide)
  obtain ⟨y0, h0, k0⟩ := opn9.go h0
  simp only [ce9] at h0
  obtain ⟨_, h1⟩ := hf (3, 1) (by decide)
  obtain ⟨y1, h1, k1⟩ := opn3.go h1
  simp only [ce3] at h1
  obtain ⟨_, h2⟩ := hf (3, 2) (by decide)
  obtain ⟨y2, h2, k2⟩ := opn3.go h2
  simp only [ce3] at h2
  obtain ⟨_, h3⟩ := hf (3, 3) (by decide)
  obtain ⟨y3, h3, k3⟩ := opn3.go h3
  simp only [ce3] at h3
  obtain ⟨_, h4⟩ := hf (3, 4) (by decide)
  obtain ⟨y4, h4, k4⟩ := opn3.go h4
  simp only [ce3] at h4
  obtain ⟨_, h5⟩ := hf (3, 5) (by decide)
  obtain ⟨y5, h5, k5⟩ := opn3.go h5
  simp only [ce3] at h5
  obtain ⟨_, h6⟩ := hf (3, 6) (by decide)
  obtain ⟨y6, h6, k6⟩ := opn3.go h6
  simp only [ce3] at h6
  obtain ⟨_, h7⟩ := hf (3, 7) (by decide)
  obtain ⟨y7, h7, k7⟩ := opn3.go h7
  simp only [ce3] at h7
  obtain ⟨_, h8⟩ := hf (3, 8) (by decide)
  obtain ⟨y8, h8, k8⟩ := opn3.go h8
  simp only [ce3] at h8
  obtain ⟨_, h9⟩ := hf (3, 9) (by decide)
  obtain ⟨y9, h9, k9⟩ := opn3.go h9
  simp only [ce3] at h9
  have hp : fS_api_Stock.p _ (_ : List Value) (⟨y0, y1, y2, y3, y4, y5, y6, y7, y8, y9⟩ : S_api_Stock) := fp_cons h0 (fp_cons h1 (fp_cons h2 (fp_cons h3 (fp_cons h4 (fp_cons h5 (fp_cons h6 (fp_cons h7 (fp_cons h8 (fp_last (by rw [hl]; rfl) h9)))))))))
  rw [List.drop_zero] at hp
  exact ⟨_, hp, k0, k1, k2, k3, k4, k5, k6, k7, k8, k9⟩⟩
theorem ce47 : Tryd.prog.cellsOf 47 = 1 := by kernel_rfl
theorem ce72 : Tryd.prog.cellsOf 72 = 3 := by kernel_rfl
def okS_api_Piece (x : S_api_Piece) : Prop := I64 x.Length ∧ I64 x.Grade ∧ I64 x.Speed
theorem fs72 : tyFs Tryd.prog 72 = some [(3, 0), (3, 1), (3, 2)] := by kernel_rfl
theorem opn72 : Opn Tryd.prog 72 fS_api_Piece okS_api_Piece := ⟨ce72, by decide, fun h => by
  obtain ⟨hl, n, hf⟩ := trod_fs fs72 h
  rw [ce72] at hl
  obtain ⟨_, h0⟩ := hf (3, 0) (by decide)
  obtain ⟨y0, h0, k0⟩ := opn3.go h0
  simp only [ce3] at h0
  obtain ⟨_, h1⟩ := hf (3, 1) (by decide)
  obtain ⟨y1, h1, k1⟩ := opn3.go h1
  simp only [ce3] at h1
  obtain ⟨_, h2⟩ := hf (3, 2) (by decide)
  obtain ⟨y2, h2, k2⟩ := opn3.go h2
  simp only [ce3] at h2
  have hp : fS_api_Piece.p _ (_ : List Value) (⟨y0, y1, y2⟩ : S_api_Piece) := fp_cons h0 (fp_cons h1 (fp_last (by rw [hl]; rfl) h2))
  rw [List.drop_zero] at hp
  exact ⟨_, hp, k0, k1, k2⟩⟩
theorem ud47 : Tryd.prog.underlying 47 = some (.slice 72) := by kernel_rfl
theorem opn47 : Opn Tryd.prog 47 (fSl fS_api_Piece) (AllOk okS_api_Piece) := opn_slice ud47 ce47 opn72
theorem ud4 : Tryd.prog.underlying 4 = some .bool := by kernel_rfl
theorem laid : laidOutB Tryd.prog = true := by kernel_rfl
theorem own : ownKnob Tryd.prog.godebug = none := by kernel_rfl
theorem pars : Tryd.f7.params = #[23, 47, 3, 3] := rfl
theorem rr3 : Tryd.prog.readableRec 3 = true := by kernel_rfl
theorem rs3 : (3 : TypeId) < Tryd.prog.types.size := of_decide_eq_true (by kernel_rfl)
theorem rr23 : Tryd.prog.readableRec 23 = true := by kernel_rfl
theorem rs23 : (23 : TypeId) < Tryd.prog.types.size := of_decide_eq_true (by kernel_rfl)
theorem rr47 : Tryd.prog.readableRec 47 = true := by kernel_rfl
theorem rs47 : (47 : TypeId) < Tryd.prog.types.size := of_decide_eq_true (by kernel_rfl)
def RunKeepsLaw : Prop := ∀ (x0 : S_api_Stock) (x1 : List S_api_Piece) (x2 : Int) (x3 : Int), okS_api_Stock x0 → (AllOk okS_api_Piece) x1 → I64 x2 → I64 x3 → fishkeep1_RunKeeps x0 x1 x2 x3 = some true
theorem contract (law : RunKeepsLaw) (H : Type) (enc : TypeId × Value → H) (W : World) (base : Nat) (args : Array Value) (ds gs : List (DataW H)) (before : List MemPlace)
    (hval : ∀ (j : Nat) t v, Tryd.f7.params[j]? = some t → args[j]? = some v → Value.okWide Tryd.prog W .any base t v)
    (hW : DataW.Whole enc Tryd.prog Tryd.f7.params.toList Rows.runKeepsSpec.vars false W args.toList ds gs before) :
    Calls Tryd.prog 7 args W fun e W' => ∃ v, e = .returned v ∧ Rows.runKeepsSpec.post enc Tryd.prog Tryd.f7 false true false false W args v W' := by
  have hW0 := hW
  obtain ⟨p, q, hA, hV, rfl, hfz, hnd⟩ := hW
  rw [pars] at hA hval
  obtain ⟨v0, vs0, d0, ds0, p0, q0, e0, g0, b0, h0, r0⟩ := trodAll_cons hA
  obtain ⟨v1, vs1, d1, ds1, p1, q1, e1, g1, b1, h1, r1⟩ := trodAll_cons r0
  obtain ⟨v2, vs2, d2, ds2, p2, q2, e2, g2, b2, h2, r2⟩ := trodAll_cons r1
  obtain ⟨v3, vs3, d3, ds3, p3, q3, e3, g3, b3, h3, r3⟩ := trodAll_cons r2
  obtain ⟨z1, z2, z3⟩ := trodAll_nil r3
  subst z1 z2
  subst e3 g3
  subst e2 g2
  subst e1 g1
  subst g0
  obtain rfl : args = #[v0, v1, v2, v3] := by cases args; simp_all
  have hgs : gs = [] := by cases gs with | nil => rfl | cons g l => exact hV.elim
  subst hgs
  have ok0 := hval 0 23 v0 rfl rfl
  obtain ⟨fu0, h0⟩ := h0
  obtain ⟨x0, h0, k0⟩ := opn23.go h0
  obtain ⟨cs0, rfl⟩ := okWide_agg fs23 ok0
  replace h0 : fS_api_Stock.p (wh W) cs0.toList x0 := h0
  have ok1 := hval 1 47 v1 rfl rfl
  obtain ⟨fu1, h1⟩ := h1
  obtain ⟨x1, h1, k1⟩ := opn47.go h1
  obtain ⟨A1, n1, c1, hc1, hs1⟩ := h1
  obtain rfl := okWide_sl ud47 ok1 hc1
  have ok2 := hval 2 3 v2 rfl rfl
  obtain ⟨fu2, h2⟩ := h2
  obtain ⟨x2, h2, k2⟩ := opn3.go h2
  obtain rfl := okWide_i ud3 ok2 h2
  have ok3 := hval 3 3 v3 rfl rfl
  obtain ⟨fu3, h3⟩ := h3
  obtain ⟨x3, h3, k3⟩ := opn3.go h3
  obtain rfl := okWide_i ud3 ok3 h3
  have hlaw := law x0 x1 x2 x3 k0 k1 k2 k3
  refine (root_calls (B := tab) (vs := [.dat (.st 0), .one (.d (.sl (.st 1))), .one (.d (.int .i64)), .one (.d (.int .i64))]) fishkeep1_RunKeeps.H (W := W) (p := (x0, x1, x2, x3, ())) hlaw ⟨⟨cs0.toList, by simp, cellsOf_ok (B := tab) (t := (.st 0)) (by kernel_rfl) h0⟩, ⟨A1, n1, c1, rfl, hs1⟩, (by exact rfl), (by exact rfl), trivial⟩).mono fun e W' he => ?_
  obtain ⟨v, f', rfl, hle, rfl, hw⟩ := he
  exact ⟨_, rfl, post_of_wd hW0 laid (by rw [pars]; intro t ht; simp only [List.mem_cons, List.not_mem_nil, or_false] at ht; rcases ht with rfl | rfl | rfl | rfl; all_goals first | exact ⟨rr3, rs3⟩ | exact ⟨rr23, rs23⟩ | exact ⟨rr47, rs47⟩) rfl rfl rfl ud4 hle hw⟩
def pinV : DataW Unit → Value
  | .lit (.int k n) => .int k n
  | _ => Go.undef
def pinO (d : DataW Unit) : Obj → Obj
  | .cells c t fr => match d with
    | .agg l => .cells (l.map pinV).toArray t fr
    | _ => .cells c t fr
  | x => x
noncomputable def startW (os : Os) : World := { World.doorLaid Tryd.prog 700 os with heap := ((World.doorLaid Tryd.prog 700 os).heap.modify ((Tryd.prog.globalNamed "unicode/utf8.first").getD 0) (pinO Rows.laid_unicode_utf8_first)) }
set_option maxRecDepth 100000 in
theorem met (os : Os) (args : Array Value) : laidMetH Tryd.prog Rows.runKeepsRow.laid ((startW os).forCall (fun _ _ => 0) ⟨#[], args, []⟩).memory :=
  laidMetH_of_parts (laidMet_of_run' 12 (by kernel_rfl) (by kernel_rfl)) (by kernel_rfl)
set_option maxRecDepth 100000 in
theorem lifted (law : RunKeepsLaw) (os : Os) (started : os.Started) (H : Type) (enc : TypeId × Value → H) :
    ReturnsInHanded {} Tryd.checked os 7 .any (fun w args => (Rows.runKeepsSpec.pre enc Tryd.prog Tryd.f7 [] false w args ∧ laidMetH Tryd.prog Rows.runKeepsRow.laid w) ∧ sizedMet enc Tryd.prog Tryd.f7 (OpenSpec.ofChange Rows.runKeepsSpec) false w args)
      (Rows.runKeepsSpec.post enc Tryd.prog Tryd.f7 false true false false) := by
  refine returnsInHanded_of_change_and (C := Tryd.checked) (X := fun w _ => laidMetH Tryd.prog Rows.runKeepsRow.laid w) (fun _ _ _ hh h => h.of_heap hh) own started (by kernel_rfl) Tryd.func7
    (ChangeSpec.witness_shaped (enc := enc) (C := Tryd.checked) (os := os) (X := fun w _ => laidMetH Tryd.prog Rows.runKeepsRow.laid w) false (startW os) #[(.agg #[(.string ⟨#[]⟩), (.int .i64 0), (.int .i64 0), (.int .i64 0), (.int .i64 0), (.int .i64 0), (.int .i64 0), (.int .i64 0), (.int .i64 0), (.int .i64 0)]), (.slice none 0 0), (.int .i64 0), (.int .i64 0)] 8 rfl (World.shaped_of_RefB (by kernel_rfl) (by kernel_rfl)) (by kernel_rfl) (by kernel_rfl) (by kernel_rfl) (met os _)) ?_
  intro W base args ds gs before hval hW _ hwt _ _
  exact contract law H enc W base args ds gs before hval hW
theorem said (law : RunKeepsLaw) : Rows.RunKeepsSaid :=
  OpenClaim.holds_of_wide 7 Tryd.f7 rfl rfl rfl rfl rfl rfl rfl ⟨rfl, rfl, rfl, rfl, rfl⟩ rfl rfl rfl rfl rfl (by kernel_rfl) Tryd.func7 (by kernel_rfl)
    (of_decide_eq_true (by kernel_rfl)) (by unfold Func.isWrapper; first | (rw [if_pos (by decide +kernel)]; kernel_rfl) | (rw [if_neg (by decide +kernel)]; exact ⟨rfl, rfl⟩))
    (fun os started H enc _ => lifted law os started H enc)
theorem ws3 : Tryd.prog.wantsStandIn 3 = false := by kernel_rfl
theorem ws23 : Tryd.prog.wantsStandIn 23 = false := by kernel_rfl
theorem ws47 : Tryd.prog.wantsStandIn 47 = false := by kernel_rfl
theorem close (law : RunKeepsLaw) : Rows.RunKeepsCardSaid :=
  Claim7.holds_tied_plain_at .later [] [.data, .data, .data, .data, .sentinel, .sentinel, .pinned] true (true, "7c58d727ffb5e7b0d03aad5744ba21dd0618801c1c2cacf51a3e5ff38e52408f") true
    (said law) (fun _ h => by cases h) (by kernel_rfl) (fun _ h => by cases h) runKeeps_row_tie rfl ⟨rfl, rfl⟩ (by kernel_rfl) rfl
    (fun f fn hf hfn => by
      obtain rfl : f = 7 := Option.some.inj ((show Tryd.prog.funcNamed "fishplate/fishkeep1.RunKeeps" = some 7 by kernel_rfl).symm.trans hf) |>.symm
      obtain rfl : fn = Tryd.f7 := (Option.some.inj (Tryd.func7.symm.trans hfn)).symm
      exact ⟨by kernel_rfl, fun j t ht => by
        rw [pars] at ht
        have hm := List.mem_of_getElem? (l := [23, 47, 3, 3]) (by simpa using ht)
        simp only [List.mem_cons, List.not_mem_nil, or_false] at hm
        rcases hm with rfl | rfl | rfl | rfl
        all_goals first | exact ws3 | exact ws23 | exact ws47⟩)
    (by kernel_rfl)
end Go.Proofs.YtohpilnjebnelaaDoor.RunKeeps
