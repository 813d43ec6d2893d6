/- GuardStops: the card follows from the plain law GuardStopsLaw. Printed by a tool. -/
import Derived.Test.YtgflagiblnkchaaDoorZa
import Derived.Test.YtgflagiblnkchaaDoorK5
import Derived.Stop.LaidErr
import Derived.LaidSub
import Derived.Test.YtgflagiblnkchaaDoorRows
import Derived.Test.YtgflagiblnkchaaDoorTie
import Derived.Test.YtgflagiblnkchaaDoorCards
import Derived.JoinedCond
import Derived.LaidMore
import Derived.LaidLaws
import Derived.LaidHandle
import Derived.OpenShut
import Derived.Stop.Joined
import Derived.SevenTiedAt
set_option linter.unusedVariables false
set_option linter.unusedSimpArgs false
set_option maxRecDepth 20000
set_option maxHeartbeats 2000000
namespace Go.Proofs.YtgflagiblnkchaaDoor.GuardStops
open Hk Hd Go.ChangeShapes Go.WideShapes Go.ChangeAt Go.RowKit
theorem ce59 : Tryd.prog.cellsOf 59 = 10 := by kernel_rfl
theorem ce9 : Tryd.prog.cellsOf 9 = 1 := by kernel_rfl
theorem ud9 : Tryd.prog.underlying 9 = some .string := by kernel_rfl
theorem opn9 : Opn Tryd.prog 9 fStr (fun s => s.size ≤ maxLen) := opn_str ud9 ce9
theorem ce3 : Tryd.prog.cellsOf 3 = 1 := by kernel_rfl
theorem ud3 : Tryd.prog.underlying 3 = some (.int .i64) := by kernel_rfl
theorem opn3 : Opn Tryd.prog 3 (fInt .i64) I64 := opn_int ud3 ce3
def okS_api_Stock (x : S_api_Stock) : Prop := (fun s => s.size ≤ maxLen) x.Name ∧ I64 x.Length ∧ I64 x.Mass ∧ I64 x.Start ∧ I64 x.Power ∧ I64 x.Roll ∧ I64 x.Drag ∧ I64 x.Brake ∧ I64 x.Top ∧ I64 x.Seats
theorem fs59 : tyFs Tryd.prog 59 = some [(9, 0), (3, 1), (3, 2), (3, 3), (3, 4), (3, 5), (3, 6), (3, 7), (3, 8), (3, 9)] := by kernel_rfl
theorem opn59 : Opn Tryd.prog 59 fS_api_Stock okS_api_Stock := ⟨ce59, by decide, fun h => by
  obtain ⟨hl, n, hf⟩ := trod_fs fs59 h
  rw [ce59] at hl
  obtain ⟨_, h0⟩ := hf (9, 0) (by decide)
  obtain ⟨y0, h0, k0⟩ := opn9.go h0
  simp only [ce9] at h0
  obtain ⟨_, h1⟩ := hf (3, 1) (by decide)
  obtain ⟨y1, h1, k1⟩ := opn3.go h1
  simp only [ce3] at h1
  obtain ⟨_, h2⟩ := hf (3, 2) (by decide)
  obtain ⟨y2, h2, k2⟩ := opn3.go h2
  simp only [ce3] at h2
  obtain ⟨_, h3⟩ := hf (3, 3) (by decide)
  obtain ⟨y3, h3, k3⟩ := opn3.go h3
  simp only [ce3] at h3
  obtain ⟨_, h4⟩ := hf (3, 4) (by decide)
  obtain ⟨y4, h4, k4⟩ := opn3.go h4
  simp only [ce3] at h4
  obtain ⟨_, h5⟩ := hf (3, 5) (by decide)
  obtain ⟨y5, h5, k5⟩ := opn3.go h5
  simp only [ce3] at h5
  obtain ⟨_, h6⟩ := hf (3, 6) (by decide)
  obtain ⟨y6, h6, k6⟩ := opn3.go h6
  simp only [ce3] at h6
  obtain ⟨_, h7⟩ := hf (3, 7) (by decide)
  obtain ⟨y7, h7, k7⟩ := opn3.go h7
  simp only [ce3] at h7
  obtain ⟨_, h8⟩ := hf (3, 8) (by decide)
  obtain ⟨y8, h8, k8⟩ := opn3.go h8
  simp only [ce3] at h8
  obtain ⟨_, h9⟩ := hf (3, 9) (by decide)
  obtain ⟨y9, h9, k9⟩ := opn3.go h9
  simp only [ce3] at h9
  have hp : fS_api_Stock.p _ (_ : List Value) (⟨y0, y1, y2, y3, y4, y5, y6, y7, y8, y9⟩ : S_api_Stock) := fp_cons h0 (fp_cons h1 (fp_cons h2 (fp_cons h3 (fp_cons h4 (fp_cons h5 (fp_cons h6 (fp_cons h7 (fp_cons h8 (fp_last (by rw [hl]; rfl) h9)))))))))
  rw [List.drop_zero] at hp
  exact ⟨_, hp, k0, k1, k2, k3, k4, k5, k6, k7, k8, k9⟩⟩
theorem ce60 : Tryd.prog.cellsOf 60 = 1 := by kernel_rfl
theorem ce69 : Tryd.prog.cellsOf 69 = 3 := by kernel_rfl
def okS_api_Piece (x : S_api_Piece) : Prop := I64 x.Length ∧ I64 x.Grade ∧ I64 x.Speed
theorem fs69 : tyFs Tryd.prog 69 = some [(3, 0), (3, 1), (3, 2)] := by kernel_rfl
theorem opn69 : Opn Tryd.prog 69 fS_api_Piece okS_api_Piece := ⟨ce69, by decide, fun h => by
  obtain ⟨hl, n, hf⟩ := trod_fs fs69 h
  rw [ce69] at hl
  obtain ⟨_, h0⟩ := hf (3, 0) (by decide)
  obtain ⟨y0, h0, k0⟩ := opn3.go h0
  simp only [ce3] at h0
  obtain ⟨_, h1⟩ := hf (3, 1) (by decide)
  obtain ⟨y1, h1, k1⟩ := opn3.go h1
  simp only [ce3] at h1
  obtain ⟨_, h2⟩ := hf (3, 2) (by decide)
  obtain ⟨y2, h2, k2⟩ := opn3.go h2
  simp only [ce3] at h2
  have hp : fS_api_Piece.p _ (_ : List Value) (⟨y0, y1, y2⟩ : S_api_Piece) := fp_cons h0 (fp_cons h1 (fp_last (by rw [hl]; rfl) h2))
  rw [List.drop_zero] at hp
  exact ⟨_, hp, k0, k1, k2⟩⟩
theorem ud60 : Tryd.prog.underlying 60 = some (.slice 69) := by kernel_rfl
theorem opn60 : Opn Tryd.prog 60 (fSl fS_api_Piece) (AllOk okS_api_Piece) := opn_slice ud60 ce60 opn69
theorem ce67 : Tryd.prog.cellsOf 67 = 1 := by kernel_rfl
theorem ce71 : Tryd.prog.cellsOf 71 = 3 := by kernel_rfl
def okS_fishkeep1_Ride (x : S_fishkeep1_Ride) : Prop := I64 x.Demand ∧ I64 x.Err ∧ I64 x.End
theorem fs71 : tyFs Tryd.prog 71 = some [(3, 0), (3, 1), (3, 2)] := by kernel_rfl
theorem opn71 : Opn Tryd.prog 71 fS_fishkeep1_Ride okS_fishkeep1_Ride := ⟨ce71, by decide, fun h => by
  obtain ⟨hl, n, hf⟩ := trod_fs fs71 h
  rw [ce71] at hl
  obtain ⟨_, h0⟩ := hf (3, 0) (by decide)
  obtain ⟨y0, h0, k0⟩ := opn3.go h0
  simp only [ce3] at h0
  obtain ⟨_, h1⟩ := hf (3, 1) (by decide)
  obtain ⟨y1, h1, k1⟩ := opn3.go h1
  simp only [ce3] at h1
  obtain ⟨_, h2⟩ := hf (3, 2) (by decide)
  obtain ⟨y2, h2, k2⟩ := opn3.go h2
  simp only [ce3] at h2
  have hp : fS_fishkeep1_Ride.p _ (_ : List Value) (⟨y0, y1, y2⟩ : S_fishkeep1_Ride) := fp_cons h0 (fp_cons h1 (fp_last (by rw [hl]; rfl) h2))
  rw [List.drop_zero] at hp
  exact ⟨_, hp, k0, k1, k2⟩⟩
theorem ud67 : Tryd.prog.underlying 67 = some (.slice 71) := by kernel_rfl
theorem opn67 : Opn Tryd.prog 67 (fSl fS_fishkeep1_Ride) (AllOk okS_fishkeep1_Ride) := opn_slice ud67 ce67 opn71
theorem ud4 : Tryd.prog.underlying 4 = some .bool := by kernel_rfl
theorem laid : laidOutB Tryd.prog = true := by kernel_rfl
theorem own : ownKnob Tryd.prog.godebug = none := by kernel_rfl
theorem pars : Tryd.f7.params = #[59, 60, 3, 3, 67] := rfl
theorem rr3 : Tryd.prog.readableRec 3 = true := by kernel_rfl
theorem rs3 : (3 : TypeId) < Tryd.prog.types.size := of_decide_eq_true (by kernel_rfl)
theorem rr59 : Tryd.prog.readableRec 59 = true := by kernel_rfl
theorem rs59 : (59 : TypeId) < Tryd.prog.types.size := of_decide_eq_true (by kernel_rfl)
theorem rr60 : Tryd.prog.readableRec 60 = true := by kernel_rfl
theorem rs60 : (60 : TypeId) < Tryd.prog.types.size := of_decide_eq_true (by kernel_rfl)
theorem rr67 : Tryd.prog.readableRec 67 = true := by kernel_rfl
theorem rs67 : (67 : TypeId) < Tryd.prog.types.size := of_decide_eq_true (by kernel_rfl)
def GuardStopsLaw : Prop := ∀ (x0 : S_api_Stock) (x1 : List S_api_Piece) (x2 : Int) (x3 : Int) (x4 : List S_fishkeep1_Ride), okS_api_Stock x0 → (AllOk okS_api_Piece) x1 → I64 x2 → I64 x3 → (AllOk okS_fishkeep1_Ride) x4 → fishkeep1_GuardStops x0 x1 x2 x3 x4 = some true
theorem rowE (u : TypeId) (h : Tryd.prog.typeName? 3 u = some "*errors.errorString") : u = 193 :=
  have star : "*" ++ "errors.errorString" = "*errors.errorString" := by decide
  typeName_ptr_named (nm := "errors.errorString") (by rw [star]; kernel_rfl) (by kernel_rfl) (by decide) u (by rw [star]; exact h)
noncomputable def gE : Nat := (Tryd.prog.globalNamed "strconv.ErrSyntax").getD 0
theorem filE : (Rows.guardStopsRow.laid.filter fun x => x.1 == "strconv.ErrSyntax") = [("strconv.ErrSyntax", Rows.laid_strconv_ErrSyntax)] := rfl
theorem udE1 : ∃ ms, Tryd.prog.underlying 113 = some (.interface ms) := ⟨_, rfl⟩
theorem udE3 : ∃ f : Field, Tryd.prog.underlying 195 = some (.struct #[f]) ∧ f.type = 9 ∧ f.offset = 0 := ⟨_, rfl, rfl, rfl⟩
theorem lglb {W : World} (h : laidMetH Tryd.prog Rows.guardStopsRow.laid W) : glb (wh W) := by
  have h1 := h.filter fun x => x.1 == "strconv.ErrSyntax"
  rw [filE] at h1
  replace h1 : laidMet Tryd.prog [("strconv.ErrSyntax", Rows.laid_strconv_ErrSyntax)] W := (laidMetH_iff.1 h1).1
  obtain ⟨ms, u1⟩ := udE1
  obtain ⟨f, u3, u4, u5⟩ := udE3
  obtain ⟨a, s, hv, _⟩ := laid_sentinel (g := gE) (ti := 113) (tp := 193) (te := 195) (ts := 9) h1 (by kernel_rfl) (by kernel_rfl) u1 rowE (by kernel_rfl) u3 u4 u5 (by kernel_rfl) (by kernel_rfl) (by kernel_rfl)
  exact var_glb hv
theorem contract (law : GuardStopsLaw) (H : Type) (enc : TypeId × Value → H) (W : World) (base : Nat) (args : Array Value) (ds gs : List (DataW H)) (before : List MemPlace)
    (hval : ∀ (j : Nat) t v, Tryd.f7.params[j]? = some t → args[j]? = some v → Value.okWide Tryd.prog W .any base t v)
    (hW : DataW.Whole enc Tryd.prog Tryd.f7.params.toList Rows.guardStopsSpec.vars false W args.toList ds gs before) (hX : laidMetH Tryd.prog Rows.guardStopsRow.laid W) :
    Calls Tryd.prog 7 args W fun e W' => ∃ v, e = .returned v ∧ Rows.guardStopsSpec.post enc Tryd.prog Tryd.f7 false true false false W args v W' := by
  have hW0 := hW
  obtain ⟨p, q, hA, hV, rfl, hfz, hnd⟩ := hW
  rw [pars] at hA hval
  obtain ⟨v0, vs0, d0, ds0, p0, q0, e0, g0, b0, h0, r0⟩ := trodAll_cons hA
  obtain ⟨v1, vs1, d1, ds1, p1, q1, e1, g1, b1, h1, r1⟩ := trodAll_cons r0
  obtain ⟨v2, vs2, d2, ds2, p2, q2, e2, g2, b2, h2, r2⟩ := trodAll_cons r1
  obtain ⟨v3, vs3, d3, ds3, p3, q3, e3, g3, b3, h3, r3⟩ := trodAll_cons r2
  obtain ⟨v4, vs4, d4, ds4, p4, q4, e4, g4, b4, h4, r4⟩ := trodAll_cons r3
  obtain ⟨z1, z2, z3⟩ := trodAll_nil r4
  subst z1 z2
  subst e4 g4
  subst e3 g3
  subst e2 g2
  subst e1 g1
  subst g0
  obtain rfl : args = #[v0, v1, v2, v3, v4] := by cases args; simp_all
  have hgs : gs = [] := by cases gs with | nil => rfl | cons g l => exact hV.elim
  subst hgs
  have ok0 := hval 0 59 v0 rfl rfl
  obtain ⟨fu0, h0⟩ := h0
  obtain ⟨x0, h0, k0⟩ := opn59.go h0
  obtain ⟨cs0, rfl⟩ := okWide_agg fs59 ok0
  replace h0 : fS_api_Stock.p (wh W) cs0.toList x0 := h0
  have ok1 := hval 1 60 v1 rfl rfl
  obtain ⟨fu1, h1⟩ := h1
  obtain ⟨x1, h1, k1⟩ := opn60.go h1
  obtain ⟨A1, n1, c1, hc1, hs1⟩ := h1
  obtain rfl := okWide_sl ud60 ok1 hc1
  have ok2 := hval 2 3 v2 rfl rfl
  obtain ⟨fu2, h2⟩ := h2
  obtain ⟨x2, h2, k2⟩ := opn3.go h2
  obtain rfl := okWide_i ud3 ok2 h2
  have ok3 := hval 3 3 v3 rfl rfl
  obtain ⟨fu3, h3⟩ := h3
  obtain ⟨x3, h3, k3⟩ := opn3.go h3
  obtain rfl := okWide_i ud3 ok3 h3
  have ok4 := hval 4 67 v4 rfl rfl
  obtain ⟨fu4, h4⟩ := h4
  obtain ⟨x4, h4, k4⟩ := opn67.go h4
  obtain ⟨A4, n4, c4, hc4, hs4⟩ := h4
  obtain rfl := okWide_sl ud67 ok4 hc4
  have hlaw := law x0 x1 x2 x3 x4 k0 k1 k2 k3 k4
  refine (root_calls (B := tab) (vs := [.dat (.st 0), .one (.d (.sl (.st 1))), .one (.d (.int .i64)), .one (.d (.int .i64)), .one (.d (.sl (.st 5)))]) fishkeep1_GuardStops.H (W := W) (p := (x0, x1, x2, x3, x4, ())) hlaw ⟨⟨cs0.toList, by simp, cellsOf_ok (B := tab) (t := (.st 0)) (by kernel_rfl) h0⟩, ⟨A1, n1, c1, rfl, hs1⟩, (by exact rfl), (by exact rfl), ⟨A4, n4, c4, rfl, hs4⟩, trivial⟩ (hgl := lglb hX)).mono fun e W' he => ?_
  obtain ⟨v, f', rfl, hle, rfl, hw⟩ := he
  exact ⟨_, rfl, post_of_wd hW0 laid (by rw [pars]; intro t ht; simp only [List.mem_cons, List.not_mem_nil, or_false] at ht; rcases ht with rfl | rfl | rfl | rfl | rfl; all_goals first | exact ⟨rr3, rs3⟩ | exact ⟨rr59, rs59⟩ | exact ⟨rr60, rs60⟩ | exact ⟨rr67, rs67⟩) rfl rfl rfl ud4 hle hw⟩
def pinV : DataW Unit → Value
  | .lit (.int k n) => .int k n
  | _ => Go.undef
def pinO (d : DataW Unit) : Obj → Obj
  | .cells c t fr => match d with
    | .agg l => .cells (l.map pinV).toArray t fr
    | _ => .cells c t fr
  | x => x
noncomputable def startW (os : Os) : World := { World.doorLaid Tryd.prog 700 os with heap := ((World.doorLaid Tryd.prog 700 os).heap.modify ((Tryd.prog.globalNamed "unicode/utf8.first").getD 0) (pinO Rows.laid_unicode_utf8_first)) }
set_option maxRecDepth 100000 in
theorem met (os : Os) (args : Array Value) : laidMetH Tryd.prog Rows.guardStopsRow.laid ((startW os).forCall (fun _ _ => 0) ⟨#[], args, []⟩).memory :=
  laidMetH_of_parts (laidMet_of_run' 12 (by kernel_rfl) (by kernel_rfl)) (by kernel_rfl)
set_option maxRecDepth 100000 in
theorem lifted (law : GuardStopsLaw) (os : Os) (started : os.Started) (H : Type) (enc : TypeId × Value → H) :
    ReturnsInHanded {} Tryd.checked os 7 .any (fun w args => (Rows.guardStopsSpec.pre enc Tryd.prog Tryd.f7 [] false w args ∧ laidMetH Tryd.prog Rows.guardStopsRow.laid w) ∧ sizedMet enc Tryd.prog Tryd.f7 (OpenSpec.ofChange Rows.guardStopsSpec) false w args)
      (Rows.guardStopsSpec.post enc Tryd.prog Tryd.f7 false true false false) := by
  refine returnsInHanded_of_change_and (C := Tryd.checked) (X := fun w _ => laidMetH Tryd.prog Rows.guardStopsRow.laid w) (fun _ _ _ hh h => h.of_heap hh) own started (by kernel_rfl) Tryd.func7
    (ChangeSpec.witness_shaped (enc := enc) (C := Tryd.checked) (os := os) (X := fun w _ => laidMetH Tryd.prog Rows.guardStopsRow.laid w) false (startW os) #[(.agg #[(.string ⟨#[]⟩), (.int .i64 0), (.int .i64 0), (.int .i64 0), (.int .i64 0), (.int .i64 0), (.int .i64 0), (.int .i64 0), (.int .i64 0), (.int .i64 0)]), (.slice none 0 0), (.int .i64 0), (.int .i64 0), (.slice none 0 0)] 8 rfl (World.shaped_of_RefB (by kernel_rfl) (by kernel_rfl)) (by kernel_rfl) (by kernel_rfl) (by kernel_rfl) (met os _)) ?_
  intro W base args ds gs before hval hW _ hwt hX _
  exact contract law H enc W base args ds gs before hval hW hX
theorem said (law : GuardStopsLaw) : Rows.GuardStopsSaid :=
  OpenClaim.holds_of_wide 7 Tryd.f7 rfl rfl rfl rfl rfl rfl rfl ⟨rfl, rfl, rfl, rfl, rfl⟩ rfl rfl rfl rfl rfl (by kernel_rfl) Tryd.func7 (by kernel_rfl)
    (of_decide_eq_true (by kernel_rfl)) (by unfold Func.isWrapper; first | (rw [if_pos (by decide +kernel)]; kernel_rfl) | (rw [if_neg (by decide +kernel)]; exact ⟨rfl, rfl⟩))
    (fun os started H enc _ => lifted law os started H enc)
theorem ws3 : Tryd.prog.wantsStandIn 3 = false := by kernel_rfl
theorem ws59 : Tryd.prog.wantsStandIn 59 = false := by kernel_rfl
theorem ws60 : Tryd.prog.wantsStandIn 60 = false := by kernel_rfl
theorem ws67 : Tryd.prog.wantsStandIn 67 = false := by kernel_rfl
theorem close (law : GuardStopsLaw) : Rows.GuardStopsCardSaid :=
  Claim7.holds_tied_plain_at .later [] [.data, .data, .data, .data, .sentinel, .sentinel, .pinned] true (true, "2c5f4298fed040123564a67d98974f2af11fa4bca40d92f60130d01e2b8fabc8") true
    (said law) (fun _ h => by cases h) (by kernel_rfl) (fun _ h => by cases h) guardStops_row_tie rfl ⟨rfl, rfl⟩ (by kernel_rfl) rfl
    (fun f fn hf hfn => by
      obtain rfl : f = 7 := Option.some.inj ((show Tryd.prog.funcNamed "fishplate/fishkeep1.GuardStops" = some 7 by kernel_rfl).symm.trans hf) |>.symm
      obtain rfl : fn = Tryd.f7 := (Option.some.inj (Tryd.func7.symm.trans hfn)).symm
      exact ⟨by kernel_rfl, fun j t ht => by
        rw [pars] at ht
        have hm := List.mem_of_getElem? (l := [59, 60, 3, 3, 67]) (by simpa using ht)
        simp only [List.mem_cons, List.not_mem_nil, or_false] at hm
        rcases hm with rfl | rfl | rfl | rfl | rfl
        all_goals first | exact ws3 | exact ws59 | exact ws60 | exact ws67⟩)
    (by kernel_rfl)
end Go.Proofs.YtgflagiblnkchaaDoor.GuardStops
