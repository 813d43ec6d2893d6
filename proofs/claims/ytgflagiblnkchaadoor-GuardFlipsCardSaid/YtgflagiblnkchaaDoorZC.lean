/- GuardFlips: the card follows from the plain law GuardFlipsLaw. Printed by a tool. -/
import Derived.Test.YtgflagiblnkchaaDoorZa
import Derived.Test.YtgflagiblnkchaaDoorK5
import Derived.Stop.LaidErr
import Derived.LaidSub
import Derived.Test.YtgflagiblnkchaaDoorRows
import Derived.Test.YtgflagiblnkchaaDoorTie
import Derived.Test.YtgflagiblnkchaaDoorCards
import Derived.JoinedCond
import Derived.LaidMore
import Derived.LaidLaws
import Derived.LaidHandle
import Derived.OpenShut
import Derived.Stop.Joined
import Derived.SevenTiedAt
set_option linter.unusedVariables false
set_option linter.unusedSimpArgs false
set_option maxRecDepth 20000
set_option maxHeartbeats 2000000
namespace Go.Proofs.YtgflagiblnkchaaDoor.GuardFlips
open Hk Hd Go.ChangeShapes Go.WideShapes Go.ChangeAt Go.RowKit
theorem ce23 : Tryd.prog.cellsOf 23 = 3 := by kernel_rfl
theorem ce3 : Tryd.prog.cellsOf 3 = 1 := by kernel_rfl
theorem ud3 : Tryd.prog.underlying 3 = some (.int .i64) := by kernel_rfl
theorem opn3 : Opn Tryd.prog 3 (fInt .i64) I64 := opn_int ud3 ce3
def okS_guard_Telegram (x : S_guard_Telegram) : Prop := I64 x.Link ∧ I64 x.Section ∧ I64 x.Away
theorem fs23 : tyFs Tryd.prog 23 = some [(3, 0), (3, 1), (3, 2)] := by kernel_rfl
theorem opn23 : Opn Tryd.prog 23 fS_guard_Telegram okS_guard_Telegram := ⟨ce23, by decide, fun h => by
  obtain ⟨hl, n, hf⟩ := trod_fs fs23 h
  rw [ce23] at hl
  obtain ⟨_, h0⟩ := hf (3, 0) (by decide)
  obtain ⟨y0, h0, k0⟩ := opn3.go h0
  simp only [ce3] at h0
  obtain ⟨_, h1⟩ := hf (3, 1) (by decide)
  obtain ⟨y1, h1, k1⟩ := opn3.go h1
  simp only [ce3] at h1
  obtain ⟨_, h2⟩ := hf (3, 2) (by decide)
  obtain ⟨y2, h2, k2⟩ := opn3.go h2
  simp only [ce3] at h2
  have hp : fS_guard_Telegram.p _ (_ : List Value) (⟨y0, y1, y2⟩ : S_guard_Telegram) := fp_cons h0 (fp_cons h1 (fp_last (by rw [hl]; rfl) h2))
  rw [List.drop_zero] at hp
  exact ⟨_, hp, k0, k1, k2⟩⟩
theorem ce24 : Tryd.prog.cellsOf 24 = 1 := by kernel_rfl
theorem ud24 : Tryd.prog.underlying 24 = some (.slice 3) := by kernel_rfl
theorem opn24 : Opn Tryd.prog 24 (fSl (fInt .i64)) (AllOk I64) := opn_slice ud24 ce24 opn3
theorem ud4 : Tryd.prog.underlying 4 = some .bool := by kernel_rfl
theorem laid : laidOutB Tryd.prog = true := by kernel_rfl
theorem own : ownKnob Tryd.prog.godebug = none := by kernel_rfl
theorem pars : Tryd.f3.params = #[23, 24] := rfl
theorem rr23 : Tryd.prog.readableRec 23 = true := by kernel_rfl
theorem rs23 : (23 : TypeId) < Tryd.prog.types.size := of_decide_eq_true (by kernel_rfl)
theorem rr24 : Tryd.prog.readableRec 24 = true := by kernel_rfl
theorem rs24 : (24 : TypeId) < Tryd.prog.types.size := of_decide_eq_true (by kernel_rfl)
def GuardFlipsLaw : Prop := ∀ (x0 : S_guard_Telegram) (x1 : List Int), okS_guard_Telegram x0 → (AllOk I64) x1 → fishkeep1_GuardFlips x0 x1 = some true
theorem rowE (u : TypeId) (h : Tryd.prog.typeName? 3 u = some "*errors.errorString") : u = 193 :=
  have star : "*" ++ "errors.errorString" = "*errors.errorString" := by decide
  typeName_ptr_named (nm := "errors.errorString") (by rw [star]; kernel_rfl) (by kernel_rfl) (by decide) u (by rw [star]; exact h)
noncomputable def gE : Nat := (Tryd.prog.globalNamed "strconv.ErrSyntax").getD 0
theorem filE : (Rows.guardFlipsRow.laid.filter fun x => x.1 == "strconv.ErrSyntax") = [("strconv.ErrSyntax", Rows.laid_strconv_ErrSyntax)] := rfl
theorem udE1 : ∃ ms, Tryd.prog.underlying 113 = some (.interface ms) := ⟨_, rfl⟩
theorem udE3 : ∃ f : Field, Tryd.prog.underlying 195 = some (.struct #[f]) ∧ f.type = 9 ∧ f.offset = 0 := ⟨_, rfl, rfl, rfl⟩
theorem lglb {W : World} (h : laidMetH Tryd.prog Rows.guardFlipsRow.laid W) : glb (wh W) := by
  have h1 := h.filter fun x => x.1 == "strconv.ErrSyntax"
  rw [filE] at h1
  replace h1 : laidMet Tryd.prog [("strconv.ErrSyntax", Rows.laid_strconv_ErrSyntax)] W := (laidMetH_iff.1 h1).1
  obtain ⟨ms, u1⟩ := udE1
  obtain ⟨f, u3, u4, u5⟩ := udE3
  obtain ⟨a, s, hv, _⟩ := laid_sentinel (g := gE) (ti := 113) (tp := 193) (te := 195) (ts := 9) h1 (by kernel_rfl) (by kernel_rfl) u1 rowE (by kernel_rfl) u3 u4 u5 (by kernel_rfl) (by kernel_rfl) (by kernel_rfl)
  exact var_glb hv
theorem contract (law : GuardFlipsLaw) (H : Type) (enc : TypeId × Value → H) (W : World) (base : Nat) (args : Array Value) (ds gs : List (DataW H)) (before : List MemPlace)
    (hval : ∀ (j : Nat) t v, Tryd.f3.params[j]? = some t → args[j]? = some v → Value.okWide Tryd.prog W .any base t v)
    (hW : DataW.Whole enc Tryd.prog Tryd.f3.params.toList Rows.guardFlipsSpec.vars false W args.toList ds gs before) (hX : laidMetH Tryd.prog Rows.guardFlipsRow.laid W) :
    Calls Tryd.prog 3 args W fun e W' => ∃ v, e = .returned v ∧ Rows.guardFlipsSpec.post enc Tryd.prog Tryd.f3 false true false false W args v W' := by
  have hW0 := hW
  obtain ⟨p, q, hA, hV, rfl, hfz, hnd⟩ := hW
  rw [pars] at hA hval
  obtain ⟨v0, vs0, d0, ds0, p0, q0, e0, g0, b0, h0, r0⟩ := trodAll_cons hA
  obtain ⟨v1, vs1, d1, ds1, p1, q1, e1, g1, b1, h1, r1⟩ := trodAll_cons r0
  obtain ⟨z1, z2, z3⟩ := trodAll_nil r1
  subst z1 z2
  subst e1 g1
  subst g0
  obtain rfl : args = #[v0, v1] := by cases args; simp_all
  have hgs : gs = [] := by cases gs with | nil => rfl | cons g l => exact hV.elim
  subst hgs
  have ok0 := hval 0 23 v0 rfl rfl
  obtain ⟨fu0, h0⟩ := h0
  obtain ⟨x0, h0, k0⟩ := opn23.go h0
  obtain ⟨cs0, rfl⟩ := okWide_agg fs23 ok0
  replace h0 : fS_guard_Telegram.p (wh W) cs0.toList x0 := h0
  have ok1 := hval 1 24 v1 rfl rfl
  obtain ⟨fu1, h1⟩ := h1
  obtain ⟨x1, h1, k1⟩ := opn24.go h1
  obtain ⟨A1, n1, c1, hc1, hs1⟩ := h1
  obtain rfl := okWide_sl ud24 ok1 hc1
  have hlaw := law x0 x1 k0 k1
  refine (root_calls (B := tab) (vs := [.dat (.st 0), .one (.d (.sl (.int .i64)))]) fishkeep1_GuardFlips.H (W := W) (p := (x0, x1, ())) hlaw ⟨⟨cs0.toList, by simp, cellsOf_ok (B := tab) (t := (.st 0)) (by kernel_rfl) h0⟩, ⟨A1, n1, c1, rfl, hs1⟩, trivial⟩ (hgl := lglb hX)).mono fun e W' he => ?_
  obtain ⟨v, f', rfl, hle, rfl, hw⟩ := he
  exact ⟨_, rfl, post_of_wd hW0 laid (by rw [pars]; intro t ht; simp only [List.mem_cons, List.not_mem_nil, or_false] at ht; rcases ht with rfl | rfl; all_goals first | exact ⟨rr23, rs23⟩ | exact ⟨rr24, rs24⟩) rfl rfl rfl ud4 hle hw⟩
def pinV : DataW Unit → Value
  | .lit (.int k n) => .int k n
  | _ => Go.undef
def pinO (d : DataW Unit) : Obj → Obj
  | .cells c t fr => match d with
    | .agg l => .cells (l.map pinV).toArray t fr
    | _ => .cells c t fr
  | x => x
noncomputable def startW (os : Os) : World := { World.doorLaid Tryd.prog 700 os with heap := ((World.doorLaid Tryd.prog 700 os).heap.modify ((Tryd.prog.globalNamed "unicode/utf8.first").getD 0) (pinO Rows.laid_unicode_utf8_first)) }
set_option maxRecDepth 100000 in
theorem met (os : Os) (args : Array Value) : laidMetH Tryd.prog Rows.guardFlipsRow.laid ((startW os).forCall (fun _ _ => 0) ⟨#[], args, []⟩).memory :=
  laidMetH_of_parts (laidMet_of_run' 12 (by kernel_rfl) (by kernel_rfl)) (by kernel_rfl)
set_option maxRecDepth 100000 in
theorem lifted (law : GuardFlipsLaw) (os : Os) (started : os.Started) (H : Type) (enc : TypeId × Value → H) :
    ReturnsInHanded {} Tryd.checked os 3 .any (fun w args => (Rows.guardFlipsSpec.pre enc Tryd.prog Tryd.f3 [] false w args ∧ laidMetH Tryd.prog Rows.guardFlipsRow.laid w) ∧ sizedMet enc Tryd.prog Tryd.f3 (OpenSpec.ofChange Rows.guardFlipsSpec) false w args)
      (Rows.guardFlipsSpec.post enc Tryd.prog Tryd.f3 false true false false) := by
  refine returnsInHanded_of_change_and (C := Tryd.checked) (X := fun w _ => laidMetH Tryd.prog Rows.guardFlipsRow.laid w) (fun _ _ _ hh h => h.of_heap hh) own started (by kernel_rfl) Tryd.func3
    (ChangeSpec.witness_shaped (enc := enc) (C := Tryd.checked) (os := os) (X := fun w _ => laidMetH Tryd.prog Rows.guardFlipsRow.laid w) false (startW os) #[(.agg #[(.int .i64 0), (.int .i64 0), (.int .i64 0)]), (.slice none 0 0)] 8 rfl (World.shaped_of_RefB (by kernel_rfl) (by kernel_rfl)) (by kernel_rfl) (by kernel_rfl) (by kernel_rfl) (met os _)) ?_
  intro W base args ds gs before hval hW _ hwt hX _
  exact contract law H enc W base args ds gs before hval hW hX
theorem said (law : GuardFlipsLaw) : Rows.GuardFlipsSaid :=
  OpenClaim.holds_of_wide 3 Tryd.f3 rfl rfl rfl rfl rfl rfl rfl ⟨rfl, rfl, rfl, rfl, rfl⟩ rfl rfl rfl rfl rfl (by kernel_rfl) Tryd.func3 (by kernel_rfl)
    (of_decide_eq_true (by kernel_rfl)) (by unfold Func.isWrapper; first | (rw [if_pos (by decide +kernel)]; kernel_rfl) | (rw [if_neg (by decide +kernel)]; exact ⟨rfl, rfl⟩))
    (fun os started H enc _ => lifted law os started H enc)
theorem ws23 : Tryd.prog.wantsStandIn 23 = false := by kernel_rfl
theorem ws24 : Tryd.prog.wantsStandIn 24 = false := by kernel_rfl
theorem close (law : GuardFlipsLaw) : Rows.GuardFlipsCardSaid :=
  Claim7.holds_tied_plain_at .later [] [.data, .data, .data, .data, .sentinel, .sentinel, .pinned] true (true, "2c5f4298fed040123564a67d98974f2af11fa4bca40d92f60130d01e2b8fabc8") true
    (said law) (fun _ h => by cases h) (by kernel_rfl) (fun _ h => by cases h) guardFlips_row_tie rfl ⟨rfl, rfl⟩ (by kernel_rfl) rfl
    (fun f fn hf hfn => by
      obtain rfl : f = 3 := Option.some.inj ((show Tryd.prog.funcNamed "fishplate/fishkeep1.GuardFlips" = some 3 by kernel_rfl).symm.trans hf) |>.symm
      obtain rfl : fn = Tryd.f3 := (Option.some.inj (Tryd.func3.symm.trans hfn)).symm
      exact ⟨by kernel_rfl, fun j t ht => by
        rw [pars] at ht
        have hm := List.mem_of_getElem? (l := [23, 24]) (by simpa using ht)
        simp only [List.mem_cons, List.not_mem_nil, or_false] at hm
        rcases hm with rfl | rfl
        all_goals first | exact ws23 | exact ws24⟩)
    (by kernel_rfl)
end Go.Proofs.YtgflagiblnkchaaDoor.GuardFlips
