/- The table of types. Printed by a tool. -/
import Derived.Test.YtoamdmkakblnnaaDoorD9
import Derived.Test.YtoamdmkakblnnaaDoorProg
import Derived.Test.YtoamdmkakblnnaaDoorZS
import Derived.Test.YtoamdmkakblnnaaDoorZP
set_option linter.unusedVariables false
set_option linter.unusedSimpArgs false
set_option maxRecDepth 100000
set_option maxHeartbeats 4000000
namespace Hd
open Go Hk Go.Proofs
abbrev S_api_Section.tup (x : S_api_Section) : Int × Int × Int × Int × Int × Int × Bool := (x.Kind, x.Length, x.Grade, x.Speed, x.Slow, x.Station, x.Axles)
def fS_api_Section : FRel S_api_Section := fMap S_api_Section.tup (fPair (fInt .i64) (fPair (fInt .i64) (fPair (fInt .i64) (fPair (fInt .i64) (fPair (fInt .i64) (fPair (fInt .i64) fBool))))))
abbrev S_api_Link.tup (x : S_api_Link) : Int × Int × Int × Int := (x.A, x.EndA, x.B, x.EndB)
def fS_api_Link : FRel S_api_Link := fMap S_api_Link.tup (fPair (fInt .i64) (fPair (fInt .i64) (fPair (fInt .i64) (fInt .i64))))
abbrev S_api_Signal.tup (x : S_api_Signal) : Int × Int := (x.Section, x.End)
def fS_api_Signal : FRel S_api_Signal := fMap S_api_Signal.tup (fPair (fInt .i64) (fInt .i64))
abbrev S_api_Gate.tup (x : S_api_Gate) : Int × Int := (x.Section, x.Close)
def fS_api_Gate : FRel S_api_Gate := fMap S_api_Gate.tup (fPair (fInt .i64) (fInt .i64))
abbrev S_api_Net.tup (x : S_api_Net) : List ByteArray × List S_api_Section × List S_api_Link × List S_api_Signal × List S_api_Gate := (x.Stations, x.Sections, x.Links, x.Signals, x.Gates)
def fS_api_Net : FRel S_api_Net := fMap S_api_Net.tup (fPair (fSl (fStr)) (fPair (fSl (fS_api_Section)) (fPair (fSl (fS_api_Link)) (fPair (fSl (fS_api_Signal)) (fSl (fS_api_Gate))))))
abbrev S_line_end.tup (x : S_line_end) : Int × Int := (x.section_, x.end_)
def fS_line_end : FRel S_line_end := fMap S_line_end.tup (fPair (fInt .i64) (fInt .i64))
abbrev S_api_Step.tup (x : S_api_Step) : Int × Int × Int := (x.Section, x.In, x.Out)
def fS_api_Step : FRel S_api_Step := fMap S_api_Step.tup (fPair (fInt .i64) (fPair (fInt .i64) (fInt .i64)))
abbrev S_api_Route.tup (x : S_api_Route) : Int × Int × List S_api_Step := (x.From, x.To, x.Steps)
def fS_api_Route : FRel S_api_Route := fMap S_api_Route.tup (fPair (fInt .i64) (fPair (fInt .i64) (fSl (fS_api_Step))))
abbrev S_line_finder.tup (x : S_line_finder) : S_api_Net × List S_api_Route × Int × Bool := (x.net, x.routes, x.paths, x.large)
def fS_line_finder : FRel S_line_finder := fMap S_line_finder.tup (fPair fS_api_Net (fPair (fSl (fS_api_Route)) (fPair (fInt .i64) fBool)))
def tT : Nat → Type
  | 0 => S_api_Section
  | 1 => S_api_Link
  | 2 => S_api_Signal
  | 3 => S_api_Gate
  | 4 => S_api_Net
  | 5 => S_line_end
  | 6 => S_api_Step
  | 7 => S_api_Route
  | 8 => S_line_finder
  | _ + 9 => Unit
def tR : (i : Nat) → FRel (tT i)
  | 0 => fS_api_Section
  | 1 => fS_api_Link
  | 2 => fS_api_Signal
  | 3 => fS_api_Gate
  | 4 => fS_api_Net
  | 5 => fS_line_end
  | 6 => fS_api_Step
  | 7 => fS_api_Route
  | 8 => fS_line_finder
  | _ + 9 => fUnit
def tF : Nat → List Ty
  | 0 => [(.int .i64), (.int .i64), (.int .i64), (.int .i64), (.int .i64), (.int .i64), .bool]
  | 1 => [(.int .i64), (.int .i64), (.int .i64), (.int .i64)]
  | 2 => [(.int .i64), (.int .i64)]
  | 3 => [(.int .i64), (.int .i64)]
  | 4 => [(.sl .str), (.sl (.st 0)), (.sl (.st 1)), (.sl (.st 2)), (.sl (.st 3))]
  | 5 => [(.int .i64), (.int .i64)]
  | 6 => [(.int .i64), (.int .i64), (.int .i64)]
  | 7 => [(.int .i64), (.int .i64), (.sl (.st 6))]
  | 8 => [(.st 4), (.sl (.st 7)), (.int .i64), .bool]
  | _ + 9 => []
def tTo : (i : Nat) → tT i → Tup tT (tF i)
  | 0 => S_api_Section.tup
  | 1 => S_api_Link.tup
  | 2 => S_api_Signal.tup
  | 3 => S_api_Gate.tup
  | 4 => S_api_Net.tup
  | 5 => S_line_end.tup
  | 6 => S_api_Step.tup
  | 7 => S_api_Route.tup
  | 8 => S_line_finder.tup
  | _ + 9 => fun _ => ()
def tMk : (i : Nat) → Tup tT (tF i) → tT i
  | 0 => fun p => S_api_Section.mk p.1 p.2.1 p.2.2.1 p.2.2.2.1 p.2.2.2.2.1 p.2.2.2.2.2.1 p.2.2.2.2.2.2
  | 1 => fun p => S_api_Link.mk p.1 p.2.1 p.2.2.1 p.2.2.2
  | 2 => fun p => S_api_Signal.mk p.1 p.2
  | 3 => fun p => S_api_Gate.mk p.1 p.2
  | 4 => fun p => S_api_Net.mk p.1 p.2.1 p.2.2.1 p.2.2.2.1 p.2.2.2.2
  | 5 => fun p => S_line_end.mk p.1 p.2
  | 6 => fun p => S_api_Step.mk p.1 p.2.1 p.2.2
  | 7 => fun p => S_api_Route.mk p.1 p.2.1 p.2.2
  | 8 => fun p => S_line_finder.mk p.1 p.2.1 p.2.2.1 p.2.2.2
  | _ + 9 => fun _ => ()
theorem tOk : ∀ i f cs x, (tR i).p f cs x ↔ (fTup tR (tF i)).p f cs (tTo i x)
  | 0, _, _, _ => Iff.rfl
  | 1, _, _, _ => Iff.rfl
  | 2, _, _, _ => Iff.rfl
  | 3, _, _, _ => Iff.rfl
  | 4, _, _, _ => Iff.rfl
  | 5, _, _, _ => Iff.rfl
  | 6, _, _, _ => Iff.rfl
  | 7, _, _, _ => Iff.rfl
  | 8, _, _, _ => Iff.rfl
  | _ + 9, _, _, _ => Iff.rfl
theorem tTm : ∀ i h, tTo i (tMk i h) = h
  | 0, _ => rfl
  | 1, _ => rfl
  | 2, _ => rfl
  | 3, _ => rfl
  | 4, _ => rfl
  | 5, _ => rfl
  | 6, _ => rfl
  | 7, _ => rfl
  | 8, _ => rfl
  | _ + 9, _ => rfl
def tab : Tab := ⟨tT, tR, tF, tTo, tMk, tOk, tTm, fun _ => True, fun _ _ _ _ => trivial⟩
def tt : List (TI tab) := [
  ⟨3, .int .i64, 1, 8, false, [.int .i64 0]⟩,
  ⟨4, .bool, 1, 1, false, [.bool false]⟩,
  ⟨5, .int .u8, 1, 1, false, [.int .u8 0]⟩,
  ⟨9, .str, 1, 16, false, [.str ByteArray.empty]⟩,
  ⟨22, .slice 9 (some .str), 1, 24, false, [.nils]⟩,
  ⟨23, .slice 66 (some (.st 0)), 1, 24, false, [.nils]⟩,
  ⟨24, .slice 94 (some (.st 1)), 1, 24, false, [.nils]⟩,
  ⟨25, .slice 77 (some (.st 2)), 1, 24, false, [.nils]⟩,
  ⟨26, .slice 115 (some (.st 3)), 1, 24, false, [.nils]⟩,
  ⟨28, .struct [(0, 1, 22), (1, 1, 23), (2, 1, 24), (3, 1, 25), (4, 1, 26)] [], 5, 120, true, [.nils, .nils, .nils, .nils, .nils]⟩,
  ⟨29, .slice 43 (some (.st 6)), 1, 24, false, [.nils]⟩,
  ⟨31, .int .i64, 1, 8, false, [.int .i64 0]⟩,
  ⟨43, .struct [(0, 1, 3), (1, 1, 3), (2, 1, 3)] [], 3, 24, true, [.int .i64 0, .int .i64 0, .int .i64 0]⟩,
  ⟨48, .slice 3 (some (.int .i64)), 1, 24, false, [.nils]⟩,
  ⟨50, .slice 54 (some (.st 7)), 1, 24, false, [.nils]⟩,
  ⟨54, .struct [(0, 1, 3), (1, 1, 3), (2, 1, 29)] [], 3, 40, true, [.int .i64 0, .int .i64 0, .nils]⟩,
  ⟨58, .other, 1, 8, false, [.nilf]⟩,
  ⟨59, .map 3 4 false [.int .i64] (.int .i64) .bool, 1, 8, false, [.nilm]⟩,
  ⟨62, .struct [(0, 1, 3), (1, 1, 3)] [.int .i64, .int .i64], 2, 16, true, [.int .i64 0, .int .i64 0]⟩,
  ⟨66, .struct [(0, 1, 3), (1, 1, 3), (2, 1, 3), (3, 1, 3), (4, 1, 3), (5, 1, 3), (6, 1, 4)] [], 7, 56, true, [.int .i64 0, .int .i64 0, .int .i64 0, .int .i64 0, .int .i64 0, .int .i64 0, .bool false]⟩,
  ⟨77, .struct [(0, 1, 3), (1, 1, 3)] [.int .i64, .int .i64], 2, 16, true, [.int .i64 0, .int .i64 0]⟩,
  ⟨81, .slice 22 (some (.sl .str)), 1, 24, false, [.nils]⟩,
  ⟨89, .array 3 58, 3, 24, true, [.nilf, .nilf, .nilf]⟩,
  ⟨94, .struct [(0, 1, 3), (1, 1, 3), (2, 1, 3), (3, 1, 3)] [], 4, 32, true, [.int .i64 0, .int .i64 0, .int .i64 0, .int .i64 0]⟩,
  ⟨102, .ptr, 1, 8, false, [.nilp]⟩,
  ⟨104, .struct [(0, 5, 28), (5, 1, 50), (6, 1, 3), (7, 1, 4)] [], 8, 160, true, [.nils, .nils, .nils, .nils, .nils, .nils, .int .i64 0, .bool false]⟩,
  ⟨115, .struct [(0, 1, 3), (1, 1, 3)] [], 2, 16, true, [.int .i64 0, .int .i64 0]⟩,
  ⟨116, .slice 5 (some (.int .u8)), 1, 24, false, [.nils]⟩,
  ⟨118, .map 62 4 true [.int .i64, .int .i64] (.st 5) .bool, 1, 8, false, [.nilm]⟩]
theorem ttok : ttOk Tryd.prog tt = true := by kernel_rfl
theorem mixed : Tryd.prog.follows .mixedOrders = true := by kernel_rfl
end Hd
