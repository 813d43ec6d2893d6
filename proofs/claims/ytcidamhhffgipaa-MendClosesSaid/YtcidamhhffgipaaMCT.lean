/- The table of types. Printed by a tool. -/
import Derived.Test.YtcidamhhffgipaaD8
import Derived.Test.YtcidamhhffgipaaProg
import Derived.Test.YtcidamhhffgipaaMCP
set_option linter.unusedVariables false
set_option linter.unusedSimpArgs false
set_option maxRecDepth 100000
set_option maxHeartbeats 4000000
namespace Hd
open Go Hk Go.Proofs
abbrev S_mend_Arc.tup (x : S_mend_Arc) : Int × Int × Int := (x.From, x.To, x.Len)
def fS_mend_Arc : FRel S_mend_Arc := fMap S_mend_Arc.tup (fPair (fInt .i64) (fPair (fInt .i64) (fInt .i64)))
abbrev S_mend_Choice.tup (x : S_mend_Choice) : List (List S_mend_Arc) := (x.Ways)
def fS_mend_Choice : FRel S_mend_Choice := fMap S_mend_Choice.tup (fSl (fSl (fS_mend_Arc)))
abbrev S_mend_Graph.tup (x : S_mend_Graph) : List Int × List Int × List Int × List S_mend_Arc × List S_mend_Choice := (x.Ready, x.Last, x.Due, x.Arcs, x.Choices)
def fS_mend_Graph : FRel S_mend_Graph := fMap S_mend_Graph.tup (fPair (fSl (fInt .i64)) (fPair (fSl (fInt .i64)) (fPair (fSl (fInt .i64)) (fPair (fSl (fS_mend_Arc)) (fSl (fS_mend_Choice))))))
abbrev S_mend_solver.tup (x : S_mend_solver) : List Int × List Int × List (List S_mend_Arc) := (x.times, x.last, x.outs)
def fS_mend_solver : FRel S_mend_solver := fMap S_mend_solver.tup (fPair (fSl (fInt .i64)) (fPair (fSl (fInt .i64)) (fSl (fSl (fS_mend_Arc)))))
abbrev S_mend_Link.tup (x : S_mend_Link) : Int × Int × Int × Int := (x.From, x.To, x.Len, x.Back)
def fS_mend_Link : FRel S_mend_Link := fMap S_mend_Link.tup (fPair (fInt .i64) (fPair (fInt .i64) (fPair (fInt .i64) (fInt .i64))))
abbrev S_mend_Round.tup (x : S_mend_Round) : Int × List Int × List S_mend_Link := (x.Period, x.Plan, x.Links)
def fS_mend_Round : FRel S_mend_Round := fMap S_mend_Round.tup (fPair (fInt .i64) (fPair (fSl (fInt .i64)) (fSl (fS_mend_Link))))
def tT : Nat → Type
  | 0 => S_mend_Arc
  | 1 => S_mend_Choice
  | 2 => S_mend_Graph
  | 3 => S_mend_solver
  | 4 => S_mend_Link
  | 5 => S_mend_Round
  | _ + 6 => Unit
def tR : (i : Nat) → FRel (tT i)
  | 0 => fS_mend_Arc
  | 1 => fS_mend_Choice
  | 2 => fS_mend_Graph
  | 3 => fS_mend_solver
  | 4 => fS_mend_Link
  | 5 => fS_mend_Round
  | _ + 6 => fUnit
def tF : Nat → List Ty
  | 0 => [(.int .i64), (.int .i64), (.int .i64)]
  | 1 => [(.sl (.sl (.st 0)))]
  | 2 => [(.sl (.int .i64)), (.sl (.int .i64)), (.sl (.int .i64)), (.sl (.st 0)), (.sl (.st 1))]
  | 3 => [(.sl (.int .i64)), (.sl (.int .i64)), (.sl (.sl (.st 0)))]
  | 4 => [(.int .i64), (.int .i64), (.int .i64), (.int .i64)]
  | 5 => [(.int .i64), (.sl (.int .i64)), (.sl (.st 4))]
  | _ + 6 => []
def tTo : (i : Nat) → tT i → Tup tT (tF i)
  | 0 => S_mend_Arc.tup
  | 1 => S_mend_Choice.tup
  | 2 => S_mend_Graph.tup
  | 3 => S_mend_solver.tup
  | 4 => S_mend_Link.tup
  | 5 => S_mend_Round.tup
  | _ + 6 => fun _ => ()
def tMk : (i : Nat) → Tup tT (tF i) → tT i
  | 0 => fun p => S_mend_Arc.mk p.1 p.2.1 p.2.2
  | 1 => fun p => S_mend_Choice.mk p
  | 2 => fun p => S_mend_Graph.mk p.1 p.2.1 p.2.2.1 p.2.2.2.1 p.2.2.2.2
  | 3 => fun p => S_mend_solver.mk p.1 p.2.1 p.2.2
  | 4 => fun p => S_mend_Link.mk p.1 p.2.1 p.2.2.1 p.2.2.2
  | 5 => fun p => S_mend_Round.mk p.1 p.2.1 p.2.2
  | _ + 6 => fun _ => ()
theorem tOk : ∀ i f cs x, (tR i).p f cs x ↔ (fTup tR (tF i)).p f cs (tTo i x)
  | 0, _, _, _ => Iff.rfl
  | 1, _, _, _ => Iff.rfl
  | 2, _, _, _ => Iff.rfl
  | 3, _, _, _ => Iff.rfl
  | 4, _, _, _ => Iff.rfl
  | 5, _, _, _ => Iff.rfl
  | _ + 6, _, _, _ => Iff.rfl
theorem tTm : ∀ i h, tTo i (tMk i h) = h
  | 0, _ => rfl
  | 1, _ => rfl
  | 2, _ => rfl
  | 3, _ => rfl
  | 4, _ => rfl
  | 5, _ => rfl
  | _ + 6, _ => rfl
def tab : Tab := ⟨tT, tR, tF, tTo, tMk, tOk, tTm⟩
def tt : List (TI tab) := [
  ⟨3, .int .i64, 1, 8, false, [.int .i64 0]⟩,
  ⟨4, .bool, 1, 1, false, [.bool false]⟩,
  ⟨22, .slice 3 (some (.int .i64)), 1, 24, false, [.nils]⟩,
  ⟨23, .slice 34 (some (.st 0)), 1, 24, false, [.nils]⟩,
  ⟨24, .slice 37 (some (.st 1)), 1, 24, false, [.nils]⟩,
  ⟨26, .struct [(0, 1, 22), (1, 1, 22), (2, 1, 22), (3, 1, 23), (4, 1, 24)], 5, 120, true, [.nils, .nils, .nils, .nils, .nils]⟩,
  ⟨28, .int .i64, 1, 8, false, [.int .i64 0]⟩,
  ⟨34, .struct [(0, 1, 3), (1, 1, 3), (2, 1, 3)], 3, 24, true, [.int .i64 0, .int .i64 0, .int .i64 0]⟩,
  ⟨35, .slice 23 (some (.sl (.st 0))), 1, 24, false, [.nils]⟩,
  ⟨37, .struct [(0, 1, 35)], 1, 24, true, [.nils]⟩,
  ⟨45, .slice 22 (some (.sl (.int .i64))), 1, 24, false, [.nils]⟩,
  ⟨52, .slice 83 (some (.st 4)), 1, 24, false, [.nils]⟩,
  ⟨54, .struct [(0, 1, 3), (1, 1, 22), (2, 1, 52)], 3, 56, true, [.int .i64 0, .nils, .nils]⟩,
  ⟨69, .other, 1, 8, false, [.nilp]⟩,
  ⟨73, .struct [(0, 1, 22), (1, 1, 22), (2, 1, 35)], 3, 72, true, [.nils, .nils, .nils]⟩,
  ⟨83, .struct [(0, 1, 3), (1, 1, 3), (2, 1, 3), (3, 1, 3)], 4, 32, true, [.int .i64 0, .int .i64 0, .int .i64 0, .int .i64 0]⟩,
  ⟨85, .array 2 45, 2, 48, true, [.nils, .nils]⟩,
  ⟨88, .slice 4 (some .bool), 1, 24, false, [.nils]⟩,
  ⟨103, .int .u64, 1, 8, false, [.int .u64 0]⟩,
  ⟨113, .int .u64, 1, 8, false, [.int .u64 0]⟩]
theorem ttok : ttOk Try.prog tt = true := by kernel_rfl
theorem mixed : Try.prog.follows .mixedOrders = true := by kernel_rfl
end Hd
