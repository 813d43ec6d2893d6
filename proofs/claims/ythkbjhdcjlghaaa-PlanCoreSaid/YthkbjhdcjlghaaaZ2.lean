/- PlanCore, proved. -/
import Derived.Test.YthkbjhdcjlghaaaZ1
import Derived.Test.YthkbjhdcjlghaaaZC
namespace Go.Proofs.Ythkbjhdcjlghaaa
theorem planCore_proved : Rows.PlanCoreSaid := PlanCore.close fun x0 _ => .inl (Pt.law x0)
end Go.Proofs.Ythkbjhdcjlghaaa
