/- FareWhole, proved. -/
import Derived.Test.YtodbddhmfecbbaaGreatDoorZ1
import Derived.Test.YtodbddhmfecbbaaGreatDoorZC
namespace Go.Proofs.YtodbddhmfecbbaaGreatDoor
theorem fareWhole_proved : Rows.FareWholeCardSaid := FareWhole.close fun x0 x1 _ _ => Wp.law x0 x1
end Go.Proofs.YtodbddhmfecbbaaGreatDoor
