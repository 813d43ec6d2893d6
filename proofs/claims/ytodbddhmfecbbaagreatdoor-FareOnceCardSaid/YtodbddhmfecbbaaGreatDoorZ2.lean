/- FareOnce, proved. -/
import Derived.Test.YtodbddhmfecbbaaGreatDoorZ1
import Derived.Test.YtodbddhmfecbbaaGreatDoorZC
namespace Go.Proofs.YtodbddhmfecbbaaGreatDoor
theorem fareOnce_proved : Rows.FareOnceCardSaid := FareOnce.close fun x0 x1 x2 x3 _ _ _ _ h => Wo.law x0 x1 x2 x3 h
end Go.Proofs.YtodbddhmfecbbaaGreatDoor
