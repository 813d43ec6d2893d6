/- FarePacked, proved. -/
import Derived.Test.YtodbddhmfecbbaaGreatDoorZ1
import Derived.Test.YtodbddhmfecbbaaGreatDoorZC
namespace Go.Proofs.YtodbddhmfecbbaaGreatDoor
theorem farePacked_proved : Rows.FarePackedCardSaid := FarePacked.close fun x0 x1 x2 _ _ _ => Wq.law x0 x1 x2
end Go.Proofs.YtodbddhmfecbbaaGreatDoor
