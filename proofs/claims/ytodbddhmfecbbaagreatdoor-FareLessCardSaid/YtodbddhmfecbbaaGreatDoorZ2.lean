/- FareLess, proved. -/
import Derived.Test.YtodbddhmfecbbaaGreatDoorZ1
import Derived.Test.YtodbddhmfecbbaaGreatDoorZC
namespace Go.Proofs.YtodbddhmfecbbaaGreatDoor
theorem fareLess_proved : Rows.FareLessCardSaid := FareLess.close fun x0 x1 x2 x3 _ _ h2 h3 => Wr.law x0 x1 x2 x3 h2.2.2.1 h3.2.2.1
end Go.Proofs.YtodbddhmfecbbaaGreatDoor
