/- LineTurns. -/
import Derived.Test.YtoamdmkakblnnaaDoorZ1
import Derived.Test.YtoamdmkakblnnaaDoorZC
namespace Go.Proofs.YtoamdmkakblnnaaDoor
theorem lineTurns_proved : Rows.LineTurnsCardSaid := LineTurns.close fun n p hn _ => Lt.law n p ⟨hn.1.1, hn.1.2, hn.2.2.1.1, hn.2.2.2.1.1, hn.2.2.2.2.1⟩
end Go.Proofs.YtoamdmkakblnnaaDoor
