/- LineRuns. -/
import Derived.Test.YtoamdmkakblnnaaDoorZ1
import Derived.Test.YtoamdmkakblnnaaDoorZC
namespace Go.Proofs.YtoamdmkakblnnaaDoor
theorem lineRuns_proved : Rows.LineRunsCardSaid := LineRuns.close fun n hn => Lr.law n ⟨hn.1.1, hn.1.2, hn.2.2.1.1, hn.2.2.2.1.1, hn.2.2.2.2.1⟩
end Go.Proofs.YtoamdmkakblnnaaDoor
