/- GuardFlips, proved. -/
import Derived.Test.YtgflagiblnkchaaDoorZ1
import Derived.Test.YtgflagiblnkchaaDoorZC
namespace Go.Proofs.YtgflagiblnkchaaDoor
theorem guardFlips_proved : Rows.GuardFlipsCardSaid := GuardFlips.close fun x0 x1 _ h => Gp.law x0 x1 h.1
end Go.Proofs.YtgflagiblnkchaaDoor
