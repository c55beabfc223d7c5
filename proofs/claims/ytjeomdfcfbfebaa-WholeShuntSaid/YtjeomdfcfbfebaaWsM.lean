/- WholeShunt returns true, whatever it is handed. No condition. -/
import Derived.Test.YtjeomdfcfbfebaaWsF
import Derived.Test.YtjeomdfcfbfebaaWsL
namespace Go.Proofs.Ytjeomdfcfbfebaa
open Go.RowKit PM
theorem wholeShunt_walk (al be link per least dead x0 x1 x2 : Int) (w : World) :
    Calls Try.prog 3 #[.agg #[.int .i64 al, .int .i64 be], .agg #[.int .i64 link, .int .i64 per, .int .i64 least, .int .i64 dead], .agg #[.int .i64 x0, .int .i64 x1, .int .i64 x2]] w fun e w' => e = .returned (.bool true) ∧ Below w.heap.size w w' :=
  whole_walk al be link per least dead x0 x1 x2 centred_any w
end Go.Proofs.Ytjeomdfcfbfebaa
