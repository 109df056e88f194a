/- Lemmas towards the laws of the aggregates: contracts of the Go functions of package agg, and the plain arithmetic beneath. No conditions. -/
import Derived.Test.YtodpmiaedpmngaaPureB
namespace Go.Proofs.Ytodpmiaedpmngaa.Pure
theorem AggOrder : Go.Proofs.Ytodpmiaedpmngaa.X.leatlaw10_AggOrder.Pure := Go.Proofs.Ytodpmiaedpmngaa.X.AggOrder
end Go.Proofs.Ytodpmiaedpmngaa.Pure
