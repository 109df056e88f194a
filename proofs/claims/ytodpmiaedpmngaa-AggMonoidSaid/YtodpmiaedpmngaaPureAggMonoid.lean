/- Lemmas towards the laws of the aggregates: contracts of the Go functions of package agg, and the plain arithmetic beneath. No conditions. -/
import Derived.Test.YtodpmiaedpmngaaPureA
namespace Go.Proofs.Ytodpmiaedpmngaa.Pure
theorem AggMonoid : Go.Proofs.Ytodpmiaedpmngaa.X.leatlaw10_AggMonoid.Pure := Go.Proofs.Ytodpmiaedpmngaa.X.AggMonoid
end Go.Proofs.Ytodpmiaedpmngaa.Pure
