/- Lemmas towards the laws of the aggregates: contracts of the Go functions of package agg, and the plain arithmetic beneath. No conditions. -/
import Derived.Test.YtodpmiaedpmngaaPureA
namespace Go.Proofs.Ytodpmiaedpmngaa.Pure
theorem AggPlays : Go.Proofs.Ytodpmiaedpmngaa.X.leatlaw10_AggPlays.Pure := Go.Proofs.Ytodpmiaedpmngaa.X.AggPlays
end Go.Proofs.Ytodpmiaedpmngaa.Pure
