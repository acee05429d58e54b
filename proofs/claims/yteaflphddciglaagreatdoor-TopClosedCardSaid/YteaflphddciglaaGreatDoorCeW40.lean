/- Laws of the proof, joined. No condition of its own. -/
import Derived.Test.YteaflphddciglaaGreatDoorCdE
set_option linter.all false
namespace Go.Proofs.YteaflphddciglaaGreatDoor
namespace bq
section
open Go.RowKit Go.bn Go.Sx
set_option maxRecDepth 100000
set_option maxHeartbeats 4000000000 in
theorem adZ:Yq.fZ 4 0:=wT.walks (by constructor<;>as_aux_lemma=>((repeat intro _);kernel_rfl))
