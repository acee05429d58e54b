/- Laws of the proof, joined. No condition of its own. -/
import Derived.Test.YteaflphddciglaaGreatDoorCdC
import Derived.Test.YteaflphddciglaaGreatDoorCeW10
import Derived.Test.YteaflphddciglaaGreatDoorCeW20
import Derived.Test.YteaflphddciglaaGreatDoorCeW21
import Derived.Test.YteaflphddciglaaGreatDoorCeW30
import Derived.Test.YteaflphddciglaaGreatDoorCeW31
import Derived.Test.YteaflphddciglaaGreatDoorCeW32
import Derived.Test.YteaflphddciglaaGreatDoorCeW40
import Derived.Test.YteaflphddciglaaGreatDoorCeW41
import Derived.Test.YteaflphddciglaaGreatDoorCeW42
import Derived.Test.YteaflphddciglaaGreatDoorCeW43
set_option linter.all false
namespace Go.Proofs.YteaflphddciglaaGreatDoor
namespace bq
section
open Go.RowKit Go.bn Go.Sx Yq
theorem WU:∀W v,1<=W->W<=4->v<W->fZ W v:=by
 intro W v h1 h4 hv;match W,h1,h4,v,hv with
 |1,_,_,0,_=>exact ad6
 |2,_,_,0,_=>exact ad5
 |2,_,_,1,_=>exact ad4
 |3,_,_,0,_=>exact ad3
 |3,_,_,1,_=>exact ad2
 |3,_,_,2,_=>exact ad1
 |4,_,_,0,_=>exact adZ
 |4,_,_,1,_=>exact adY
 |4,_,_,2,_=>exact adX
 |4,_,_,3,_=>exact adW
