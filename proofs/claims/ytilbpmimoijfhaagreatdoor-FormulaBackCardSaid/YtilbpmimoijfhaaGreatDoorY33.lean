/- What all cards of this seat ask of the program as a whole: each a fact of its own (together they outgrow the memory's lid). -/
import Derived.Test.YtilbpmimoijfhaaGreatDoorY30
namespace Go.Proofs.YtilbpmimoijfhaaGreatDoor
set_option linter.all false
set_option maxRecDepth 100000
set_option maxHeartbeats 16000000
open Go.RowKit Go.Proofs.Tryz
section
open Go.ChangeShapes Go.WideShapes Go.ChangeAt Go.RowKit Go.WideMaps Go.WideElems
def dA {a b:Bool} (c:a=true) (hb:b=true):(a&&b)=true:=by rw[c,hb];rfl
def ycl:laidOutB Tryz.pinned.checked.prog=true:=yS
def ych:mapsRowed Tryz.pinned.checked.prog=true:=cI
def ycd:(Tryz.pinned.checked.prog.stops==[])=true:=cI
def ycY:(Tryz.pinned.checked.prog.stopKnobs==[])=true:=cI
def ycC:(true==Tryz.pinned.checked.prog.plainKeys)=true:=cI
def yaU:Tryz.pinned.checked.prog.stopsHeard=true:=cI
def ybS:Tryz.pinned.checked.prog.mayEnter=true:=cI
def yaA:(Rows.formulaSizesRow.lifted==Tryz.pinned.checked.prog.liftsFinal)=true:=cI
def yaJ:(Tryz.pinned.checked.prog.make==some Rows.formulaSizesRow.make)=true:=cI
end
end Go.Proofs.YtilbpmimoijfhaaGreatDoor
