import Derived.Test.YtollifnnpihfdaaGreatDoorX01
set_option maxRecDepth 100000
set_option maxHeartbeats 64000000
set_option linter.all false
namespace Go.Proofs.YtollifnnpihfdaaGreatDoor
def Fw (f:Int):Bool:=decide ((1≤f∧f≤8)∨f=13∨f=14)
def qU (l f:Int):Bool:=
 if l=1∨l=4 then Fw f
 else if l=2 then decide (1≤f∧f≤14)
 else if l=3 then decide (1≤f∧f≤21)
 else if l=5 then Fw f || decide (f=22)
 else false
def jQ (f:Int):Bool:=decide (f=13∨f=14)
def uV (f:Int):Bool:=decide ((3≤f∧f≤7)∨f=19∨f=20)
def pX (f:Int):Bool:=decide (17≤f∧f≤21)
def fK (fd op nu:Int) (tx:ByteArray) (ot l:Int):Int:=
 if qU l fd=false then 120
 else if ot≠0∧(qU l ot=false∨uV fd=false∨uV ot=false) then 120
 else if op < 1∨8 < op then 121
 else if 2 < op∧(jQ fd=true∨ot≠0) then 121
 else if ot≠0∧(nu≠0∨tx.size≠0) then 122
 else if jQ fd=true∧(nu≠0∨tx.size=0∨640 < tx.size) then 122
 else if jQ fd=false∧tx.size≠0 then 122
 else 0
open Go.RowKit
theorem oG {x y:Bool} (h:x=y):Ending.returned (.bool x)=Ending.returned (.bool y):=by rw [h]
end Go.Proofs.YtollifnnpihfdaaGreatDoor
