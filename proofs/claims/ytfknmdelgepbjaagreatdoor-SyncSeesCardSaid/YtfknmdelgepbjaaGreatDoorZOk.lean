import Derived.Test.YtfknmdelgepbjaaGreatDoorZMir
set_option linter.all false
namespace Go.Proofs.YtfknmdelgepbjaaGreatDoor
open Go Go.Sp
def ai.ok (x:ai):Prop:=(fun n=>(Lit.int .i64 n).wf=true) x.aE∧(fun s:BA=>s.size≤maxLen) x.aa∧(fun s:BA=>s.size≤maxLen) x.ak∧(fun s:BA=>s.size≤maxLen) x.bB∧(fun s:BA=>s.size≤maxLen) x.ag∧(fun _=>True) x.au∧(fun _=>True) x.jX∧(fun n=>(Lit.int .i64 n).wf=true) x.bV∧(fun n=>(Lit.int .i64 n).wf=true) x.aU∧(fun n=>(Lit.int .i64 n).wf=true) x.aQ∧(fun n=>(Lit.int .i64 n).wf=true) x.aX∧True
def jB.ok (x:jB):Prop:=(fun n=>(Lit.int .i64 n).wf=true) x.dZ∧(fun xs:List ai=>xs.length≤maxLen∧∀ x∈xs,ai.ok x) x.fl∧(fun n=>(Lit.int .i64 n).wf=true) x.qG∧True
def bz.ok (x:bz):Prop:=(fun s:BA=>s.size≤maxLen) x.aa∧(fun s:BA=>s.size≤maxLen) x.ak∧(fun s:BA=>s.size≤maxLen) x.ag∧(fun _=>True) x.au∧True
def Pos.ok (x:Pos):Prop:=(fun n=>(Lit.int .i64 n).wf=true) x.bJ∧(fun s:BA=>s.size≤maxLen) x.b9∧True
def Bc.ok (x:Bc):Prop:=(fun n=>(Lit.int .i64 n).wf=true) x.fv∧True
def kJ.ok (x:kJ):Prop:=Bc.ok x.fn∧(fun n=>(Lit.int .i64 n).wf=true) x.dZ∧True
def Event.ok (x:Event):Prop:=(fun s:BA=>s.size≤maxLen) x.b9∧(fun s:BA=>s.size≤maxLen) x.aa∧(fun xs:List BA=>xs.length≤maxLen∧∀ x∈xs,(fun s:BA=>s.size≤maxLen) x) x.ae∧(fun s:BA=>s.size≤maxLen) x.ag∧(fun s:BA=>s.size≤maxLen) x.ak∧(fun n=>(Lit.int .i64 n).wf=true) x.bL∧True
def aT.ok (x:aT):Prop:=Event.ok x.fe∧(fun n=>(Lit.int .i64 n).wf=true) x.cI∧(fun _=>True) x.kB∧True
def db.ok (x:db):Prop:=(fun n=>(Lit.int .i64 n).wf=true) x.kS∧(fun s:BA=>s.size≤maxLen) x.dI∧True
def aF.ok (x:aF):Prop:=(fun s:BA=>s.size≤maxLen) x.aa∧(fun xs:List Event=>xs.length≤maxLen∧∀ x∈xs,Event.ok x) x.fL∧True
def bq.ok (x:bq):Prop:=(fun xs:List aF=>xs.length≤maxLen∧∀ x∈xs,aF.ok x) x.fD∧True
def MK.ok (x:MK):Prop:=bz.ok x.fK∧Pos.ok x.kS∧True
def jO.ok (x:jO):Prop:=(fun xs:List ai=>xs.length≤maxLen∧∀ x∈xs,ai.ok x) x.fL∧(fun xs:List Bool=>xs.length≤maxLen∧∀ x∈xs,(fun _=>True) x) x.cQ∧True
def kA.ok (x:kA):Prop:=(fun xs:List ai=>xs.length≤maxLen∧∀ x∈xs,ai.ok x) x.fL∧(fun xs:List Int=>xs.length≤maxLen∧∀ x∈xs,(fun n=>(Lit.int .i64 n).wf=true) x) x.cQ∧True
def ig.ok (x:ig):Prop:=(fun n=>(Lit.int .i64 n).wf=true) x.aE∧bz.ok x.fK∧(fun s:BA=>s.size≤maxLen) x.jG∧True
def dE.ok (x:dE):Prop:=bq.ok x.fV∧(fun xs:List MK=>xs.length≤maxLen∧∀ x∈xs,MK.ok x) x.fM∧jO.ok x.fT∧kA.ok x.fP∧(fun xs:List ig=>xs.length≤maxLen∧∀ x∈xs,ig.ok x) x.fL∧(fun n=>(Lit.int .i64 n).wf=true) x.aP∧True
def de.ok (x:de):Prop:=(fun n=>(Lit.int .i64 n).wf=true) x.ak∧(fun n=>(Lit.int .i64 n).wf=true) x.bL∧(fun xs:List Int=>xs.length≤maxLen∧∀ x∈xs,(fun n=>(Lit.int .i64 n).wf=true) x) x.ae∧(fun n=>(Lit.int .i64 n).wf=true) x.ag∧True
def mI.ok (x:mI):Prop:=(fun n=>(Lit.int .i64 n).wf=true) x.nS∧(fun xs:List ai=>xs.length≤maxLen∧∀ x∈xs,ai.ok x) x.fL∧(fun n=>(Lit.int .i64 n).wf=true) x.o5∧True
def pO.ok (x:pO):Prop:=(fun xs:List MK=>xs.length≤maxLen∧∀ x∈xs,MK.ok x) x.fL∧mI.ok x.fP∧True
def uB.ok (x:uB):Prop:=(fun n=>(Lit.int .i64 n).wf=true) x.aE∧(fun s:BA=>s.size≤maxLen) x.aa∧(fun s:BA=>s.size≤maxLen) x.ak∧(fun s:BA=>s.size≤maxLen) x.ag∧(fun _=>True) x.au∧True
def jZ.ok (x:jZ):Prop:=bz.ok x.dI∧Pos.ok x.kS∧True
def iF.ok (x:iF):Prop:=(fun s:BA=>s.size≤maxLen) x.aa∧(fun xs:List BA=>xs.length≤maxLen∧∀ x∈xs,(fun s:BA=>s.size≤maxLen) x) x.kT∧True
def jC.ok (x:jC):Prop:=(fun s:BA=>s.size≤maxLen) x.ak∧(fun n=>(Lit.int .i64 n).wf=true) x.aU∧True
def tJ.ok (x:tJ):Prop:=(fun n=>(Lit.int .i64 n).wf=true) x.sE∧(fun xs:List jZ=>xs.length≤maxLen∧∀ x∈xs,jZ.ok x) x.bu∧(fun xs:List iF=>xs.length≤maxLen∧∀ x∈xs,iF.ok x) x.aW∧(fun xs:List jC=>xs.length≤maxLen∧∀ x∈xs,jC.ok x) x.nU∧True
def uF.ok (x:uF):Prop:=(fun n=>(Lit.int .i64 n).wf=true) x.sE∧(fun xs:List MK=>xs.length≤maxLen∧∀ x∈xs,MK.ok x) x.bu∧(fun xs:List iF=>xs.length≤maxLen∧∀ x∈xs,iF.ok x) x.aW∧(fun xs:List jC=>xs.length≤maxLen∧∀ x∈xs,jC.ok x) x.nU∧True
end Go.Proofs.YtfknmdelgepbjaaGreatDoor
