import Derived.Test.YtfknmdelgepbjaaGreatDoorZMir
set_option linter.all false
namespace Go.Proofs.YtfknmdelgepbjaaGreatDoor
open Go Go.Sp
def ak.ok (x:ak):Prop:=(fun n=>(Lit.int .i64 n).wf=true) x.aH∧(fun s:BA=>s.size≤maxLen) x.aa∧(fun s:BA=>s.size≤maxLen) x.ai∧(fun s:BA=>s.size≤maxLen) x.bE∧(fun s:BA=>s.size≤maxLen) x.ae∧(fun _=>True) x.ao∧(fun _=>True) x.j8∧(fun n=>(Lit.int .i64 n).wf=true) x.b7∧(fun n=>(Lit.int .i64 n).wf=true) x.aM∧(fun n=>(Lit.int .i64 n).wf=true) x.aT∧(fun n=>(Lit.int .i64 n).wf=true) x.bf∧True
def jq.ok (x:jq):Prop:=(fun n=>(Lit.int .i64 n).wf=true) x.dX∧(fun xs:List ak=>xs.length≤maxLen∧∀ x∈xs,ak.ok x) x.fl∧(fun n=>(Lit.int .i64 n).wf=true) x.rf∧True
def bB.ok (x:bB):Prop:=(fun s:BA=>s.size≤maxLen) x.aa∧(fun s:BA=>s.size≤maxLen) x.ai∧(fun s:BA=>s.size≤maxLen) x.ae∧(fun _=>True) x.ao∧True
def Pos.ok (x:Pos):Prop:=(fun n=>(Lit.int .i64 n).wf=true) x.bp∧(fun s:BA=>s.size≤maxLen) x.bS∧True
def BK.ok (x:BK):Prop:=(fun n=>(Lit.int .i64 n).wf=true) x.fv∧True
def lh.ok (x:lh):Prop:=BK.ok x.fn∧(fun n=>(Lit.int .i64 n).wf=true) x.dX∧True
def Event.ok (x:Event):Prop:=(fun s:BA=>s.size≤maxLen) x.bS∧(fun s:BA=>s.size≤maxLen) x.aa∧(fun xs:List BA=>xs.length≤maxLen∧∀ x∈xs,(fun s:BA=>s.size≤maxLen) x) x.ag∧(fun s:BA=>s.size≤maxLen) x.ae∧(fun s:BA=>s.size≤maxLen) x.ai∧(fun n=>(Lit.int .i64 n).wf=true) x.bO∧True
def aX.ok (x:aX):Prop:=Event.ok x.fe∧(fun n=>(Lit.int .i64 n).wf=true) x.cM∧(fun _=>True) x.kF∧True
def dh.ok (x:dh):Prop:=(fun n=>(Lit.int .i64 n).wf=true) x.gF∧(fun s:BA=>s.size≤maxLen) x.bY∧True
def aQ.ok (x:aQ):Prop:=(fun s:BA=>s.size≤maxLen) x.aa∧(fun xs:List Event=>xs.length≤maxLen∧∀ x∈xs,Event.ok x) x.fL∧True
def bF.ok (x:bF):Prop:=(fun xs:List aQ=>xs.length≤maxLen∧∀ x∈xs,aQ.ok x) x.fD∧True
def MK.ok (x:MK):Prop:=bB.ok x.fK∧Pos.ok x.gF∧True
def kX.ok (x:kX):Prop:=(fun xs:List ak=>xs.length≤maxLen∧∀ x∈xs,ak.ok x) x.fL∧(fun xs:List Bool=>xs.length≤maxLen∧∀ x∈xs,(fun _=>True) x) x.fx∧True
def lW.ok (x:lW):Prop:=(fun xs:List ak=>xs.length≤maxLen∧∀ x∈xs,ak.ok x) x.fL∧(fun xs:List Int=>xs.length≤maxLen∧∀ x∈xs,(fun n=>(Lit.int .i64 n).wf=true) x) x.fx∧True
def kR.ok (x:kR):Prop:=(fun n=>(Lit.int .i64 n).wf=true) x.aH∧bB.ok x.fK∧(fun s:BA=>s.size≤maxLen) x.mb∧True
def dQ.ok (x:dQ):Prop:=bF.ok x.fV∧(fun xs:List MK=>xs.length≤maxLen∧∀ x∈xs,MK.ok x) x.fM∧kX.ok x.fT∧lW.ok x.fP∧(fun xs:List kR=>xs.length≤maxLen∧∀ x∈xs,kR.ok x) x.fL∧(fun n=>(Lit.int .i64 n).wf=true) x.aV∧True
def dt.ok (x:dt):Prop:=(fun n=>(Lit.int .i64 n).wf=true) x.ai∧(fun n=>(Lit.int .i64 n).wf=true) x.bO∧(fun xs:List Int=>xs.length≤maxLen∧∀ x∈xs,(fun n=>(Lit.int .i64 n).wf=true) x) x.ag∧(fun n=>(Lit.int .i64 n).wf=true) x.ae∧True
def nZ.ok (x:nZ):Prop:=(fun n=>(Lit.int .i64 n).wf=true) x.pJ∧(fun xs:List ak=>xs.length≤maxLen∧∀ x∈xs,ak.ok x) x.fL∧(fun n=>(Lit.int .i64 n).wf=true) x.pS∧True
def pT.ok (x:pT):Prop:=(fun xs:List MK=>xs.length≤maxLen∧∀ x∈xs,MK.ok x) x.fL∧nZ.ok x.fP∧True
def uP.ok (x:uP):Prop:=(fun n=>(Lit.int .i64 n).wf=true) x.aH∧(fun s:BA=>s.size≤maxLen) x.aa∧(fun s:BA=>s.size≤maxLen) x.ai∧(fun s:BA=>s.size≤maxLen) x.ae∧(fun _=>True) x.ao∧True
def eV.ok (x:eV):Prop:=bB.ok x.bY∧Pos.ok x.gF∧True
def eC.ok (x:eC):Prop:=(fun s:BA=>s.size≤maxLen) x.aa∧(fun xs:List BA=>xs.length≤maxLen∧∀ x∈xs,(fun s:BA=>s.size≤maxLen) x) x.ly∧True
def eS.ok (x:eS):Prop:=(fun s:BA=>s.size≤maxLen) x.ai∧(fun n=>(Lit.int .i64 n).wf=true) x.aM∧True
def tC.ok (x:tC):Prop:=(fun n=>(Lit.int .i64 n).wf=true) x.lp∧(fun xs:List eV=>xs.length≤maxLen∧∀ x∈xs,eV.ok x) x.aB∧(fun xs:List eC=>xs.length≤maxLen∧∀ x∈xs,eC.ok x) x.aw∧(fun xs:List eS=>xs.length≤maxLen∧∀ x∈xs,eS.ok x) x.bK∧True
def nG.ok (x:nG):Prop:=(fun n=>(Lit.int .i64 n).wf=true) x.lp∧(fun xs:List MK=>xs.length≤maxLen∧∀ x∈xs,MK.ok x) x.aB∧(fun xs:List eC=>xs.length≤maxLen∧∀ x∈xs,eC.ok x) x.aw∧(fun xs:List eS=>xs.length≤maxLen∧∀ x∈xs,eS.ok x) x.bK∧True
end Go.Proofs.YtfknmdelgepbjaaGreatDoor
