import Derived.Test.YtfknmdelgepbjaaGreatDoorZMir
set_option linter.all false
namespace Go.Proofs.YtfknmdelgepbjaaGreatDoor
open Go Go.Sp
def ak.ok (x:ak):Prop:=(fun n=>(Lit.int .i64 n).wf=true) x.aG∧(fun s:BA=>s.size≤maxLen) x.aa∧(fun s:BA=>s.size≤maxLen) x.ai∧(fun s:BA=>s.size≤maxLen) x.bC∧(fun s:BA=>s.size≤maxLen) x.ae∧(fun _=>True) x.ao∧(fun _=>True) x.jS∧(fun n=>(Lit.int .i64 n).wf=true) x.b8∧(fun n=>(Lit.int .i64 n).wf=true) x.aM∧(fun n=>(Lit.int .i64 n).wf=true) x.aS∧(fun n=>(Lit.int .i64 n).wf=true) x.aY∧True
def jk.ok (x:jk):Prop:=(fun n=>(Lit.int .i64 n).wf=true) x.dU∧(fun xs:List ak=>xs.length≤maxLen∧∀ x∈xs,ak.ok x) x.fl∧(fun n=>(Lit.int .i64 n).wf=true) x.qO∧True
def bx.ok (x:bx):Prop:=(fun s:BA=>s.size≤maxLen) x.aa∧(fun s:BA=>s.size≤maxLen) x.ai∧(fun s:BA=>s.size≤maxLen) x.ae∧(fun _=>True) x.ao∧True
def Pos.ok (x:Pos):Prop:=(fun n=>(Lit.int .i64 n).wf=true) x.bq∧(fun s:BA=>s.size≤maxLen) x.cJ∧True
def Bz.ok (x:Bz):Prop:=(fun n=>(Lit.int .i64 n).wf=true) x.fv∧True
def kI.ok (x:kI):Prop:=Bz.ok x.fn∧(fun n=>(Lit.int .i64 n).wf=true) x.dU∧True
def Event.ok (x:Event):Prop:=(fun s:BA=>s.size≤maxLen) x.cJ∧(fun s:BA=>s.size≤maxLen) x.aa∧(fun xs:List BA=>xs.length≤maxLen∧∀ x∈xs,(fun s:BA=>s.size≤maxLen) x) x.ag∧(fun s:BA=>s.size≤maxLen) x.ae∧(fun s:BA=>s.size≤maxLen) x.ai∧(fun n=>(Lit.int .i64 n).wf=true) x.bR∧True
def aW.ok (x:aW):Prop:=Event.ok x.fe∧(fun n=>(Lit.int .i64 n).wf=true) x.cN∧(fun _=>True) x.kc∧True
def di.ok (x:di):Prop:=(fun n=>(Lit.int .i64 n).wf=true) x.fY∧(fun s:BA=>s.size≤maxLen) x.bY∧True
def aQ.ok (x:aQ):Prop:=(fun s:BA=>s.size≤maxLen) x.aa∧(fun xs:List Event=>xs.length≤maxLen∧∀ x∈xs,Event.ok x) x.fL∧True
def bF.ok (x:bF):Prop:=(fun xs:List aQ=>xs.length≤maxLen∧∀ x∈xs,aQ.ok x) x.fD∧True
def MK.ok (x:MK):Prop:=bx.ok x.fK∧Pos.ok x.fY∧True
def kE.ok (x:kE):Prop:=(fun xs:List ak=>xs.length≤maxLen∧∀ x∈xs,ak.ok x) x.fL∧(fun xs:List Bool=>xs.length≤maxLen∧∀ x∈xs,(fun _=>True) x) x.eF∧True
def lD.ok (x:lD):Prop:=(fun xs:List ak=>xs.length≤maxLen∧∀ x∈xs,ak.ok x) x.fL∧(fun xs:List Int=>xs.length≤maxLen∧∀ x∈xs,(fun n=>(Lit.int .i64 n).wf=true) x) x.eF∧True
def kZ.ok (x:kZ):Prop:=(fun n=>(Lit.int .i64 n).wf=true) x.aG∧bx.ok x.fK∧(fun s:BA=>s.size≤maxLen) x.mO∧True
def dt.ok (x:dt):Prop:=bF.ok x.fV∧(fun xs:List MK=>xs.length≤maxLen∧∀ x∈xs,MK.ok x) x.fM∧kE.ok x.fT∧lD.ok x.fP∧(fun xs:List kZ=>xs.length≤maxLen∧∀ x∈xs,kZ.ok x) x.fL∧(fun n=>(Lit.int .i64 n).wf=true) x.bQ∧True
def dw.ok (x:dw):Prop:=(fun n=>(Lit.int .i64 n).wf=true) x.ai∧(fun n=>(Lit.int .i64 n).wf=true) x.bR∧(fun xs:List Int=>xs.length≤maxLen∧∀ x∈xs,(fun n=>(Lit.int .i64 n).wf=true) x) x.ag∧(fun n=>(Lit.int .i64 n).wf=true) x.ae∧True
def nH.ok (x:nH):Prop:=(fun n=>(Lit.int .i64 n).wf=true) x.o8∧(fun xs:List ak=>xs.length≤maxLen∧∀ x∈xs,ak.ok x) x.fL∧(fun n=>(Lit.int .i64 n).wf=true) x.pK∧True
def ql.ok (x:ql):Prop:=(fun xs:List MK=>xs.length≤maxLen∧∀ x∈xs,MK.ok x) x.fL∧nH.ok x.fP∧True
def uA.ok (x:uA):Prop:=(fun n=>(Lit.int .i64 n).wf=true) x.aG∧(fun s:BA=>s.size≤maxLen) x.aa∧(fun s:BA=>s.size≤maxLen) x.ai∧(fun s:BA=>s.size≤maxLen) x.ae∧(fun _=>True) x.ao∧True
def eQ.ok (x:eQ):Prop:=bx.ok x.bY∧Pos.ok x.fY∧True
def eA.ok (x:eA):Prop:=(fun s:BA=>s.size≤maxLen) x.aa∧(fun xs:List BA=>xs.length≤maxLen∧∀ x∈xs,(fun s:BA=>s.size≤maxLen) x) x.kP∧True
def eR.ok (x:eR):Prop:=(fun s:BA=>s.size≤maxLen) x.ai∧(fun n=>(Lit.int .i64 n).wf=true) x.aM∧True
def sX.ok (x:sX):Prop:=(fun n=>(Lit.int .i64 n).wf=true) x.kO∧(fun xs:List eQ=>xs.length≤maxLen∧∀ x∈xs,eQ.ok x) x.ay∧(fun xs:List eA=>xs.length≤maxLen∧∀ x∈xs,eA.ok x) x.av∧(fun xs:List eR=>xs.length≤maxLen∧∀ x∈xs,eR.ok x) x.bL∧True
def o0.ok (x:o0):Prop:=(fun n=>(Lit.int .i64 n).wf=true) x.kO∧(fun xs:List MK=>xs.length≤maxLen∧∀ x∈xs,MK.ok x) x.ay∧(fun xs:List eA=>xs.length≤maxLen∧∀ x∈xs,eA.ok x) x.av∧(fun xs:List eR=>xs.length≤maxLen∧∀ x∈xs,eR.ok x) x.bL∧True
end Go.Proofs.YtfknmdelgepbjaaGreatDoor
