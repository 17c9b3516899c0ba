import Derived.Test.YtfknmdelgepbjaaGreatDoorWZMir
set_option linter.all false
namespace Go.Proofs.YtfknmdelgepbjaaGreatDoor
open Go Go.Sp
def ak.ok (x:ak):Prop:=(fun n=>(Lit.int .i64 n).wf=true) x.aH∧(fun s:BA=>s.size≤maxLen) x.ab∧(fun s:BA=>s.size≤maxLen) x.aj∧(fun s:BA=>s.size≤maxLen) x.bI∧(fun s:BA=>s.size≤maxLen) x.ae∧(fun _=>True) x.aq∧(fun _=>True) x.kb∧(fun n=>(Lit.int .i64 n).wf=true) x.bZ∧(fun n=>(Lit.int .i64 n).wf=true) x.aX∧(fun n=>(Lit.int .i64 n).wf=true) x.aV∧(fun n=>(Lit.int .i64 n).wf=true) x.bf∧True
def jB.ok (x:jB):Prop:=(fun n=>(Lit.int .i64 n).wf=true) x.eb∧(fun xs:List ak=>xs.length≤maxLen∧∀ x∈xs,ak.ok x) x.fl∧(fun n=>(Lit.int .i64 n).wf=true) x.rr∧True
def bB.ok (x:bB):Prop:=(fun s:BA=>s.size≤maxLen) x.ab∧(fun s:BA=>s.size≤maxLen) x.aj∧(fun s:BA=>s.size≤maxLen) x.ae∧(fun _=>True) x.aq∧True
def Pos.ok (x:Pos):Prop:=(fun n=>(Lit.int .i64 n).wf=true) x.bx∧(fun s:BA=>s.size≤maxLen) x.bV∧True
def Cm.ok (x:Cm):Prop:=(fun n=>(Lit.int .i64 n).wf=true) x.fv∧True
def lv.ok (x:lv):Prop:=Cm.ok x.fn∧(fun n=>(Lit.int .i64 n).wf=true) x.eb∧True
def Event.ok (x:Event):Prop:=(fun s:BA=>s.size≤maxLen) x.bV∧(fun s:BA=>s.size≤maxLen) x.ab∧(fun xs:List BA=>xs.length≤maxLen∧∀ x∈xs,(fun s:BA=>s.size≤maxLen) x) x.ag∧(fun s:BA=>s.size≤maxLen) x.ae∧(fun s:BA=>s.size≤maxLen) x.aj∧(fun n=>(Lit.int .i64 n).wf=true) x.bR∧True
def aY.ok (x:aY):Prop:=Event.ok x.fe∧(fun n=>(Lit.int .i64 n).wf=true) x.cK∧(fun _=>True) x.kM∧True
def dq.ok (x:dq):Prop:=(fun n=>(Lit.int .i64 n).wf=true) x.eH∧(fun s:BA=>s.size≤maxLen) x.dx∧True
def aK.ok (x:aK):Prop:=(fun s:BA=>s.size≤maxLen) x.ab∧(fun xs:List Event=>xs.length≤maxLen∧∀ x∈xs,Event.ok x) x.fL∧True
def bA.ok (x:bA):Prop:=(fun xs:List aK=>xs.length≤maxLen∧∀ x∈xs,aK.ok x) x.fD∧True
def MK.ok (x:MK):Prop:=bB.ok x.fK∧Pos.ok x.eH∧True
def kB.ok (x:kB):Prop:=(fun xs:List ak=>xs.length≤maxLen∧∀ x∈xs,ak.ok x) x.fL∧(fun xs:List Bool=>xs.length≤maxLen∧∀ x∈xs,(fun _=>True) x) x.cH∧True
def lF.ok (x:lF):Prop:=(fun xs:List ak=>xs.length≤maxLen∧∀ x∈xs,ak.ok x) x.fL∧(fun xs:List Int=>xs.length≤maxLen∧∀ x∈xs,(fun n=>(Lit.int .i64 n).wf=true) x) x.cH∧True
def jO.ok (x:jO):Prop:=(fun n=>(Lit.int .i64 n).wf=true) x.aH∧bB.ok x.fK∧(fun s:BA=>s.size≤maxLen) x.mJ∧True
def dy.ok (x:dy):Prop:=bA.ok x.fV∧(fun xs:List MK=>xs.length≤maxLen∧∀ x∈xs,MK.ok x) x.fM∧kB.ok x.fT∧lF.ok x.fP∧(fun xs:List jO=>xs.length≤maxLen∧∀ x∈xs,jO.ok x) x.fL∧(fun n=>(Lit.int .i64 n).wf=true) x.aL∧True
def dA.ok (x:dA):Prop:=(fun n=>(Lit.int .i64 n).wf=true) x.aj∧(fun n=>(Lit.int .i64 n).wf=true) x.bR∧(fun xs:List Int=>xs.length≤maxLen∧∀ x∈xs,(fun n=>(Lit.int .i64 n).wf=true) x) x.ag∧(fun n=>(Lit.int .i64 n).wf=true) x.ae∧True
def n5.ok (x:n5):Prop:=(fun n=>(Lit.int .i64 n).wf=true) x.pP∧(fun xs:List ak=>xs.length≤maxLen∧∀ x∈xs,ak.ok x) x.fL∧(fun n=>(Lit.int .i64 n).wf=true) x.qm∧True
def qJ.ok (x:qJ):Prop:=(fun xs:List MK=>xs.length≤maxLen∧∀ x∈xs,MK.ok x) x.fL∧n5.ok x.fP∧True
def vV.ok (x:vV):Prop:=(fun n=>(Lit.int .i64 n).wf=true) x.aH∧(fun s:BA=>s.size≤maxLen) x.ab∧(fun s:BA=>s.size≤maxLen) x.aj∧(fun s:BA=>s.size≤maxLen) x.ae∧(fun _=>True) x.aq∧True
def jg.ok (x:jg):Prop:=bB.ok x.dx∧Pos.ok x.eH∧True
def fQ.ok (x:fQ):Prop:=(fun s:BA=>s.size≤maxLen) x.ab∧(fun xs:List BA=>xs.length≤maxLen∧∀ x∈xs,(fun s:BA=>s.size≤maxLen) x) x.Cn∧True
def fU.ok (x:fU):Prop:=(fun s:BA=>s.size≤maxLen) x.aj∧(fun n=>(Lit.int .i64 n).wf=true) x.aX∧True
def uN.ok (x:uN):Prop:=(fun n=>(Lit.int .i64 n).wf=true) x.jD∧(fun xs:List jg=>xs.length≤maxLen∧∀ x∈xs,jg.ok x) x.ay∧(fun xs:List fQ=>xs.length≤maxLen∧∀ x∈xs,fQ.ok x) x.aO∧(fun xs:List fU=>xs.length≤maxLen∧∀ x∈xs,fU.ok x) x.gP∧True
def oJ.ok (x:oJ):Prop:=(fun n=>(Lit.int .i64 n).wf=true) x.jD∧(fun xs:List MK=>xs.length≤maxLen∧∀ x∈xs,MK.ok x) x.ay∧(fun xs:List fQ=>xs.length≤maxLen∧∀ x∈xs,fQ.ok x) x.aO∧(fun xs:List fU=>xs.length≤maxLen∧∀ x∈xs,fU.ok x) x.gP∧True
end Go.Proofs.YtfknmdelgepbjaaGreatDoor
