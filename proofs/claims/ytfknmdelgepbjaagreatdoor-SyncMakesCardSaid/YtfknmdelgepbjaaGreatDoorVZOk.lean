import Derived.Test.YtfknmdelgepbjaaGreatDoorVZMir
set_option linter.all false
namespace Go.Proofs.YtfknmdelgepbjaaGreatDoor
open Go Go.Sp
def ak.ok (x:ak):Prop:=(fun n=>(Lit.int .i64 n).wf=true) x.aI∧(fun s:BA=>s.size≤maxLen) x.ab∧(fun s:BA=>s.size≤maxLen) x.aj∧(fun s:BA=>s.size≤maxLen) x.bH∧(fun s:BA=>s.size≤maxLen) x.ae∧(fun _=>True) x.aq∧(fun _=>True) x.kl∧(fun n=>(Lit.int .i64 n).wf=true) x.bW∧(fun n=>(Lit.int .i64 n).wf=true) x.aQ∧(fun n=>(Lit.int .i64 n).wf=true) x.aU∧(fun n=>(Lit.int .i64 n).wf=true) x.aZ∧True
def jH.ok (x:jH):Prop:=(fun n=>(Lit.int .i64 n).wf=true) x.eb∧(fun xs:List ak=>xs.length≤maxLen∧∀ x∈xs,ak.ok x) x.fl∧(fun n=>(Lit.int .i64 n).wf=true) x.qZ∧True
def bB.ok (x:bB):Prop:=(fun s:BA=>s.size≤maxLen) x.ab∧(fun s:BA=>s.size≤maxLen) x.aj∧(fun s:BA=>s.size≤maxLen) x.ae∧(fun _=>True) x.aq∧True
def Pos.ok (x:Pos):Prop:=(fun n=>(Lit.int .i64 n).wf=true) x.br∧(fun s:BA=>s.size≤maxLen) x.bQ∧True
def Bx.ok (x:Bx):Prop:=(fun n=>(Lit.int .i64 n).wf=true) x.fv∧True
def lz.ok (x:lz):Prop:=Bx.ok x.fn∧(fun n=>(Lit.int .i64 n).wf=true) x.eb∧True
def Event.ok (x:Event):Prop:=(fun s:BA=>s.size≤maxLen) x.bQ∧(fun s:BA=>s.size≤maxLen) x.ab∧(fun xs:List BA=>xs.length≤maxLen∧∀ x∈xs,(fun s:BA=>s.size≤maxLen) x) x.ag∧(fun s:BA=>s.size≤maxLen) x.ae∧(fun s:BA=>s.size≤maxLen) x.aj∧(fun n=>(Lit.int .i64 n).wf=true) x.bO∧True
def aX.ok (x:aX):Prop:=Event.ok x.fe∧(fun n=>(Lit.int .i64 n).wf=true) x.cI∧(fun _=>True) x.kT∧True
def dq.ok (x:dq):Prop:=(fun n=>(Lit.int .i64 n).wf=true) x.hM∧(fun s:BA=>s.size≤maxLen) x.dw∧True
def aM.ok (x:aM):Prop:=(fun s:BA=>s.size≤maxLen) x.ab∧(fun xs:List Event=>xs.length≤maxLen∧∀ x∈xs,Event.ok x) x.fL∧True
def bA.ok (x:bA):Prop:=(fun xs:List aM=>xs.length≤maxLen∧∀ x∈xs,aM.ok x) x.fD∧True
def MK.ok (x:MK):Prop:=bB.ok x.fK∧Pos.ok x.hM∧True
def kH.ok (x:kH):Prop:=(fun xs:List ak=>xs.length≤maxLen∧∀ x∈xs,ak.ok x) x.fL∧(fun xs:List Bool=>xs.length≤maxLen∧∀ x∈xs,(fun _=>True) x) x.db∧True
def lH.ok (x:lH):Prop:=(fun xs:List ak=>xs.length≤maxLen∧∀ x∈xs,ak.ok x) x.fL∧(fun xs:List Int=>xs.length≤maxLen∧∀ x∈xs,(fun n=>(Lit.int .i64 n).wf=true) x) x.db∧True
def kb.ok (x:kb):Prop:=(fun n=>(Lit.int .i64 n).wf=true) x.aI∧bB.ok x.fK∧(fun s:BA=>s.size≤maxLen) x.mT∧True
def dU.ok (x:dU):Prop:=bA.ok x.fV∧(fun xs:List MK=>xs.length≤maxLen∧∀ x∈xs,MK.ok x) x.fM∧kH.ok x.fT∧lH.ok x.fP∧(fun xs:List kb=>xs.length≤maxLen∧∀ x∈xs,kb.ok x) x.fL∧(fun n=>(Lit.int .i64 n).wf=true) x.aC∧True
def dz.ok (x:dz):Prop:=(fun n=>(Lit.int .i64 n).wf=true) x.aj∧(fun n=>(Lit.int .i64 n).wf=true) x.bO∧(fun xs:List Int=>xs.length≤maxLen∧∀ x∈xs,(fun n=>(Lit.int .i64 n).wf=true) x) x.ag∧(fun n=>(Lit.int .i64 n).wf=true) x.ae∧True
def nY.ok (x:nY):Prop:=(fun n=>(Lit.int .i64 n).wf=true) x.pI∧(fun xs:List ak=>xs.length≤maxLen∧∀ x∈xs,ak.ok x) x.fL∧(fun n=>(Lit.int .i64 n).wf=true) x.qm∧True
def qG.ok (x:qG):Prop:=(fun xs:List MK=>xs.length≤maxLen∧∀ x∈xs,MK.ok x) x.fL∧nY.ok x.fP∧True
def u0.ok (x:u0):Prop:=(fun n=>(Lit.int .i64 n).wf=true) x.aI∧(fun s:BA=>s.size≤maxLen) x.ab∧(fun s:BA=>s.size≤maxLen) x.aj∧(fun s:BA=>s.size≤maxLen) x.ae∧(fun _=>True) x.aq∧True
def jg.ok (x:jg):Prop:=bB.ok x.dw∧Pos.ok x.hM∧True
def fE.ok (x:fE):Prop:=(fun s:BA=>s.size≤maxLen) x.ab∧(fun xs:List BA=>xs.length≤maxLen∧∀ x∈xs,(fun s:BA=>s.size≤maxLen) x) x.nI∧True
def fm.ok (x:fm):Prop:=(fun s:BA=>s.size≤maxLen) x.aj∧(fun n=>(Lit.int .i64 n).wf=true) x.aQ∧True
def wx.ok (x:wx):Prop:=(fun n=>(Lit.int .i64 n).wf=true) x.ig∧(fun xs:List jg=>xs.length≤maxLen∧∀ x∈xs,jg.ok x) x.aJ∧(fun xs:List fE=>xs.length≤maxLen∧∀ x∈xs,fE.ok x) x.az∧(fun xs:List fm=>xs.length≤maxLen∧∀ x∈xs,fm.ok x) x.cJ∧True
def mf.ok (x:mf):Prop:=(fun n=>(Lit.int .i64 n).wf=true) x.ig∧(fun xs:List MK=>xs.length≤maxLen∧∀ x∈xs,MK.ok x) x.aJ∧(fun xs:List fE=>xs.length≤maxLen∧∀ x∈xs,fE.ok x) x.az∧(fun xs:List fm=>xs.length≤maxLen∧∀ x∈xs,fm.ok x) x.cJ∧True
end Go.Proofs.YtfknmdelgepbjaaGreatDoor
