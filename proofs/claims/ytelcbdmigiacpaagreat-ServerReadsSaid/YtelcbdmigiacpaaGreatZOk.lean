import Derived.Test.YtelcbdmigiacpaaGreatZMir
set_option linter.all false
namespace Go.Proofs.YtelcbdmigiacpaaGreat
open Go Go.Sp
def Aa.ok (x:Aa):Prop:=(λn=>(Lit.int .i64 n).wf=true) x.fv/\True
def bI.ok (x:bI):Prop:=Aa.ok x.fn/\(λn=>(Lit.int .i64 n).wf=true) x.bw/\True
def ak.ok (x:ak):Prop:=(λn=>(Lit.int .i64 n).wf=true) x.bf/\(λs:BA=>s.size<=maxLen) x.aj/\(λs:BA=>s.size<=maxLen) x.aC/\(λs:BA=>s.size<=maxLen) x.bP/\(λs:BA=>s.size<=maxLen) x.ah/\(λ_=>True) x.ay/\(λ_=>True) x.lO/\(λn=>(Lit.int .i64 n).wf=true) x.cX/\(λn=>(Lit.int .i64 n).wf=true) x.bU/\(λn=>(Lit.int .i64 n).wf=true) x.bK/\(λn=>(Lit.int .i64 n).wf=true) x.aS/\True
def iv.ok (x:iv):Prop:=(λn=>(Lit.int .i64 n).wf=true) x.bw/\(λxs:List ak=>xs.length<=maxLen/\∀ x∈xs,ak.ok x) x.fl/\(λn=>(Lit.int .i64 n).wf=true) x.da/\True
def aM.ok (x:aM):Prop:=(λs:BA=>s.size<=maxLen) x.aj/\(λs:BA=>s.size<=maxLen) x.aC/\(λs:BA=>s.size<=maxLen) x.ah/\(λ_=>True) x.ay/\True
def Pos.ok (x:Pos):Prop:=(λn=>(Lit.int .i64 n).wf=true) x.br/\(λs:BA=>s.size<=maxLen) x.cC/\True
def Event.ok (x:Event):Prop:=(λs:BA=>s.size<=maxLen) x.cC/\(λs:BA=>s.size<=maxLen) x.aj/\(λxs:List BA=>xs.length<=maxLen/\∀ x∈xs,(λs:BA=>s.size<=maxLen) x) x.ag/\(λs:BA=>s.size<=maxLen) x.ah/\(λs:BA=>s.size<=maxLen) x.aC/\(λn=>(Lit.int .i64 n).wf=true) x.cW/\True
def bp.ok (x:bp):Prop:=Event.ok x.fe/\(λn=>(Lit.int .i64 n).wf=true) x.dx/\(λ_=>True) x.lG/\True
def kC.ok (x:kC):Prop:=(λn=>(Lit.int .i64 n).wf=true) x.sJ/\(λs:BA=>s.size<=maxLen) x.kD/\True
def aZ.ok (x:aZ):Prop:=(λn=>(Lit.int .i64 n).wf=true) x.bf/\(λs:BA=>s.size<=maxLen) x.aj/\(λs:BA=>s.size<=maxLen) x.aC/\(λs:BA=>s.size<=maxLen) x.ah/\(λ_=>True) x.ay/\True
def km.ok (x:km):Prop:=(λ_=>True) x.sw/\(λs:BA=>s.size<=maxLen) x.dL/\(λs:BA=>s.size<=maxLen) x.yo/\(λn=>(Lit.int .i64 n).wf=true) x.cC/\(λxs:List ak=>xs.length<=maxLen/\∀ x∈xs,ak.ok x) x.ke/\True
def jU.ok (x:jU):Prop:=km.ok x.fp/\(λn=>(Lit.int .i64 n).wf=true) x.pT/\(λn=>(Lit.int .i64 n).wf=true) x.C0/\True
def bq.ok (x:bq):Prop:=(λs:BA=>s.size<=maxLen) x.aj/\(λxs:List Event=>xs.length<=maxLen/\∀ x∈xs,Event.ok x) x.fL/\True
def dm.ok (x:dm):Prop:=(λxs:List bq=>xs.length<=maxLen/\∀ x∈xs,bq.ok x) x.fD/\True
def MK.ok (x:MK):Prop:=aM.ok x.fK/\Pos.ok x.sJ/\True
def iH.ok (x:iH):Prop:=(λn=>(Lit.int .i64 n).wf=true) x.bW/\(λxs:List ak=>xs.length<=maxLen/\∀ x∈xs,ak.ok x) x.fL/\(λn=>(Lit.int .i64 n).wf=true) x.bS/\True
def mJ.ok (x:mJ):Prop:=(λxs:List MK=>xs.length<=maxLen/\∀ x∈xs,MK.ok x) x.fL/\iH.ok x.fP/\True
def wA.ok (x:wA):Prop:=(λxs:List ak=>xs.length<=maxLen/\∀ x∈xs,ak.ok x) x.fL/\(λxs:List Bool=>xs.length<=maxLen/\∀ x∈xs,(λ_=>True) x) x.cK/\True
def wq.ok (x:wq):Prop:=(λxs:List ak=>xs.length<=maxLen/\∀ x∈xs,ak.ok x) x.fL/\(λxs:List Int=>xs.length<=maxLen/\∀ x∈xs,(λn=>(Lit.int .i64 n).wf=true) x) x.cK/\True
def mu.ok (x:mu):Prop:=(λn=>(Lit.int .i64 n).wf=true) x.bf/\aM.ok x.fK/\(λs:BA=>s.size<=maxLen) x.EU/\True
def iX.ok (x:iX):Prop:=(λs:BA=>s.size<=maxLen) x.eZ/\(λs:BA=>s.size<=maxLen) x.yo/\(λn=>(Lit.int .i64 n).wf=true) x.fN/\iH.ok x.fQ/\km.ok x.CM/\(λ_=>True) x.lO/\(λn=>(Lit.int .i64 n).wf=true) x.EM/\(λn=>(Lit.int .i64 n).wf=true) x.fDue/\True
def iY.ok (x:iY):Prop:=(λs:BA=>s.size<=maxLen) x.fOf/\(λn=>(Lit.int .i64 n).wf=true) x.fN/\True
def rL.ok (x:rL):Prop:=(λs:BA=>s.size<=maxLen) x.eZ/\(λn=>(Lit.int .i64 n).wf=true) x.bK/\(λn=>(Lit.int .i64 n).wf=true) x.aS/\dm.ok x.fV/\mJ.ok x.fM/\wA.ok x.fT/\wq.ok x.fP/\(λxs:List mu=>xs.length<=maxLen/\∀ x∈xs,mu.ok x) x.fL/\(λn=>(Lit.int .i64 n).wf=true) x.dL/\(λxs:List iX=>xs.length<=maxLen/\∀ x∈xs,iX.ok x) x.fQ/\(λxs:List iY=>xs.length<=maxLen/\∀ x∈xs,iY.ok x) x.fF/\True
def dV.ok (x:dV):Prop:=(λn=>(Lit.int .i64 n).wf=true) x.aC/\(λn=>(Lit.int .i64 n).wf=true) x.cW/\(λxs:List Int=>xs.length<=maxLen/\∀ x∈xs,(λn=>(Lit.int .i64 n).wf=true) x) x.ag/\(λn=>(Lit.int .i64 n).wf=true) x.ah/\True
def cV.ok (x:cV):Prop:=(λn=>(Lit.int .i64 n).wf=true) x.fDo/\(λn=>(Lit.int .i64 n).wf=true) x.fU/\(λn=>(Lit.int .i64 n).wf=true) x.fR/\(λn=>(Lit.int .i64 n).wf=true) x.fE/\(λn=>(Lit.int .i64 n).wf=true) x.fT/\(λn=>(Lit.int .i64 n).wf=true) x.fN/\(λ_=>True) x.fYes/\(λxs:List ak=>xs.length<=maxLen/\∀ x∈xs,ak.ok x) x.ke/\(λxs:List Int=>xs.length<=maxLen/\∀ x∈xs,(λn=>(Lit.int .u8 n).wf=true) x) x.fB/\(λs:BA=>s.size<=maxLen) x.fS/\True
def dW.ok (x:dW):Prop:=aM.ok x.kD/\Pos.ok x.sJ/\True
end Go.Proofs.YtelcbdmigiacpaaGreat
