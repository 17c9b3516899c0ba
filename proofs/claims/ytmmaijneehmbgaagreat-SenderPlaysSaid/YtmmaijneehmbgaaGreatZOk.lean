import Derived.Test.YtmmaijneehmbgaaGreatZMir
set_option linter.all false
namespace Go.Proofs.YtmmaijneehmbgaaGreat
open Go Go.Sp
def EKey.ok (x:EKey):Prop:=(fun n=>(Lit.int .i64 n).wf=true) x.fKind∧(fun s:ByteArray=>s.size≤maxLen) x.fRoom∧(fun s:ByteArray=>s.size≤maxLen) x.fUser∧(fun s:ByteArray=>s.size≤maxLen) x.fThread∧(fun _=>True) x.fPrivate∧True
def Edu.ok (x:Edu):Prop:=(fun n=>(Lit.int .i64 n).wf=true) x.fKind∧(fun s:ByteArray=>s.size≤maxLen) x.fRoom∧(fun s:ByteArray=>s.size≤maxLen) x.fUser∧(fun s:ByteArray=>s.size≤maxLen) x.fEvent∧(fun s:ByteArray=>s.size≤maxLen) x.fThread∧(fun _=>True) x.fPrivate∧(fun _=>True) x.fOn∧(fun n=>(Lit.int .i64 n).wf=true) x.fSpan∧(fun n=>(Lit.int .i64 n).wf=true) x.fState∧(fun n=>(Lit.int .i64 n).wf=true) x.fTick∧(fun n=>(Lit.int .i64 n).wf=true) x.fStamp∧True
def AtI.ok (x:AtI):Prop:=(fun n=>(Lit.int .i64 n).wf=true) x.fv∧True
def Ctr.ok (x:Ctr):Prop:=AtI.ok x.fn∧(fun n=>(Lit.int .i64 n).wf=true) x.fmost∧True
def Par.ok (x:Par):Prop:=(fun _=>True) x.fAck∧(fun s:ByteArray=>s.size≤maxLen) x.fFrom∧(fun s:ByteArray=>s.size≤maxLen) x.fTo∧(fun n=>(Lit.int .i64 n).wf=true) x.fID∧(fun xs:List Edu=>xs.length≤maxLen∧∀ x∈xs,Edu.ok x) x.fEdus∧True
def Fly.ok (x:Fly):Prop:=Par.ok x.fp∧(fun n=>(Lit.int .i64 n).wf=true) x.ftries∧(fun n=>(Lit.int .i64 n).wf=true) x.fdue∧True
def Event.ok (x:Event):Prop:=(fun s:ByteArray=>s.size≤maxLen) x.fID∧(fun s:ByteArray=>s.size≤maxLen) x.fRoom∧(fun xs:List ByteArray=>xs.length≤maxLen∧∀ x∈xs,(fun s:ByteArray=>s.size≤maxLen) x) x.fParents∧(fun s:ByteArray=>s.size≤maxLen) x.fThread∧(fun s:ByteArray=>s.size≤maxLen) x.fUser∧(fun n=>(Lit.int .i64 n).wf=true) x.fDoes∧True
def DNode.ok (x:DNode):Prop:=Event.ok x.fe∧(fun n=>(Lit.int .i64 n).wf=true) x.fdepth∧(fun _=>True) x.fparent∧True
def RDag.ok (x:RDag):Prop:=(fun s:ByteArray=>s.size≤maxLen) x.fRoom∧(fun xs:List Event=>xs.length≤maxLen∧∀ x∈xs,Event.ok x) x.fL∧True
def GMade.ok (x:GMade):Prop:=(fun n=>(Lit.int .i64 n).wf=true) x.fUser∧(fun n=>(Lit.int .i64 n).wf=true) x.fDoes∧(fun xs:List Int=>xs.length≤maxLen∧∀ x∈xs,(fun n=>(Lit.int .i64 n).wf=true) x) x.fParents∧(fun n=>(Lit.int .i64 n).wf=true) x.fThread∧True
def Pos.ok (x:Pos):Prop:=(fun n=>(Lit.int .i64 n).wf=true) x.fDepth∧(fun s:ByteArray=>s.size≤maxLen) x.fID∧True
def RView.ok (x:RView):Prop:=(fun xs:List RDag=>xs.length≤maxLen∧∀ x∈xs,RDag.ok x) x.fD∧True
def RQue.ok (x:RQue):Prop:=(fun n=>(Lit.int .i64 n).wf=true) x.fMost∧(fun xs:List Edu=>xs.length≤maxLen∧∀ x∈xs,Edu.ok x) x.fL∧(fun n=>(Lit.int .i64 n).wf=true) x.fLost∧True
def RSnd.ok (x:RSnd):Prop:=(fun s:ByteArray=>s.size≤maxLen) x.fSelf∧(fun s:ByteArray=>s.size≤maxLen) x.fTo∧(fun n=>(Lit.int .i64 n).wf=true) x.fN∧RQue.ok x.fQ∧Par.ok x.fFly∧(fun _=>True) x.fOn∧(fun n=>(Lit.int .i64 n).wf=true) x.fTries∧(fun n=>(Lit.int .i64 n).wf=true) x.fDue∧True
def SStep.ok (x:SStep):Prop:=(fun n=>(Lit.int .i64 n).wf=true) x.fDo∧(fun n=>(Lit.int .i64 n).wf=true) x.fN∧Edu.ok x.fE∧True
end Go.Proofs.YtmmaijneehmbgaaGreat
