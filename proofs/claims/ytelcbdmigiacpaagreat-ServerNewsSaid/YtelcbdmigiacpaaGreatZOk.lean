import Derived.Test.YtelcbdmigiacpaaGreatZMir
set_option linter.all false
namespace Go.Proofs.YtelcbdmigiacpaaGreat
open Go Go.Sp
def AtI.ok (x:AtI):Prop:=(fun n=>(Lit.int .i64 n).wf = true) x.fv∧True
def Ctr.ok (x:Ctr):Prop:=AtI.ok x.fn∧(fun n=>(Lit.int .i64 n).wf = true) x.fmost∧True
def Edu.ok (x:Edu):Prop:=(fun n=>(Lit.int .i64 n).wf = true) x.fKind∧(fun s:ByteArray=>s.size≤maxLen) x.fRoom∧(fun s:ByteArray=>s.size≤maxLen) x.fUser∧(fun s:ByteArray=>s.size≤maxLen) x.fEvent∧(fun s:ByteArray=>s.size≤maxLen) x.fThread∧(fun _=>True) x.fPrivate∧(fun _=>True) x.fOn∧(fun n=>(Lit.int .i64 n).wf = true) x.fSpan∧(fun n=>(Lit.int .i64 n).wf = true) x.fState∧(fun n=>(Lit.int .i64 n).wf = true) x.fTick∧(fun n=>(Lit.int .i64 n).wf = true) x.fStamp∧True
def Park.ok (x:Park):Prop:=(fun n=>(Lit.int .i64 n).wf = true) x.fmost∧(fun xs:List Edu=>xs.length≤maxLen∧∀ x∈xs,Edu.ok x) x.fl∧(fun n=>(Lit.int .i64 n).wf = true) x.flost∧True
def RKey.ok (x:RKey):Prop:=(fun s:ByteArray=>s.size≤maxLen) x.fRoom∧(fun s:ByteArray=>s.size≤maxLen) x.fUser∧(fun s:ByteArray=>s.size≤maxLen) x.fThread∧(fun _=>True) x.fPrivate∧True
def Pos.ok (x:Pos):Prop:=(fun n=>(Lit.int .i64 n).wf = true) x.fDepth∧(fun s:ByteArray=>s.size≤maxLen) x.fID∧True
def Event.ok (x:Event):Prop:=(fun s:ByteArray=>s.size≤maxLen) x.fID∧(fun s:ByteArray=>s.size≤maxLen) x.fRoom∧(fun xs:List ByteArray=>xs.length≤maxLen∧∀ x∈xs,(fun s:ByteArray=>s.size≤maxLen) x) x.fParents∧(fun s:ByteArray=>s.size≤maxLen) x.fThread∧(fun s:ByteArray=>s.size≤maxLen) x.fUser∧(fun n=>(Lit.int .i64 n).wf = true) x.fDoes∧True
def DNode.ok (x:DNode):Prop:=Event.ok x.fe∧(fun n=>(Lit.int .i64 n).wf = true) x.fdepth∧(fun _=>True) x.fparent∧True
def HEnt.ok (x:HEnt):Prop:=(fun n=>(Lit.int .i64 n).wf = true) x.fAt∧(fun s:ByteArray=>s.size≤maxLen) x.fKey∧True
def EKey.ok (x:EKey):Prop:=(fun n=>(Lit.int .i64 n).wf = true) x.fKind∧(fun s:ByteArray=>s.size≤maxLen) x.fRoom∧(fun s:ByteArray=>s.size≤maxLen) x.fUser∧(fun s:ByteArray=>s.size≤maxLen) x.fThread∧(fun _=>True) x.fPrivate∧True
def Par.ok (x:Par):Prop:=(fun _=>True) x.fAck∧(fun s:ByteArray=>s.size≤maxLen) x.fFrom∧(fun s:ByteArray=>s.size≤maxLen) x.fTo∧(fun n=>(Lit.int .i64 n).wf = true) x.fID∧(fun xs:List Edu=>xs.length≤maxLen∧∀ x∈xs,Edu.ok x) x.fEdus∧True
def Fly.ok (x:Fly):Prop:=Par.ok x.fp∧(fun n=>(Lit.int .i64 n).wf = true) x.ftries∧(fun n=>(Lit.int .i64 n).wf = true) x.fdue∧True
end Go.Proofs.YtelcbdmigiacpaaGreat
