import Derived.Test.YtcchplmcefamhaaGreatZMir
set_option linter.all false
namespace Go.Proofs.YtcchplmcefamhaaGreat
open Go Go.Sp
def Event.ok (x:Event):Prop:=(fun s:ByteArray=>s.size≤maxLen) x.fID∧(fun s:ByteArray=>s.size≤maxLen) x.fRoom∧(fun xs:List ByteArray=>xs.length≤maxLen∧∀ x∈xs,(fun s:ByteArray=>s.size≤maxLen) x) x.fParents∧(fun s:ByteArray=>s.size≤maxLen) x.fThread∧(fun s:ByteArray=>s.size≤maxLen) x.fUser∧(fun n=>(Lit.int .i64 n).wf = true) x.fDoes∧True
def RDag.ok (x:RDag):Prop:=(fun s:ByteArray=>s.size≤maxLen) x.fRoom∧(fun xs:List Event=>xs.length≤maxLen∧∀ x∈xs,Event.ok x) x.fL∧True
def GMade.ok (x:GMade):Prop:=(fun n=>(Lit.int .i64 n).wf = true) x.fUser∧(fun n=>(Lit.int .i64 n).wf = true) x.fDoes∧(fun xs:List Int=>xs.length≤maxLen∧∀ x∈xs,(fun n=>(Lit.int .i64 n).wf = true) x) x.fParents∧(fun n=>(Lit.int .i64 n).wf = true) x.fThread∧True
def DNode.ok (x:DNode):Prop:=Event.ok x.fe∧(fun n=>(Lit.int .i64 n).wf = true) x.fdepth∧(fun _=>True) x.fparent∧True
def RView.ok (x:RView):Prop:=(fun xs:List RDag=>xs.length≤maxLen∧∀ x∈xs,RDag.ok x) x.fD∧True
def Pos.ok (x:Pos):Prop:=(fun n=>(Lit.int .i64 n).wf = true) x.fDepth∧(fun s:ByteArray=>s.size≤maxLen) x.fID∧True
end Go.Proofs.YtcchplmcefamhaaGreat
