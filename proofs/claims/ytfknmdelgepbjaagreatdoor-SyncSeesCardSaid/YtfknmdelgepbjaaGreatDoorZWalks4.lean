import Derived.Test.YtfknmdelgepbjaaGreatDoorZTab
import Derived.Test.YtfknmdelgepbjaaGreatDoorZWalks3
import Derived.Test.YtfknmdelgepbjaaGreatDoorConQ
import Derived.Test.YtfknmdelgepbjaaGreatDoorConA6
import Derived.Test.YtfknmdelgepbjaaGreatDoorConC4
import Derived.Lib.Join
import Derived.Eval
set_option linter.all false
set_option autoImplicit true
set_option maxRecDepth 10000
set_option maxHeartbeats 20000000
namespace Go.Proofs.YtfknmdelgepbjaaGreatDoor
open Go Go.Sp Tryz
theorem od.c (h:od.f=some r):Tr prog 22 [] [lax] (γ:=Unit) (fun _=>True) (fun g=>vB r) (fun g=>[lax]):=by
 refine tf func22 h fun R0 F H=>?_
 refine so<|wr 12 0<|Dv.lx (qs:=[vS (⟨#[33,114,58,115]⟩:BA),vS (⟨#[64,97,58,115]⟩:BA),vS eE,vB true]) (css:=[[vS (⟨#[33,114,58,115]⟩:BA)],[vS (⟨#[64,97,58,115]⟩:BA)],[vB true]]) Q T J2 IA z89 Q ⟨(cells_one (aj Q)),⟨(cells_one (aj Q)),⟨(cells_one (aj Q)),T⟩⟩⟩ Q Q<|el H fun ta haa H=>o8 1 [0] (cL 41) (iz.c haa) ?_
 refine gp 2 ?_
 rcases bm H with ⟨cc,H⟩ | ⟨cc,H⟩
 ·
  refine sh 3 cc ?_
  refine sh 4 cc ?_
  refine gq 8 ?_
  cases H.out; exact et () 1 [0] 0
 refine sh 3 cc ?_
 refine sh 4 cc ?_
 refine el H fun tc hac H=>Dv.call Q (gg Q) (cL 44) Q (jt.c hac)<|gp 3 ?_
 rcases bm H with ⟨cg,H⟩ | ⟨cg,H⟩
 ·
  refine sh 6 cg ?_
  refine sh 7 cg ?_
  refine sh 8 cg ?_
  refine gq 4 ?_
  cases H.out; exact et () 1 [0] 0
 refine sh 6 cg ?_
 refine sh 7 cg ?_
 refine sh 8 cg ?_
 refine el H fun te had H=>Dv.call Q (gg Q) (cL 47) Q (jg.c had)<|gq 3 ?_
 cases H.out; exact et () 1 [0] 0
end Go.Proofs.YtfknmdelgepbjaaGreatDoor
