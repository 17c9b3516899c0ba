import Derived.Test.YtfknmdelgepbjaaGreatDoorZTab
import Derived.Test.YtfknmdelgepbjaaGreatDoorZWalks2
import Derived.Test.YtfknmdelgepbjaaGreatDoorConQ
import Derived.Test.YtfknmdelgepbjaaGreatDoorConA6
import Derived.Test.YtfknmdelgepbjaaGreatDoorConC4
import Derived.Lib.Join
import Derived.Eval
set_option linter.all false
set_option autoImplicit true
set_option maxRecDepth 10000
set_option maxHeartbeats 20000000
namespace Go.Proofs.YtfknmdelgepbjaaGreatDoor
open Go Go.Sp Tryz
theorem kJ.c {p0_0 p0_1 p0_2 p0_3 p0_4:OV} (h:kJ.f k a0 a1 a2=some r):Tr prog 11 [agg [eq p0_0.1,eq p0_1.1,eq p0_2.1,eq p0_3.1,eq p0_4.1],agg (dt.enc a1),agg (ak.enc a2)] [lax,aL.O p0_0 a0.cO,jF.O p0_1 a0.ay,bZ.O p0_2 a0.av,cI.O p0_3 a0.aU,cH.O p0_4 a0.gH] (γ:=Unit) (fun _=>True) (fun g=>kN [agg (dt.enc r.1),vB r.2.1]) (fun g=>[lax,aL.O p0_0 r.2.2.cO,jF.O p0_1 r.2.2.ay,bZ.O p0_2 r.2.2.av,cI.O p0_3 r.2.2.aU,cH.O p0_4 r.2.2.gH]):=by
 refine tf func11 h fun R0 F H=>?_
 refine wr 5 15<|Dv.box Q T Q cA nofun fun ba=>Dv.box Q T Q cA nofun fun bc=>Dv.box Q T Q cA nofun fun bd=>al Q T BG nofun fun be=>go 1<|wr 1 1<|al Q T zc116 nofun fun bg=>.fin<|so<|WP.xS H id (fun pa=>[(3,eP ba),(4,eP bc),(6,eP be),(8,eP bg),(9,vS pa.1)]) (fun pa=>[aI bg 116 [vI pa.2.1.aG,vS pa.2.1.fK.aa,vS pa.2.1.fK.ai,vS pa.2.1.fK.ae,vB pa.2.1.fK.ao,vS pa.2.1.mO],aI be 43 [eN,eN,eN,eN,eN,eN,eN,vI 0],aI bd 52 (ak.enc a2),aI bc 43 [sl aQ.K pa.2.2.1.fV.fD,sl MK.K pa.2.2.1.fM,sl ak.K pa.2.2.1.fT.fL,sl dj pa.2.2.1.fT.eF,sl ak.K pa.2.2.1.fP.fL,sl (bG .i64) pa.2.2.1.fP.eF,sl kZ.K pa.2.2.1.fL,vI pa.2.2.1.bQ],aI ba 30 [eq p0_0.1,eq p0_1.1,eq p0_2.1,eq p0_3.1,eq p0_4.1],jF.O p0_1 pa.2.2.2.1,aL.O p0_0 a0.cO,lax,bZ.O p0_2 pa.2.2.2.2.1,cI.O p0_3 pa.2.2.2.2.2,cH.O p0_4 a0.gH]++F) (fun pa H=>?_) (fun H=>?_)
 ·
  refine so<|wr 5 8<|gl 3 [3]<|vg (eD kZ.K none) fun _ _=>?_
  refine gr H fun ga H=>ap kZ.K 0 pa.2.2.1.fL bS KQ (.inr ⟨_,KQ⟩) Ga ga nofun fun va=>?_
  refine go 1<|wr 6 40<|gl 2 [1]<|Dv.lit kZ.K ([(⟨pa.2.1.aG,pa.2.1.fK,pa.2.1.mO⟩:kZ)]:List kZ) (css:=[[vI pa.2.1.aG,vS pa.2.1.fK.aa,vS pa.2.1.fK.ai,vS pa.2.1.fK.ae,vB pa.2.1.fK.ao,vS pa.2.1.mO]]) Q T KQ Ht HU z116 Q dc dc Q ⟨(aZ (aj (ah Q) (aj (ah Q) (aj (ah Q) (aj (ah Q) (aj (ah Q) (aj (ah Q) bX))))))),T⟩ Q Q Q<|gr H fun gb H=>ap kZ.K 0 ([(⟨pa.2.1.aG,pa.2.1.fK,pa.2.1.mO⟩:kZ)]:List kZ) bS KQ (.inr ⟨_,KQ⟩) Ga gb nofun fun vb=>?_
  refine go 1<|sx 4 Q T Q Q (cells_one bK) sz41 Q Q Q nofun ?_
  refine .fin<|wr 9 8<|gl 3 [5]<|el H fun ta haa H=>cx 12 [11,0,1,2,3,4,5,6,7,8,9,10] (cL 48) (ie.c haa (p0_:=p0_4)) nofun fun _ _=>?_
  refine go 1<|ei Q T Q Q<|ei Q T Q Q<|go 2<|wd mX 11 512<|kK 4 [5] ?_
  cases cc:(ta.2.1==0)
  ·
   have H:=H.cf cc
   refine go 5<|sx 3 Q T Q Q cA sz43 Q Q Q pD ?_
   refine go 1<|fz 1 [6,7] [0,0,1,0,1] ?_
   cases H.out; exact rt i2 Q () 11 [1,2,3,4,5,8,7,6,9,10,0] 5 (.cons (au Q Bf Q Ft (ab 2 Q) Q) (.cons (aE Q) .nil))
  have H:=H.ct cc
  refine gl 2 [2]<|el H fun tc hac H=>Dv.call Q (gg Q) (cL 49) Q (kj.c hac)<|go 2<|sx 3 Q T Q Q cA sz43 Q Q Q pD ?_
  refine go 1<|fz 1 [6,7] [0,0,1,0,1] ?_
  cases H.out; exact rt i2 Q () 11 [1,2,3,4,5,8,7,6,9,10,0] 5 (.cons (au Q Bf Q Ft (ab 2 Q) Q) (.cons (aE Q) .nil))
 refine r9 [2]<|WP.block<|so<|ce H ?_ ?_ <;> intro H
 ·
  refine wr 16 12288<|gl 2 [3]<|Dv.lp (qs:=[vI 8,eN,vI 0]) (css:=[[vI 8]]) Q T Be FU H9 Q ⟨(cells_one (ah Q)),T⟩ Q Q<|Dv.lp (qs:=[sl MK.K a1.fM,vI 8,eN,vI 0]) (css:=[[sl MK.K a1.fM],[vI 8,eN,vI 0]]) Q T z7 FP HI Q ⟨(cells_one dM),⟨(aZ (aj (ah Q) (aj (ah Q) (aj (ah Q) bX)))),T⟩⟩ Q Q<|gl 3 [3,2]<|el H fun te had H=>cl Q (cL 38) Q (Pt.jK (qJ.c had) (.cons (oJ (.cons cM (.cons cM (.cons dD (.cons cM .nil))))) (.cons cM (.cons cM .nil))))<|go 1<|ei Q T Q Q<|ei Q T Q Q<|ei Q T Q Q<|al Q T I2 nofun fun bh=>sy 0 ?_
  refine go 2<|wr 4 8<|gl 3 [0]<|sx 4 Q T Q Q (cells_one dM) sz34 Q Q Q nofun ?_
  refine .fin<|wr 11 32<|gl 5 [5,5,3]<|el H fun tg hae H=>cx 12 [8,7,0,1,2,3,4,5,6,9,10,11] (cL 39) (ib.c hae (p0_:=p0_1) (p1_:=p0_0)) nofun fun _ _=>?_
  refine go 1<|ei Q T Q Q<|ei Q T Q Q<|go 2<|WP.seq<|wr 8 0<|go 2<|nV Q Q Q (yc U4)<|gp 1 ?_
  rcases bm H with ⟨cg,H⟩ | ⟨cg,H⟩
  rotate_left
  ·
   refine sh 85 cg ?_
   refine sh 86 cg ?_
   refine go 4<|WP.cond Q (fun _=>?_) nofun
   refine wr 3 2<|gl 1 [6]<|sy 4 ?_
   refine gq 1 ?_
   have H:=H.fH
   cases H.out; exact rt i2 Q () 12 [2,3,4,5,6,7,8,1,0,9,10,11] 6 (.cons (au Q Bf Q Ft (ab 4 Q) Q) (.cons (aE Q) .nil))
  refine sh 85 cg ?_
  refine sh 86 cg ?_
  refine go 4<|ce H ?_ ?_ <;> intro H
  ·
   refine wr 3 2<|gl 1 [6]<|sy 4 ?_
   refine gq 1 ?_
   have H:=H.fH
   cases H.out; exact rt i2 Q () 12 [2,3,4,5,6,7,8,1,0,9,10,11] 6 (.cons (au Q Bf Q Ft (ab 4 Q) Q) (.cons (aE Q) .nil))
  refine WP.skip<|wr 4 8<|gl 1 [5]<|el H fun tj haf H=>cl Q (cL 40) Q (pA.c haf)<|Dv.lp (qs:=[vI 1,vS tj.aa,vS tj.ai,vS tj.ae,vB tj.ao,vS eE]) (css:=[[vI 1],bx.enc tj]) Q T Ht Ez z116 Q ⟨(cells_one (ah Q)),⟨(aZ (bx.K.one _)),T⟩⟩ Q Q<|sy 3 ?_
  refine .fin<|rg 4 0<|gl 2 [3]<|el H fun tm hag H=>px 12 [8,0,1,2,3,4,5,6,7,9,10,11] (cL 41) (iz.c hag) ?_
  refine gq 1 ?_
  have H:=H.out
  refine ns 12 [2,3,4,5,6,7,0,1,8,9,10,11] 1 ?_
  exact jn (tm,(⟨1,tj,eE⟩:kZ),(⟨a1.fV,te.1.fL,a1.fT,a1.fP,a1.fL,a1.bQ⟩:dt),tg.2.2,a0.av,a0.aU) H
 refine so<|ce H ?_ ?_ <;> intro H
 ·
  refine wr 12 768<|gl 3 [3,2]<|el H fun tn hah H=>cl Q (cL 42) Q (cU.c hah)<|go 1<|ei Q T Q Q<|ei Q T Q Q<|ei Q T Q Q<|al Q T Kq nofun fun bi=>sy 0 ?_
  refine go 2<|wr 3 4<|gl 2 [0]<|sy 4 ?_
  refine .fin<|wr 9 8<|gl 3 [5,3]<|el H fun tp hai H=>cx 12 [9,0,1,2,3,4,5,6,7,8,10,11] (cL 43) (fx.c hai (p0_:=p0_2)) nofun fun _ _=>?_
  refine go 1<|ei Q T Q Q<|ei Q T Q Q<|go 2<|WP.seq<|wr 3 0<|go 2<|nV Q Q Q (yc U4)<|.fin<|ce H ?_ ?_ <;> intro H
  ·
   refine wr 3 2<|gl 1 [5]<|sy 3 ?_
   refine gq 1 ?_
   have H:=H.fH
   cases H.out; exact rt i2 Q () 12 [1,2,3,4,5,6,7,8,9,0,10,11] 6 (.cons (au Q Bf Q Ft (ab 3 Q) Q) (.cons (aE Q) .nil))
  refine WP.skip<|wr 4 8<|gl 2 [4]<|Dv.lp (qs:=[vI 2,vS eE,vS eE,vS eE,vB false,vS a2.aa]) (css:=[[vI 2],[vS a2.aa]]) Q T Ht Ez z116 Q ⟨(cells_one (ah Q)),⟨(cells_one (ah Q)),T⟩⟩ Q Q<|sy 2 ?_
  refine .fin<|rg 4 0<|gl 2 [4]<|el H fun tq haj H=>cl Q (cL 44) Q (jx.c haj)<|gq 1 ?_
  have H:=H.out
  refine ns 12 [1,2,3,4,5,6,9,8,7,0,10,11] 1 ?_
  exact jn (tq,(⟨2,(⟨eE,eE,eE,false⟩:bx),a2.aa⟩:kZ),(⟨a1.fV,a1.fM,tn.1,a1.fP,a1.fL,a1.bQ⟩:dt),a0.ay,tp.2.2,a0.aU) H
 refine wr 12 768<|gl 3 [3,2]<|el H fun tu hak H=>cl Q (cL 45) Q (dh.c hak)<|go 1<|ei Q T Q Q<|ei Q T Q Q<|ei Q T Q Q<|al Q T Kj nofun fun bj=>sy 0 ?_
 refine go 2<|wr 3 4<|gl 2 [0]<|sy 4 ?_
 refine .fin<|wr 9 8<|gl 3 [5,3]<|el H fun tw ham H=>cx 12 [10,0,1,2,3,4,5,6,7,8,9,11] (cL 46) (eC.c ham (p0_:=p0_3)) nofun fun _ _=>?_
 refine go 1<|ei Q T Q Q<|ei Q T Q Q<|go 2<|WP.seq<|wr 3 0<|go 2<|nV Q Q Q (yc U4)<|.fin<|ce H ?_ ?_ <;> intro H
 ·
  refine wr 3 2<|gl 1 [5]<|sy 3 ?_
  refine gq 1 ?_
  have H:=H.fH
  cases H.out; exact rt i2 Q () 12 [1,2,3,4,5,6,7,8,9,10,0,11] 6 (.cons (au Q Bf Q Ft (ab 3 Q) Q) (.cons (aE Q) .nil))
 refine WP.skip<|wr 4 8<|gl 2 [4]<|Dv.lp (qs:=[vI 3,vS eE,vS eE,vS eE,vB false,vS a2.ai]) (css:=[[vI 3],[vS a2.ai]]) Q T Ht Ez z116 Q ⟨(cells_one (ah Q)),⟨(cells_one (ah Q)),T⟩⟩ Q Q<|sy 2 ?_
 refine .fin<|rg 4 0<|gl 2 [4]<|el H fun tx han H=>cl Q (cL 47) Q (jg.c han)<|gq 1 ?_
 have H:=H.out
 refine ns 12 [1,2,3,4,5,6,9,8,7,10,0,11] 1 ?_
 exact jn (tx,(⟨3,(⟨eE,eE,eE,false⟩:bx),a2.ai⟩:kZ),(⟨a1.fV,a1.fM,a1.fT,tu.1,a1.fL,a1.bQ⟩:dt),a0.ay,a0.av,tw.2.2) H
theorem gG.c (h:gG.f k a0=some r):Pt prog 51 [vI a0] (vS r):=by
 refine pf func51 h fun R0 F H=>?_
 refine so<|wr 3 0<|go 1<|el H fun ta haa H=>cl Q (cL 10) Q (bp.c haa)<|go 1<|WP.seq<|so<|ce H ?_ ?_ <;> intro H
 ·
  refine sp ?_
  cases H.out; exact ek 0
 refine WP.skip<|WP.seq<|so<|ce H ?_ ?_ <;> intro H
 ·
  refine sp ?_
  cases H.out; exact ek 0
 refine WP.skip<|wr 3 0<|go 1<|el H fun tc hac H=>cl Q (cL 50) Q (dq.c hac)<|gq 1 ?_
 cases H.out; exact ek 0
theorem lu.c (h:lu.f k a0=some r):Pt prog 12 [agg (ak.enc a0)] (agg (ak.enc r)):=by
 refine pf func12 h fun R0 F H=>?_
 refine wr 2 3<|Dv.box Q T Q cA nofun fun ba=>al Q T s9 nofun fun bc=>.fin<|wd mX 16 49152<|gl 2 [1]<|el H fun ta haa H=>cl Q (cL 10) Q (bp.c haa)<|gl 3 [1]<|el H fun tc hac H=>cl Q (cL 13) Q (gU.c hac)<|gl 2 [1]<|el H fun te had H=>cl Q (cL 10) Q (bp.c had)<|gl 2 [1]<|el H fun tg hae H=>cl Q (cL 10) Q (bp.c hae)<|Dv.lp (qs:=[vI (aw (1+ta)),vS eE,vS tc,vS eE,vS eE,vB false,vB false,vI 0,vI 0,vI te,vI tg]) (css:=[[vI (aw (1+ta))],[vS tc],[vI te],[vI tg]]) Q T iq Ba uZ Q ⟨(cells_one (ah Q)),⟨(cells_one (ah Q)),⟨(cells_one (ah Q)),⟨(cells_one (ah Q)),T⟩⟩⟩⟩ Q Q<|al Q T s9 pD fun bd=>sv 0 ?_
 refine .fin<|WP.seq<|r9 [0]<|WP.block<|so<|ce H ?_ ?_ <;> intro H
 ·
  refine wr 5 16<|gl 2 [2]<|el H fun tj haf H=>cl Q (cL 18) Q (fb.c haf)<|go 1<|sy 0 ?_
  refine .fin<|wd mX 10 512<|gl 2 [2]<|Dv.lens Q T Q U9<|gl 2 [2]<|el H fun tm hag H=>cl Q (cL 10) Q (bp.c hag)<|go 1<|el H fun tn hah H=>cl Q (cL 50) Q (dq.c hah)<|go 1<|sv 0 ?_
  refine .fin<|wr 6 32<|gl 2 [2]<|Dv.lens Q T Q U9<|el H fun tp hai H=>cl Q (cL 51) Q (gG.c hai)<|go 1<|sy 0 ?_
  refine .fin<|rg 4 8<|gl 3 [2]<|sy 0 ?_
  refine .fin<|wr 2 2<|gl 1 [0]<|sy 1 ?_
  refine .fin ?_
  cases H.out; exact r3 i2 Q (.cons (au Q iq Q iT (ab 1 Q) Q) .nil)
 refine so<|cf H ?_ ?_ <;> intro H
 ·
  refine rg 5 16<|gl 2 [2]<|el H fun tq haj H=>cl Q (cL 10) Q (bp.c haj)<|go 1<|sy 0 ?_
  refine .fin<|wr 2 2<|gl 1 [0]<|sy 1 ?_
  refine .fin ?_
  cases H.out; exact r3 i2 Q (.cons (au Q iq Q iT (ab 1 Q) Q) .nil)
 refine wr 5 16<|gl 2 [2]<|el H fun tu hak H=>cl Q (cL 18) Q (fb.c hak)<|go 1<|sy 0 ?_
 refine .fin<|wr 4 8<|gl 3 [2]<|sy 0 ?_
 refine .fin<|r9 [2]<|cf H ?_ ?_ <;> intro H
 ·
  refine WP.skip<|wr 2 2<|gl 1 [0]<|sy 1 ?_
  refine .fin ?_
  cases H.out; exact r3 i2 Q (.cons (au Q iq Q iT (ab 1 Q) Q) .nil)
 refine rg 6 32<|gl 2 [2]<|el H fun tw ham H=>cl Q (cL 10) Q (bp.c ham)<|go 2<|sy 0 ?_
 refine .fin<|wr 2 2<|gl 1 [0]<|sy 1 ?_
 refine .fin ?_
 cases H.out; exact r3 i2 Q (.cons (au Q iq Q iT (ab 1 Q) Q) .nil)
theorem slices_DeleteFunc_string_xo.c {X1_:As} {p0_:OV} (h:slices_DeleteFunc_string_xo.f k a0 a1=some r):Tr prog 71 [eq p0_.1,jW X1_ a1] [own aH p0_.1 a0,X1_] (γ:=OV) (fun _=>True) (fun g=>eq g.1) (fun g=>[X1_,own aH g.1 r]):=by
 refine tf func71 h fun R0 F H=>?_
 refine so<|wr 4 0<|go 2<|el H fun ta haa H=>px 2 [0,1] (cL 137) (aA.c haa (p0_:=p0_) (X1_:=X1_)) ?_
 refine go 1<|WP.seq<|so<|ce H ?_ ?_ <;> intro H
 ·
  refine sp ?_
  cases H.out; exact et p0_ 2 [1,0] 0
 refine WP.skip<|sq H id [0] (fun pa=>[(5,vI pa.1)]) (fun pa=>[(0,own aH p0_.1 pa.2.2.2)]) (fun pa H=>?_) (fun H=>?_)
 ·
  refine wr 4 8<|go 2<|gr H fun ga H=>vg (AE 0 Q (List.length_pos_iff.1 (Nat.lt_of_le_of_lt (Nat.zero_le _) ga.2))) fun gb hac=>?_
  refine Dv.wT (o':=gb.2.1+pa.1.toNat*aH.sz) (m':=pa.2.2.2.length-pa.1.toNat) (c':=gb.2.2-pa.1.toNat) Q T ((show opv _ _=some (eq p0_.1) from Q).trans (congrArg (fun z=>some (eq z)) hac.1)) dW U9 c9 (eV Q ga.1) dC (Nat.le_of_lt ga.2) hac.2 (.inl (Nat.lt_of_lt_of_le ga.2 hac.2)) Q Q Q<|Dv.clrw (jj:=0) eE Q T Q dW z9 Q Q (fun u hu=>by simp [Value.cells] at hu; subst hu; rfl) hac.1 Q ga.2 Q nofun<|.fin<|wr 4 4<|go 2<|gr H fun gc H=>Dv.slo (jj:=0) Q T Q Q dW U9 c9 dC (eV Q gc.1) (.inl Q) gc.2.1 gc.2.2 nofun (fun va=>?_)
  refine gq 1 ?_
  cases H.out; exact et va 2 [1,0] 0
 refine so<|WP.block<|ws 2 [0,1] 0 ?_
 refine lq (fun j_ (pc:Int×Int×(List BA))=>slices_DeleteFunc_string_xo.l0 k a1 j_ pc.1 pc.2.1 pc.2.2) (ta,aw (ta+1),a0) H [0,1] (fun pc=>[(5,vI pc.1),(6,vI pc.2.1)]) (fun pc=>[(0,own aH p0_.1 pc.2.2)]) ?_
 rintro j_ ⟨xc,xd,xe⟩ H
 rcases j_ with _ | ja
 ·
  exact (aV.no H).elim
 try dsimp only at H
 rw [slices_DeleteFunc_string_xo.l0] at H
 refine WP.seq<|wr 4 0<|go 2<|Dv.kG Q T Q (ab 0 Q) dW<|go 1<|cf H ?_ ?_ <;> intro H
 ·
  refine WP.exit ?_
  have H:=H.out
  exact jn (xc,xd,decide (xd<(xe.length:Int)),xe) H
 refine WP.skip<|WP.seq<|WP.block<|wr 5 0<|go 2<|gr H fun gi H=>?_
 have had:xd.toNat<xe.length:=bE gi
 refine Dv.kA Q T Q (ab 0 Q) Q dW U9 c9 gi.1 gi.2<|Dv.o6 (j:=xd.toNat) (f:=0) (p:=vS (xe.getD xd.toNat default)) Q T Q (ab 0 Q) had U9 Q Q<|go 1<|wr 4 0<|go 2<|el H fun tc hae H=>Dv.BP (ret:=vB tc) (X:=X1_) (F:=[own aH p0_.1 xe]++F) Q T Q Q ⟨_,_,hae,Q,Q⟩ (mg (L:=[own aH p0_.1 xe,X1_]) (F:=F) [1,0] Q Q Q)<|go 1<|cf H ?_ ?_ <;> intro H
 ·
  exact WP.skip<|rg 3 0<|go 3<|bk ja (xc,aw (xd+1),xe) H
 refine wr 5 16<|go 3<|gr H fun gj H=>?_
 have haf:xc.toNat<xe.length:=bE gj
 exact Dv.kA Q T Q (ab 0 Q) Q dW U9 c9 gj.1 gj.2<|Dv.HX (j:=xc.toNat) (f:=0) (jj:=0) (xe.getD xd.toNat default) Q T Q Q (cells_one (ah Q)) U9 c9 Q Q haf (Nat.le_of_ble_eq_true Q) Q nofun<|.fin<|rg 3 0<|go 3<|rg 3 0<|go 3<|bk ja (aw (xc+1),aw (xd+1),xe.set xc.toNat (xe.getD xd.toNat default)) H
theorem eB.c {v0_0 v0_1:OV} {b0_:Nat} (h:eB.f k a0 a1 a2 a3=some r):Tr prog 138 [eP b0_,vS a1,vS a2,vI a3] [aI b0_ 190 [eq v0_0.1,eq v0_1.1],own ak.K v0_0.1 a0.fl] (γ:=Unit) (fun _=>True) (fun g=>vB r) (fun g=>[aI b0_ 190 [eq v0_0.1,eq v0_1.1],own ak.K v0_0.1 a0.fl]):=by
 refine tf func138 h fun R0 F H=>?_
 refine so<|wr 10 0<|go 3<|Dv.lp (qs:=[vI 0,vS a1,vS a2,vS eE,vS eE,vB false,vB false,vI 0,vI 0,vI 0,vI 0]) (css:=[[vS a1],[vS a2]]) Q T iq Ba uZ Q ⟨(cells_one (ah Q)),⟨(cells_one (ah Q)),T⟩⟩ Q Q<|el H fun ta haa H=>px 2 [0,1] (cL 106) (dP.c haa (b0_:=b0_) (v0_0:=v0_0) (v0_1:=v0_1)) ?_
 refine go 1<|ei Q T Q Q<|ei Q T Q Q<|go 2<|wr 24 0<|gp 2 ?_
 cases cc:ta.2
 ·
  have H:=H.cf cc
  refine gq 22 ?_
  cases H.out; exact et () 2 [0,1] 0
 have H:=H.ct cc
 refine gl 5 [0]<|gr H fun ga H=>?_
 have hac:ta.1.toNat<a0.fl.length:=bE ga
 refine Dv.kA Q (gg Q) Q (ab 1 Q) Q fI iq iT ga.1 ga.2<|fw Q (gg Q) Q J9<|Dv.o6 (j:=ta.1.toNat) (f:=6) (p:=vB ((a0.fl.getD ta.1.toNat default).jS)) Q (gg Q) Q (ab 1 Q) hac U4 Q Q<|gp 2 ?_
 cases cg:(a0.fl.getD ta.1.toNat default).jS
 ·
  have H:=H.cf cg
  refine gq 12 ?_
  cases H.out; exact et () 2 [0,1] 0
 have H:=H.ct cg
 refine gl 6 [0]<|gr H fun gb H=>?_
 have had:ta.1.toNat<a0.fl.length:=bE gb
 refine Dv.kA Q (gg Q) Q (ab 1 Q) Q fI iq iT gb.1 gb.2<|Dv.pv (j:=ta.1.toNat) (f:=0) Q (gg Q) Q (ab 1 Q) had iq Q iT (Nat.le_of_ble_eq_true Q)<|el H fun tc hae H=>Dv.call Q (gg Q) (cL 111) Q (jf.c hae)<|gq 3 ?_
 cases H.out; exact et () 2 [0,1] 0
theorem aR.c {v0_0 v0_1:OV} {b0_:Nat} (h:aR.f k a0 a1 a2=some r):Tr prog 72 [eP b0_,vS a1,vI a2] [aI b0_ 190 [eq v0_0.1,eq v0_1.1],own ak.K v0_0.1 a0.fl] (γ:=OV) (fun _=>True) (fun g=>eq g.1) (fun g=>[aI b0_ 190 [eq v0_0.1,eq v0_1.1],own ak.K v0_0.1 a0.fl,own aH g.1 r]):=by
 refine tf func72 h fun R0 F H=>?_
 refine so<|so<|wr 3 0<|go 1<|Dv.mkc (fst:=#[.pointer (some ⟨b0_,0,none⟩)]) Q T Q<|go 1<|WP.lf H (fun qh:(Int×Bool×(List BA))×OV=>qh.1) (fun qh=>[(7,eq qh.2.1)]) (fun qh=>[aI b0_ 190 [eq v0_0.1,eq v0_1.1],own ak.K v0_0.1 a0.fl,own aH qh.2.1 qh.1.2.2]++F) (fun qh H=>?_) (fun H=>?_)
 ·
  obtain ⟨pa,va⟩:=qh
  refine sp ?_
  cases H.out; exact et va 3 [0,1,2] 0
 refine wr 6 0<|gl 4 [0]<|Dv.kG Q T Q (ab 1 Q) fI<|go 1<|WP.block<|wg (eD aH none) fun _ _=>?_
 refine ws 3 [1,2,0] 0 ?_
 refine lq (fun j_ (pc:Int×(List BA)×OV)=>aR.l0 k a0 a1 a2 j_ pc.1 pc.2.1) (0,([]:List BA),lA) H [1,2,8,16,17] (fun pc=>[(7,eq pc.2.2.1),(18,vI pc.1)]) (fun pc=>[(2,own aH pc.2.2.1 pc.2.1)]) ?_
 rintro j_ ⟨xc,xd,vb⟩ H
 rcases j_ with _ | ja
 ·
  exact (aV.no H).elim
 try dsimp only at H
 rw [aR.l0] at H
 refine so<|WP.seq<|cf H ?_ ?_ <;> intro H
 ·
  refine WP.exit ?_
  have H:=H.out
  exact jn ((xc,decide (xc<(a0.fl.length:Int)),xd),vb) H
 refine WP.skip<|WP.seq<|WP.block<|wr 4 12<|gr H fun ga H=>?_
 have haa:xc.toNat<a0.fl.length:=bE ga
 refine Dv.kA Q T Q (ab 1 Q) Q fI iq iT ga.1 ga.2<|Dv.pv (j:=xc.toNat) (f:=0) Q T Q (ab 1 Q) haa iq Q iT (Nat.le_of_ble_eq_true Q)<|al Q T s9 nofun fun ba=>sy 0 ?_
 refine .fin<|wr 12 0<|kK 5 [0] ?_
 cases cc:decide (((a0.fl.getD xc.toNat default).aa)=a1)
 ·
  have H:=H.cf cc
  refine go 7<|WP.cond Q nofun (fun _=>?_)
  refine WP.skip<|rg 2 0<|go 2<|ns 4 [0,1,2,3] 1 ?_
  exact bk ja (aw (xc+1),xd,vb) H
 have H:=H.ct cc
 refine gl 5 [0]<|el H fun ta hac H=>Dv.Ei (fst:=#[.pointer (some ⟨b0_,0,none⟩)]) (B:=[aI b0_ 190 [eq v0_0.1,eq v0_1.1],own ak.K v0_0.1 a0.fl]) (F:=[aI ba 52 (ak.enc (a0.fl.getD xc.toNat default)),own aH vb.1 xd]++F) Q (gg Q) Q (cL 138) Q (eB.c hac (b0_:=b0_) (v0_0:=v0_0) (v0_1:=v0_1)) (mg (L:=[aI ba 52 (ak.enc (a0.fl.getD xc.toNat default)),aI b0_ 190 [eq v0_0.1,eq v0_1.1],own ak.K v0_0.1 a0.fl,own aH vb.1 xd]) (F:=F) [1,2,0,3] Q Q Q)<|go 1<|cf H ?_ ?_ <;> intro H
 ·
  refine WP.skip<|rg 2 0<|go 2<|ns 4 [0,1,2,3] 1 ?_
  exact bk ja (aw (xc+1),xd,vb) H
 refine rg 6 16<|gl 3 [0]<|Dv.lit aH ([(a0.fl.getD xc.toNat default).ai]:List BA) (css:=[[vS ((a0.fl.getD xc.toNat default).ai)]]) Q T dW U9 c9 z9 Q dc dc Q ⟨(cells_one (ah Q)),T⟩ Q Q Q<|gr H fun gb H=>ap aH 3 ([(a0.fl.getD xc.toNat default).ai]:List BA) bS dW (.inr ⟨_,dW⟩) zF gb nofun fun vd=>?_
 refine go 1<|rg 2 0<|go 2<|ns 4 [0,1,2,3] 1 ?_
 exact bk ja (aw (xc+1),xd++([(a0.fl.getD xc.toNat default).ai]:List BA),vd) H
theorem J0 (x y:Pos):ir.f 8 x y=some (iQ x y):=by
 unfold ir.f cC.f aD.f cmp_isNaN_int.f cmp_isNaN_string.f bD.f iQ jL
 simp only [Option.bind_some,bne_self_eq_false,decide_true,Bool.not_true,cond_false]
 rcases Int.lt_trichotomy x.bq y.bq with h | h | h
 ·
  have h2:¬ y.bq<x.bq:=om
  simp only [h,decide_true,cond_true,Option.bind_some,if_true]
  cases dO x.cJ y.cJ <;> cases dO y.cJ x.cJ <;> rfl
 rotate_left
 ·
  have h1:¬ x.bq<y.bq:=om
  simp only [h,h1,decide_true,decide_false,cond_true,cond_false,Option.bind_some,if_true,if_false]
  cases dO x.cJ y.cJ <;> cases dO y.cJ x.cJ <;> rfl
 have h1:¬ x.bq<y.bq:=om
 have h2:¬ y.bq<x.bq:=om
 simp only [h1,h2,decide_false,cond_false,Option.bind_some,if_false]
 cases dO x.cJ y.cJ <;> cases dO y.cJ x.cJ <;> rfl
theorem xZ (x y:Pos):ltOf iQ x y=true↔x.bq<y.bq∨(x.bq=y.bq∧dO x.cJ y.cJ=true):=by
 unfold ltOf iQ
 rw [decide_eq_true_eq]
 by_cases h:x.bq<y.bq
 ·
  simp [h]
 by_cases h2:y.bq<x.bq
 ·
  rw [if_neg h,if_pos h2]; constructor
  ·
   intro k; omega
  rintro (k | ⟨k,_⟩) <;> omega
 rw [if_neg h,if_neg h2,mP]; constructor
 ·
  intro k; exact .inr ⟨om,k⟩
 rintro (k | ⟨_,k⟩)
 ·
  omega
 exact k
theorem uY (x y:Pos):ltOf iQ x y=false↔y.bq<x.bq∨(x.bq=y.bq∧dO x.cJ y.cJ=false):=by
  have h:=xZ x y
  cases e:ltOf iQ x y with
  | true=>
    have h:=h.1 e
    refine ⟨fun k=>(by cases k),fun k=>?_⟩
    rcases h with h | ⟨h1,h2⟩ <;> rcases k with k | ⟨k1,k2⟩
    · omega
    · omega
    · omega
    · rw [h2] at k2; cases k2
  | false=>
    refine ⟨fun _=>?_,fun _=>Q⟩
    rw [e] at h
    have h:¬ _:=fun k=>by have:=h.2 k; cases this
    rcases Int.lt_trichotomy x.bq y.bq with k | k | k
    · exact (h (.inl k)).elim
    · cases e2:dO x.cJ y.cJ with
      | true=>exact (h (.inr ⟨k,e2⟩)).elim
      | false=>exact .inr ⟨k,rfl⟩
    · exact .inl k
theorem Ah:Go.Sort.SWO (ltOf iQ) where
  irrefl x:=by rw [uY]; exact .inr ⟨rfl,iF _⟩
  trans x y z h1 h2:=by
    rw [xZ] at *
    rcases h1 with h1 | ⟨h1,k1⟩ <;> rcases h2 with h2 | ⟨h2,k2⟩
    · exact .inl om
    · exact .inl om
    · exact .inl om
    · exact .inr ⟨om,l6 k1 k2⟩
  ntrans x y z h1 h2:=by
    rw [uY] at *
    rcases h1 with h1 | ⟨h1,k1⟩ <;> rcases h2 with h2 | ⟨h2,k2⟩
    · exact .inl om
    · exact .inl om
    · exact .inl om
    · exact .inr ⟨om,oZ k2 k1⟩
theorem zO (x y:Pos) (h1:ltOf iQ x y=false) (h2:ltOf iQ y x=false):x=y:=by
 rw [uY] at *
 rcases h1 with h1 | ⟨h1,k1⟩ <;> rcases h2 with h2 | ⟨h2,k2⟩
 ·
  omega
 ·
  omega
 ·
  omega
 obtain ⟨a,b⟩:=x; obtain ⟨c,d⟩:=y
 simp only at h1 k1 k2
 rw [h1,kC k1 k2]
theorem dG.c {p0_:OV} (h:dG.f a0=some r):Tr prog 285 [eq p0_.1,eq (.func (.func 161) #[] #[])] [own Pos.K p0_.1 a0] (γ:=Unit) (fun _=>True) (fun g=>kN []) (fun g=>[own Pos.K p0_.1 r]):=by
 unfold dG.f at h
 obtain ⟨h0,h5⟩:=(aV.of h).an
 obtain rfl:=aV.out h5
 exact FX (K:=Pos.K) (ev:=fun x=>[.int .i64 x.bq,.string x.cJ]) (fun _=>Q) dc (fun x y=>ir.c (J0 x y)) (fun aI off cap d w hc hH hb hs=>AnyQ.slices_SortFunc_total Tryz.lays6 2 Tryz.isAgg81 Tryz.sizeOf81 _ (fun _=>Q) (fun x v hv=>by simp at hv; rcases hv with rfl | rfl <;> rfl) iQ Ah 161 #[] aI off cap d w (enters_of func161 kr Q) hc hH hb hs zO) (fun q cap w=>AnyF.slices_SortFunc_none Tryz.lays6 q cap _ w) om
theorem n5.c {b0_:Nat} (h:n5.f a0=some r):Tr prog 271 [eP b0_] [aI b0_ 268 [vS a0.fe.cJ,vS a0.fe.aa,sl aH a0.fe.ag,vS a0.fe.ae,vS a0.fe.ai,vI a0.fe.bR,vI a0.cN,vB a0.kc]] (γ:=Unit) (fun _=>True) (fun g=>vB r) (fun g=>[aI b0_ 268 [vS a0.fe.cJ,vS a0.fe.aa,sl aH a0.fe.ag,vS a0.fe.ae,vS a0.fe.ai,vI a0.fe.bR,vI a0.cN,vB a0.kc]]):=by
 refine tf func271 h fun R0 F H=>?_
 refine so<|sp ?_
 cases H.out; exact et () 1 [0] 0
theorem aF.c {b0_:Nat} {v0_0:OV} (h:aF.f a0=some r):Tr prog 270 [eP b0_,eq (.func (.func 271) #[] #[])] [aI b0_ 265 [vS a0.cR,eq v0_0.1],km Value.string aW.O v0_0.1 a0.aq] (γ:=OV) (fun _=>True) (fun g=>eq g.1) (fun g=>[aI b0_ 265 [vS a0.cR,eq v0_0.1],km Value.string aW.O v0_0.1 a0.aq,own aH g.1 r]):=by
  unfold aF.f at h
  obtain ⟨h0,h5⟩:=(aV.of h).an
  obtain rfl:=aV.out h5
  clear h h5
  refine Tr.body func270 (c:=_) Q ntmps270 (Nat.le_of_ble_eq_true Q) fun R0 F=>?_
  refine so<|sp ?_
  refine WP.Gg (β:=List Nat×OV) (fun b=>b.1.Perm (List.range a0.aq.length)) (fun b=>[(5,eq b.2.1),(1,eq (.func (.func 271) #[] #[]))]) (fun b=>[own Pos.K b.2.1 (kF a0.aq aF.g b.1),km Value.string aW.O v0_0.1 a0.aq,aI b0_ 265 [vS a0.cR,eq v0_0.1]]++F) (fun b hb=>?_) ?_
  rotate_left
  · refine wr 5 16<|kK 4 [0] ?_
    refine Dv.gh (l':=fun ps:List OV=>[mp Value.string (fun p:OV=>eq p.1) v0_0.1 (cZ a0.aq ps),qP aW.O a0.aq ps,aI b0_ 265 [vS a0.cR,eq v0_0.1]]++F) (iO (mh 1 Q)) (fun ps hps=>?_)
    refine Dv.rgb (jj:=0) Q T Q Q wF nofun (fun q=>.fin ?_)
    refine WP.gh (l':=fun _:Unit=>[tF Value.string (fun p:OV=>eq p.1) v0_0.1 q.1 (cZ a0.aq ps) [],qP aW.O a0.aq ps,aI b0_ 265 [vS a0.cR,eq v0_0.1]]++F) (iO (ok:=fun _=>True) fun R w k=>⟨(),T,k⟩) (fun _ _=>?_)
    refine WP.gh (l':=fun _:Unit=>[own Pos.K lA.1 [],tF Value.string (fun p:OV=>eq p.1) v0_0.1 q.1 (cZ a0.aq ps) [],qP aW.O a0.aq ps,aI b0_ 265 [vS a0.cR,eq v0_0.1]]++F) (iO (eD Pos.K none)) (fun _ _=>?_)
    refine WP.block ?_
    refine WP.jK (E':=(fun b:List Nat×OV=>[(5,eq b.2.1),(15,eq q.1),(1,eq (.func (.func 271) #[] #[]))]) ([],lA)) (cW Q (cW Q (cW Q jy))) (WP.loop (β:=List Nat×OV) (fun k b=>b.1.length+k=a0.aq.length) (fun b=>[(5,eq b.2.1),(15,eq q.1),(1,eq (.func (.func 271) #[] #[]))]) (fun b=>[own Pos.K b.2.1 (kF a0.aq aF.g b.1),tF Value.string (fun p:OV=>eq p.1) v0_0.1 q.1 (cZ a0.aq ps) b.1,qP aW.O a0.aq ps,aI b0_ 265 [vS a0.cR,eq v0_0.1]]++F) ?_ (k:=a0.aq.length) (b:=([],lA)) (Nat.zero_add _))
    rintro k ⟨is,v⟩ hk
    replace hk:is.length+k=a0.aq.length:=hk
    refine wr 2 1<|Dv.rgn (jj:=1) Q T Q Q nofun (fun z hz=>?_)
    rcases z with _ | j
    · have hz:is.Perm (List.range (cZ a0.aq ps).length):=hz
      rw [pV hps.1] at hz
      refine ei Q T Q Q<|.fin<|WP.seq<|WP.cond Q nofun (fun _=>WP.exit ?_)
      refine Dn.gh (l':=fun _:Unit=>[own Pos.K v.1 (kF a0.aq aF.g is),tF Value.string (fun p:OV=>eq p.1) v0_0.1 q.1 (cZ a0.aq ps) is,qP aW.O a0.aq ps,aI b0_ 265 [vS a0.cR,eq v0_0.1]]++F) (iO (ok:=fun _=>True) fun R w k=>⟨(),T,k⟩) (fun _ _=>?_)
      refine Dn.gh (l':=fun _:Unit=>[mp Value.string (fun p:OV=>eq p.1) v0_0.1 (cZ a0.aq ps),own Pos.K v.1 (kF a0.aq aF.g is),qP aW.O a0.aq ps,aI b0_ 265 [vS a0.cR,eq v0_0.1]]++F) (iO (F2 (pm 4 [1,0,2,3]))) (fun _ _=>?_)
      refine Dn.gh (l':=fun _:Unit=>[km Value.string aW.O v0_0.1 a0.aq,own Pos.K v.1 (kF a0.aq aF.g is),aI b0_ 265 [vS a0.cR,eq v0_0.1]]++F) (iO (iu hps Q (pm 4 [0,2,1,3]))) (fun _ _=>?_)
      exact Jn.mk (is,v) hz (cW Q (cW Q jy)) (oo 3 [1,0,2] kr Q Q)
    have hz:j<(cZ a0.aq ps).length∧j ∉ is∧is.length<(cZ a0.aq ps).length:=hz
    obtain ⟨e,p,he,hp,hep⟩:=zd hps hz.1
    have hlt:is.length<a0.aq.length:=by rw [← pV hps.1]; exact hz.2.2
    have hsl:=Nat.le_trans (zN (m:=a0.aq) (f:=aF.g) (is:=is)) (Nat.le_of_lt hlt)
    have e1:nxV Value.string (fun p:OV=>eq p.1) (cZ a0.aq ps) (some j)=kN [vB true,vS e.1,eq p.1]:=by simp only [nxV,hep]
    rw [e1]
    refine ei Q T Q Q<|.fin<|WP.seq<|WP.cond Q (fun _=>WP.skip ?_) nofun
    refine WP.gh (l':=fun _:Unit=>[own Pos.K v.1 (kF a0.aq aF.g is),tF Value.string (fun p:OV=>eq p.1) v0_0.1 q.1 (cZ a0.aq ps) (is++[j]),qP aW.O a0.aq ps,aI b0_ 265 [vS a0.cR,eq v0_0.1]]++F) (iO (ok:=fun _=>True) fun R w k=>⟨(),T,k⟩) (fun _ _=>?_)
    refine WP.block<|wr 5 0<|Dv.rge 1 Q T Q Q hep ?_
    refine ei Q T Q Q<|ei Q T Q Q<|gq 2 ?_
    refine WP.gh (l':=fun _:Unit=>[aW.O p e.2,Dl aW.O a0.aq ps j,own Pos.K v.1 (kF a0.aq aF.g is),tF Value.string (fun p:OV=>eq p.1) v0_0.1 q.1 (cZ a0.aq ps) (is++[j]),aI b0_ 265 [vS a0.cR,eq v0_0.1]]++F) (iO (G5 he hp (pm 4 [2,0,1,3]))) (fun _ _=>?_)
    refine WP.gh (l':=fun b:Nat=>[aI b 268 [vS e.2.fe.cJ,vS e.2.fe.aa,sl aH e.2.fe.ag,vS e.2.fe.ae,vS e.2.fe.ai,vI e.2.fe.bR,vI e.2.cN,vB e.2.kc],Dl aW.O a0.aq ps j,own Pos.K v.1 (kF a0.aq aF.g is),tF Value.string (fun p:OV=>eq p.1) v0_0.1 q.1 (cZ a0.aq ps) (is++[j]),aI b0_ 265 [vS a0.cR,eq v0_0.1]]++F) (iO (aW.iK 0 Q)) (fun b hb=>?_)
    refine wr 3 0<|go 2<|Dv.Ei (fst:=#[]) (B:=[aI b 268 [vS e.2.fe.cJ,vS e.2.fe.aa,sl aH e.2.fe.ag,vS e.2.fe.ae,vS e.2.fe.ai,vI e.2.fe.bR,vI e.2.cN,vB e.2.kc]]) (F:=[Dl aW.O a0.aq ps j,own Pos.K v.1 (kF a0.aq aF.g is),tF Value.string (fun p:OV=>eq p.1) v0_0.1 q.1 (cZ a0.aq ps) (is++[j]),aI b0_ 265 [vS a0.cR,eq v0_0.1]]++F) Q T Q (cL 271) Q (Tr.jK (n5.c (a0:=e.2) (b0_:=b) (r:=true) Q) (.cons (iD hb) .nil)) (List.Perm.refl _)<|.fin ?_
    refine WP.cond Q (fun c1=>?_) (fun c1=>?_)
    · have hg:aF.g e=some ⟨e.2.cN,e.1⟩:=by unfold aF.g; rw [c1]; rfl
      have e6:=xR (f:=aF.g) (is:=is) he hg
      have hbd:(kF a0.aq aF.g is).length+([⟨e.2.cN,e.1⟩]:List Pos).length≤9223372036854775807∧((kF a0.aq aF.g is).length+([⟨e.2.cN,e.1⟩]:List Pos).length)*24≤140737488355328:=by rw [List.length_singleton]; omega
      refine rg 10 256<|go 2<|Dv.bW hb Q T Q<|fp hb Q T Q yb<|gl 2 [0]<|Dv.lp (css:=[[vI e.2.cN],[vS e.1]]) Q T tI FO IL Q ⟨(cells_one (ah Q)),⟨(cells_one (ah Q)),T⟩⟩ Q Q<|Dv.lit Pos.K ([⟨e.2.cN,e.1⟩]:List Pos) (css:=[[vI e.2.cN,vS e.1]]) Q T Er tI yh IL Q dc dc Q ⟨cA,T⟩ Q Q Q<|ap Pos.K 2 ([⟨e.2.cN,e.1⟩]:List Pos) bS Er (.inr ⟨_,Er⟩) inf81 hbd nofun fun v9=>go 1 ?_
      refine Dn.gh (l':=fun _:Unit=>[aW.O p e.2,Dl aW.O a0.aq ps j,own Pos.K v9.1 ((kF a0.aq aF.g is)++([⟨e.2.cN,e.1⟩]:List Pos)),tF Value.string (fun p:OV=>eq p.1) v0_0.1 q.1 (cZ a0.aq ps) (is++[j]),aI b0_ 265 [vS a0.cR,eq v0_0.1]]++F) (iO (aW.shut (p:=p) (m:=e.2) b hb (List.Perm.refl _))) (fun _ _=>?_)
      refine Dn.gh (l':=fun _:Unit=>[qP aW.O a0.aq ps,own Pos.K v9.1 ((kF a0.aq aF.g is)++([⟨e.2.cN,e.1⟩]:List Pos)),tF Value.string (fun p:OV=>eq p.1) v0_0.1 q.1 (cZ a0.aq ps) (is++[j]),aI b0_ 265 [vS a0.cR,eq v0_0.1]]++F) (iO (G6 he hp (List.Perm.refl _))) (fun _ _=>?_)
      rw [e6]
      exact wJ.mk (k-1) (is++[j],v9) om (by show (is++[j]).length+(k-1)=_; rw [List.length_append,List.length_singleton]; omega) (cW Q (cW Q (cW Q jy))) (oo 4 [1,2,0,3] kr Q Q)
    cases c1
  obtain ⟨is,v5⟩:=b
  replace hb:is.Perm (List.range a0.aq.length):=hb
  have hp:=xw (f:=aF.g) hb
  have hs:dG.f (kF a0.aq aF.g is)=some (ll iQ (a0.aq.filterMap aF.g)):=by
    unfold dG.f Sp.an
    rw [if_pos (by rw [hp.length_eq]; exact Nat.le_trans (List.length_filterMap_le _ _) h0),DF Ah zO hp]
  have hS:(ll iQ (a0.aq.filterMap aF.g)).length≤1000000:=by unfold ll; rw [List.length_mergeSort]; exact Nat.le_trans (List.length_filterMap_le _ _) h0
  refine wr 2 2<|go 1<|cx 3 [0,1,2] (cL 285) (dG.c hs (p0_:=v5)) nofun fun _ _=>.fin ?_
  generalize ll iQ (a0.aq.filterMap aF.g)=S at hS
  refine sp ?_
  refine WP.Gg (β:=OV) (fun _=>True) (fun v=>[(8,eq v.1)]) (fun v=>[own aH v.1 (S.map (·.cJ)),own Pos.K v5.1 S,km Value.string aW.O v0_0.1 a0.aq,aI b0_ 265 [vS a0.cR,eq v0_0.1]]++F) (fun v _=>?_) ?_
  · refine so<|rt i2 Q v 4 [1,3,2,0] 1 (.cons (aE Q) .nil)
  refine wr 3 0<|go 1<|Dv.kG (Kd:=Pos.K) (xs:=S) (v:=v5.1) Q T Q (ab 0 Q) Er<|gq 1 ?_
  refine WP.gh (l':=fun _:Unit=>[own aH lA.1 [],own Pos.K v5.1 S,km Value.string aW.O v0_0.1 a0.aq,aI b0_ 265 [vS a0.cR,eq v0_0.1]]++F) (iO (eD aH none)) (fun _ _=>?_)
  refine WP.block ?_
  refine WP.jK (E':=(fun b:Nat×OV=>[(8,eq b.2.1),(35,eq v5.1),(36,vI (S.length:Int)),(37,vI (b.1:Int))]) (0,lA)) (cW Q (cW Q (cW Q (cW Q jy)))) (WP.loop (β:=Nat×OV) (fun k b=>b.1+k=S.length) (fun b=>[(8,eq b.2.1),(35,eq v5.1),(36,vI (S.length:Int)),(37,vI (b.1:Int))]) (fun b=>[own aH b.2.1 ((S.take b.1).map (·.cJ)),own Pos.K v5.1 S,km Value.string aW.O v0_0.1 a0.aq,aI b0_ 265 [vS a0.cR,eq v0_0.1]]++F) ?_ (k:=S.length) (b:=(0,lA)) (Nat.zero_add _))
  rintro k ⟨j,v8⟩ hk
  replace hk:j+k=S.length:=hk
  refine so<|WP.seq<|WP.cond Q (fun c2=>WP.skip ?_) (fun c2=>WP.exit ?_)
  rotate_left
  · have c3:¬ ((j:Int)<(S.length:Int)):=of_decide_eq_false c2
    have e3:S.take j=S:=List.take_of_length_le om
    change ∀ R a w,R0.le R→mS _ R a _→St R ([own aH v8.1 ((S.take j).map (·.cJ)),own Pos.K v5.1 S,km Value.string aW.O v0_0.1 a0.aq,aI b0_ 265 [vS a0.cR,eq v0_0.1]]++F) w→_
    rw [e3]
    exact Jn.mk v8 T (cW Q jy) (List.Perm.refl _)
  have c3:(j:Int)<(S.length:Int):=of_decide_eq_true c2
  have hj:j<S.length:=om
  refine WP.seq<|WP.block<|wr 4 12<|Dv.kA Q T Q (ab 1 Q) Q Er tI yh om c3<|Dv.pv (j:=j) (f:=0) Q T Q (ab 1 Q) hj tI Q yh (Nat.le_of_ble_eq_true Q)<|al Q T tA nofun fun b=>sx 0 Q T Q Q cA Fu Q Q Q nofun<|.fin ?_
  have hbd:((S.take j).map (·.cJ)).length+([(S.getD j default).cJ]:List BA).length≤9223372036854775807∧(((S.take j).map (·.cJ)).length+([(S.getD j default).cJ]:List BA).length)*16≤140737488355328:=by rw [List.length_singleton,List.length_map,List.length_take]; omega
  refine rg 6 16<|gl 3 [0]<|Dv.lit aH ([(S.getD j default).cJ]:List BA) (css:=[[vS ((S.getD j default).cJ)]]) Q T dW U9 c9 z9 Q dc dc Q ⟨(cells_one (ah Q)),T⟩ Q Q Q<|ap aH 1 ([(S.getD j default).cJ]:List BA) bS dW (.inr ⟨_,dW⟩) zF hbd nofun fun v9=>go 1 ?_
  refine WP.gh (l':=fun _:Unit=>[own aH v9.1 ((S.take j).map (·.cJ)++([(S.getD j default).cJ]:List BA)),own Pos.K v5.1 S,km Value.string aW.O v0_0.1 a0.aq,aI b0_ 265 [vS a0.cR,eq v0_0.1]]++F) (iO (uJ 5 [0,1,2,3,4] 1 kr Q Q)) (fun _ _=>?_)
  have e4:(S.take j).map (·.cJ)++([(S.getD j default).cJ]:List BA)=(S.take (j+1)).map (·.cJ):=by rw [List.take_add_one,List.map_append,gD,gE hj]; rfl
  rw [e4]
  refine rg 2 0<|nV Q Q Q (nr (a:=j) (b:=1) om)<|gq 1 ?_
  exact wJ.mk (k-1) (j+1,v9) om (by show j+1+(k-1)=S.length; omega) (cW Q (cW Q (cW Q (cW Q jy)))) (List.Perm.refl _)
theorem dag_Dag_All.c {v0_0:OV} {b0_:Nat} (h:dag_Dag_All.f k a0=some r):Tr prog 241 [eP b0_] [aI b0_ 265 [vS a0.cR,eq v0_0.1],km Value.string aW.O v0_0.1 a0.aq] (γ:=OV) (fun _=>True) (fun g=>eq g.1) (fun g=>[aI b0_ 265 [vS a0.cR,eq v0_0.1],km Value.string aW.O v0_0.1 a0.aq,own Event.K g.1 r]):=by
 refine tf func241 h fun R0 F H=>?_
 refine so<|so<|WP.lf H (fun qh:(Int×Int×Bool×(List Event)×(List BA))×OV×OV=>qh.1) (fun qh=>[(3,eq qh.2.1.1)]) (fun qh=>[aI b0_ 265 [vS a0.cR,eq v0_0.1],km Value.string aW.O v0_0.1 a0.aq,own Event.K qh.2.1.1 qh.1.2.2.2.1,own aH qh.2.2.1 qh.1.2.2.2.2]++F) (fun qh H=>?_) (fun H=>?_)
 ·
  obtain ⟨pa,va,vb⟩:=qh
  refine sp ?_
  cases H.out; exact et va 4 [3,0,1,2] 1
 refine wr 4 2<|go 1<|el H fun ta haa H=>cx 2 [0,1] (cL 270) (aF.c haa (b0_:=b0_) (v0_0:=v0_0)) nofun fun ga _=>?_
 refine Dv.kG Q T Q (ab 2 Q) dW<|go 1<|WP.block<|wg (eD Event.K none) fun _ _=>?_
 refine ws 4 [1,2,3,0] 0 ?_
 refine lq (fun j_ (pc:Int×(List Event)×OV)=>dag_Dag_All.l0 k a0 ta j_ pc.1 pc.2.1) (0,([]:List Event),lA) H [0,7,8] (fun pc=>[(3,eq pc.2.2.1),(9,vI pc.1)]) (fun pc=>[(3,own Event.K pc.2.2.1 pc.2.1)]) ?_
 rintro j_ ⟨xc,xd,vd⟩ H
 rcases j_ with _ | ja
 ·
  exact (aV.no H).elim
 try dsimp only at H
 rw [dag_Dag_All.l0] at H
 refine so<|WP.seq<|cf H ?_ ?_ <;> intro H
 ·
  refine WP.exit ?_
  have H:=H.out
  refine ns 4 [0,1,3,2] 0 ?_
  exact jn (((ta.length:Int),xc,decide (xc<(ta.length:Int)),xd,ta),vd,ga) H
 refine WP.skip<|WP.seq<|WP.block<|wr 3 0<|gr H fun gb H=>?_
 have hac:xc.toNat<ta.length:=bE gb
 refine Dv.kA Q T Q (ab 2 Q) Q dW U9 c9 gb.1 gb.2<|Dv.o6 (j:=xc.toNat) (f:=0) (p:=vS (ta.getD xc.toNat default)) Q T Q (ab 2 Q) hac U9 Q Q<|go 1<|rg 14 4096<|gl 6 [0]<|vg (mh 1 Q) fun za had=>?_
 refine Dv.F6 iS Q T Q (ab 0 Q) Q wF (dN U9) BN (fun _=>Q)<|gr H fun gc H=>vg (qv had Q gc (pm 5 [1,0,2,3,4])) fun _ _=>?_
 refine Dv.pZ aW.nn Q T Q (ab 0 Q)<|vg (aW.iK 0 Q) fun gi hae=>?_
 refine fp hae Q T Q tU<|gl 1 [0]<|el H fun tc haf H=>cl Q (cL 146) Q (iA.c haf)<|Dv.lit Event.K ([tc]:List Event) (css:=[Event.enc tc]) Q T rI mJ oU E6 Q dc dc Q ⟨(aZ (Event.K.one _)),T⟩ Q Q Q<|gr H fun gj H=>ap Event.K 5 ([tc]:List Event) bS rI (.inr ⟨_,rI⟩) vL gj nofun fun ve=>?_
 refine go 1<|rg 2 0<|go 2<|ng (aW.shut (p:=((mget (cZ a0.aq za) (ta.getD xc.toNat default)).getD iS)) (m:=(mget a0.aq (ta.getD xc.toNat default)).getD default) gi hae (pm 6 [0,1,2,3,4,5])) fun _ _=>?_
 refine ng (od had Q gc (pm 6 [0,1,2,3,4,5])) fun _ _=>?_
 refine ng (iu had Q (pm 5 [1,0,2,3,4])) fun _ _=>?_
 refine ns 4 [1,0,2,3] 0 ?_
 exact bk ja (aw (xc+1),xd++([tc]:List Event),ve) H
theorem member_joined.c {v0_0:OV} {b0_:Nat} (h:member_joined.f k a0=some r):Tr prog 180 [eP b0_] [aI b0_ 265 [vS a0.cR,eq v0_0.1],km Value.string aW.O v0_0.1 a0.aq] (γ:=OV) (fun _=>True) (fun g=>eq g.1) (fun g=>[aI b0_ 265 [vS a0.cR,eq v0_0.1],km Value.string aW.O v0_0.1 a0.aq,mp Value.string (fun x:Int=>vI x) g.1 r]):=by
 refine tf func180 h fun R0 F H=>?_
 refine so<|wr 2 1<|Dv.KO Value.string (fun x:Int=>vI x) Q T nofun (fun va=>?_)
 refine go 1<|WP.lf H (fun qh:(Int×Int×Bool×(List (BA×Int))×(List Event))×OV=>qh.1) (fun qh=>[(3,eq va.1)]) (fun qh=>[aI b0_ 265 [vS a0.cR,eq v0_0.1],km Value.string aW.O v0_0.1 a0.aq,mp Value.string (fun x:Int=>vI x) va.1 qh.1.2.2.2.1,own Event.K qh.2.1 qh.1.2.2.2.2]++F) (fun qh H=>?_) (fun H=>?_)
 ·
  obtain ⟨pa,vb⟩:=qh
  refine sp ?_
  cases H.out; exact et va 4 [3,0,1,2] 1
 refine wr 4 2<|go 1<|el H fun ta haa H=>cx 3 [1,2,0] (cL 241) (dag_Dag_All.c haa (b0_:=b0_) (v0_0:=v0_0)) nofun fun ga _=>?_
 refine Dv.kG Q T Q (ab 2 Q) rI<|go 1<|WP.block<|ws 4 [0,1,2,3] 0 ?_
 refine lq (fun j_ (pc:Int×(List (BA×Int)))=>member_joined.l0 k ta j_ pc.1 pc.2) (0,([]:List (BA×Int))) H [3,8,9] (fun pc=>[(10,vI pc.1)]) (fun pc=>[(3,mp Value.string (fun x:Int=>vI x) va.1 pc.2)]) ?_
 rintro j_ ⟨xc,xd⟩ H
 rcases j_ with _ | ja
 ·
  exact (aV.no H).elim
 try dsimp only at H
 rw [member_joined.l0] at H
 refine so<|WP.seq<|cf H ?_ ?_ <;> intro H
 ·
  refine WP.exit ?_
  have H:=H.out
  refine ns 4 [0,1,3,2] 0 ?_
  exact jn (((ta.length:Int),xc,decide (xc<(ta.length:Int)),xd,ta),ga) H
 refine WP.skip<|WP.seq<|WP.block<|wr 4 12<|gr H fun gb H=>?_
 have hac:xc.toNat<ta.length:=bE gb
 refine Dv.kA Q T Q (ab 2 Q) Q rI mJ oU gb.1 gb.2<|Dv.pv (j:=xc.toNat) (f:=0) Q T Q (ab 2 Q) hac mJ Q oU (Nat.le_of_ble_eq_true Q)<|al Q T zw nofun fun ba=>sy 0 ?_
 refine .fin<|r9 [0]<|WP.block<|so<|ce H ?_ ?_ <;> intro H
 ·
  refine rg 4 8<|gl 3 [0]<|Dv.mup (jj:=4) 1 Q T Q Q Q Q tB (dN U9) nofun<|.fin<|rg 2 0<|go 2<|ns 5 [0,1,2,3,4] 1 ?_
  exact bk ja (aw (xc+1),mput xd ((ta.getD xc.toNat default).ai) 1) H
 refine so<|cf H ?_ ?_ <;> intro H
 ·
  refine WP.skip<|rg 2 0<|go 2<|ns 5 [0,1,2,3,4] 1 ?_
  exact bk ja (aw (xc+1),xd) H
 refine rg 4 8<|gl 3 [0]<|Dv.mdl (jj:=4) Q T Q Q Q tB (dN U9) nofun<|.fin<|rg 2 0<|go 2<|ns 5 [0,1,2,3,4] 1 ?_
 exact bk ja (aw (xc+1),lL xd ((ta.getD xc.toNat default).ai)) H
theorem jH.c {v0_0:OV} {b0_:Nat} (h:jH.f k a0 a1=some r):Tr prog 121 [eP b0_,vS a1] [aI b0_ 265 [vS a0.cR,eq v0_0.1],km Value.string aW.O v0_0.1 a0.aq] (γ:=Unit) (fun _=>True) (fun g=>vB r) (fun g=>[aI b0_ 265 [vS a0.cR,eq v0_0.1],km Value.string aW.O v0_0.1 a0.aq]):=by
 refine tf func121 h fun R0 F H=>?_
 refine so<|wr 6 2<|go 1<|el H fun ta haa H=>cx 2 [0,1] (cL 180) (member_joined.c haa (b0_:=b0_) (v0_0:=v0_0)) nofun fun ga _=>?_
 refine go 1<|Dv.F6 0 Q T Q (ab 2 Q) Q tB (dN U9) z3 (fun _=>Q)<|gq 2 ?_
 cases H.out; exact et () 3 [2,0,1] 1
theorem bN.c {v0_0:OV} {b0_:Nat} (h:bN.f k a0 a1 a2=some r):Tr prog 57 [eP b0_,vS a1,vS a2] [aI b0_ 186 [eq v0_0.1],km Value.string bf.O v0_0.1 a0.br] (γ:=Unit) (fun _=>True) (fun g=>vB r) (fun g=>[aI b0_ 186 [eq v0_0.1],km Value.string bf.O v0_0.1 a0.br]):=by
 refine tf func57 h fun R0 F H=>?_
 refine so<|wr 6 4<|go 2<|el H fun ta haa H=>cx 2 [0,1] (cL 88) (aO.c haa (b0_:=b0_) (v0_0:=v0_0)) nofun fun va _=>?_
 refine go 1<|vg (bf.iK 2 Q) fun ga hac=>?_
 refine el H fun tc had H=>px 4 [0,1,2,3] (cL 121) (Tr.jK (jH.c had (b0_:=ga.1) (v0_0:=ga.2)) (.cons (iD hac) (.cons cM .nil))) ?_
 refine go 1<|wg (bf.shut (p:=va) (m:=ta) (ga.1,ga.2) hac (pm 4 [0,1,2,3])) fun _ _=>?_
 refine wg (fu (aO.r haa) (pm 3 [2,0,1])) fun _ _=>?_
 cases H.out; exact et () 2 [1,0] 0
theorem iB.c {cb0_:Nat} {cq0_0 cq0_1 cq0_2 cq0_3 cq0_4:OV} {c0:Src} {c1:BA} (h:iB.f k a0 c0 c1=some r):Tr prog 73 [vS a0,eP cb0_,rp [vS c1]] [aI cb0_ 30 [eq cq0_0.1,eq cq0_1.1,eq cq0_2.1,eq cq0_3.1,eq cq0_4.1],aL.O cq0_0 c0.cO,jF.O cq0_1 c0.ay,bZ.O cq0_2 c0.av,cI.O cq0_3 c0.aU,cH.O cq0_4 c0.gH] (γ:=Unit) (fun _=>True) (fun g=>vB r) (fun g=>[aI cb0_ 30 [eq cq0_0.1,eq cq0_1.1,eq cq0_2.1,eq cq0_3.1,eq cq0_4.1],aL.O cq0_0 c0.cO,jF.O cq0_1 c0.ay,bZ.O cq0_2 c0.av,cI.O cq0_3 c0.aU,cH.O cq0_4 c0.gH]):=by
 refine tf func73 h fun R0 F H=>?_
 refine so<|wr 7 0<|gl 2 [0]<|mj Q T Q qt Q<|go 1<|vg (aL.iK 1 Q) fun ga haa=>?_
 refine el H fun ta hac H=>px 7 [0,1,2,3,4,5,6] (cL 57) (Tr.jK (bN.c hac (b0_:=ga.1) (v0_0:=ga.2)) (.cons (iD haa) (.cons cM (.cons cM .nil)))) ?_
 refine go 2<|wg (aL.shut (p:=cq0_0) (m:=c0.cO) (ga.1,ga.2) haa (pm 7 [0,1,2,3,4,5,6])) fun _ _=>?_
 cases H.out; exact et () 6 [1,0,2,3,4,5] 0
theorem lW.c {p0_0 p0_1 p0_2 p0_3 p0_4:OV} (h:lW.f k a0 a1 a2=some r):Tr prog 20 [agg [eq p0_0.1,eq p0_1.1,eq p0_2.1,eq p0_3.1,eq p0_4.1],vS a1,vI a2] [aL.O p0_0 a0.cO,jF.O p0_1 a0.ay,bZ.O p0_2 a0.av,cI.O p0_3 a0.aU,cH.O p0_4 a0.gH] (γ:=Unit) (fun _=>True) (fun g=>sl aH r) (fun g=>[aL.O p0_0 a0.cO,jF.O p0_1 a0.ay,bZ.O p0_2 a0.av,cI.O p0_3 a0.aU,cH.O p0_4 a0.gH]):=by
 refine tf func20 h fun R0 F H=>?_
 refine wr 3 3<|Dv.box Q T Q cA nofun fun ba=>Dv.box Q T Q cE nofun fun bc=>go 1<|wr 8 80<|gl 4 [1,0]<|vg (bZ.iK 4 Q) fun ga haa=>?_
 refine el H fun ta hac H=>cx 9 [0,1,2,3,4,5,6,7,8] (cL 72) (Tr.jK (aR.c hac (b0_:=ga.1) (v0_0:=ga.2.1) (v0_1:=ga.2.2)) (.cons (iD haa) (.cons cM (.cons cM .nil)))) nofun fun gb _=>?_
 refine vg (bZ.shut (p:=p0_2) (m:=a0.av) (ga.1,ga.2.1,ga.2.2) haa (pm 10 [0,1,3,2,4,5,6,7,8,9])) fun _ _=>?_
 refine Dv.gh (rW (E':=[(0,agg [eq p0_0.1,eq p0_1.1,eq p0_2.1,eq p0_3.1,eq p0_4.1]),(1,vS a1),(2,vI a2),(3,eP ba),(4,rp [vS a1]),(6,eN),(11,eq gb.1)]) (l':=[bZ.O p0_2 a0.av,own aH gb.1 ta,aI ba 30 [eq p0_0.1,eq p0_1.1,eq p0_2.1,eq p0_3.1,eq p0_4.1],aL.O p0_0 a0.cO,jF.O p0_1 a0.ay,cI.O p0_3 a0.aU,cH.O p0_4 a0.gH]++F) 2 Q (ar Q az (ar Q az (ar Q az (ar Q az (ar Q j4 (ar Q az (ar Q az jl))))))) (gC (.cons bU (.cons bU (.cons bU (.cons bU (.cons bU (.cons bU (.cons bU .nil))))))) fun _=>bU)) (fun _ _=>?_)
 refine Dv.mkx (Q:=jB (fun a0_=>iB.f k a0_ a0 a1)) (L:=[aI ba 30 [eq p0_0.1,eq p0_1.1,eq p0_2.1,eq p0_3.1,eq p0_4.1],aL.O p0_0 a0.cO,jF.O p0_1 a0.ay,bZ.O p0_2 a0.av,cI.O p0_3 a0.aU,cH.O p0_4 a0.gH]) (cL 73) (by rintro _ _ ⟨a0_,r_,h_,rfl,rfl⟩; exact iB.c h_ (cb0_:=ba) (cq0_0:=p0_0) (cq0_1:=p0_1) (cq0_2:=p0_2) (cq0_3:=p0_3) (cq0_4:=p0_4)) Q T Q Q<|el H fun tc had H=>cx 7 [1,2,3,4,0,5,6] (cL 71) (Tr.Jq (A:=[own aH gb.1 ta]) (L:=[aI ba 30 [eq p0_0.1,eq p0_1.1,eq p0_2.1,eq p0_3.1,eq p0_4.1],aL.O p0_0 a0.cO,jF.O p0_1 a0.ay,bZ.O p0_2 a0.av,cI.O p0_3 a0.aU,cH.O p0_4 a0.gH]) (B:=fun gc:OV=>[own aH gc.1 tc]) (slices_DeleteFunc_string_xo.c had (p0_:=gb) (X1_:=(pk [aI ba 30 [eq p0_0.1,eq p0_1.1,eq p0_2.1,eq p0_3.1,eq p0_4.1],aL.O p0_0 a0.cO,jF.O p0_1 a0.ay,bZ.O p0_2 a0.av,cI.O p0_3 a0.aU,cH.O p0_4 a0.gH])))) nofun fun gc _=>?_
 refine go 1<|fz 6 [6] [] ?_
 cases H.out; exact et () 6 [0,1,2,3,4,5] 1
theorem iN.c {b0_:Nat} (h:iN.f a0=some r):Tr prog 118 [eP b0_] [aI b0_ 257 [vI a0.fn.fv,vI a0.dU]] (γ:=Unit) (fun _=>True) (fun g=>vI r) (fun g=>[aI b0_ 257 [vI a0.fn.fv,vI a0.dU]]):=by
 refine tf func118 h fun R0 F H=>?_
 refine so<|wr 5 0<|go 3<|px 1 [0] (cL 178) (nQ.c (b:=b0_) (off:=0) (bT:=257) (qs:=[vI a0.fn.fv,vI a0.dU]) (n:=a0.fn.fv) Q) ?_
 refine gq 1 ?_
 cases H.out; exact et () 1 [0] 0
theorem iy.c {p0_:OV} (h:iy.f a0=some r):Tr prog 53 [eq p0_.1] [cH.O p0_ a0] (γ:=Unit) (fun _=>True) (fun g=>vI r) (fun g=>[cH.O p0_ a0]):=by
 refine tf func53 h fun R0 F H=>?_
 refine so<|wr 6 0<|go 1<|Dv.pZ cH.nn Q T Q (ab 0 Q)<|vg (cH.iK 0 Q) fun ga haa=>?_
 refine fp haa Q T Q Cp<|gl 1 [0]<|vg (kI.iK 1 Q) fun gb hac=>?_
 refine el H fun ta had H=>px 4 [0,1,2,3] (cL 118) (Tr.jK (iN.c had (b0_:=gb)) (.cons (iD hac) .nil)) ?_
 refine go 1<|wg (kI.shut (p:=ga.2.1) (m:=a0.iH) gb hac (pm 4 [0,1,2,3])) fun _ _=>?_
 refine wg (cH.shut (p:=p0_) (m:=a0) (ga.1,ga.2.1,ga.2.2.1,ga.2.2.2) haa (pm 4 [1,0,2,3])) fun _ _=>?_
 cases H.out; exact et () 1 [0] 0
theorem cG.c {p0_:OV} (h:cG.f k a0 a1=some r):Tr prog 54 [eq p0_.1,vI a1] [cH.O p0_ a0] (γ:=OV) (fun _=>True) (fun g=>eq g.1) (fun g=>[cH.O p0_ a0,own aH g.1 r]):=by
 refine tf func54 h fun R0 F H=>?_
 refine so<|wr 6 0<|go 1<|Dv.pZ cH.nn Q T Q (ab 0 Q)<|vg (cH.iK 0 Q) fun ga haa=>?_
 refine fp haa Q T Q mV<|gl 1 [0]<|Dv.kG Q T Q (ab 2 Q) dW<|go 1<|WP.lf H id (fun pa=>[(0,eq p0_.1),(5,vI pa.1)]) (fun pa=>[cH.O p0_ a0]++F) (fun pa H=>?_) (fun H=>?_)
 ·
  refine wr 9 128<|go 1<|Dv.pZ cH.nn Q T Q (ab 0 Q)<|vg (cH.iK 0 Q) fun gb hac=>?_
  refine fp hac Q T Q mV<|gl 1 [0]<|Dv.kG Q T Q (ab 2 Q) dW<|go 2<|gr H fun gc H=>?_
  obtain ⟨ti1955,ti1955a,ti1955b,ti1955c,ti1955d⟩:=zF
  refine Dv.AJ (Kd:=aH) (eE:BA) Q T Q Q dW ti1955a ti1955b ti1955c ti1955d Q dc Q gc nofun (fun va=>?_)
  refine go 1<|wr 8 128<|go 2<|Dv.bW hac Q T Q<|fp hac Q T Q mV<|gl 2 [1]<|gr H fun gi H=>Dv.slt (Kd:=aH) Q T Q (ab 3 Q) dW U9 c9 (eV Q gi.1) gi.2<|Dv.cpt (Kd:=aH) (jj:=0) Q T Q Q (ab 3 Q) Q dW U9 c9 gi.2 nofun<|.fin<|so<|wg (cH.shut (p:=p0_) (m:=a0) (gb.1,gb.2.1,gb.2.2.1,gb.2.2.2) hac (pm 5 [1,2,3,4,0])) fun _ _=>?_
  cases H.out; exact et va 2 [0,1] 0
 refine WP.block<|wg (cH.shut (p:=p0_) (m:=a0) (ga.1,ga.2.1,ga.2.2.1,ga.2.2.2) haa (pm 4 [0,1,2,3])) fun _ _=>?_
 refine ws 1 [0] 0 ?_
 refine lq (fun j_ (pc:Int)=>cG.l0 k a0 a1 j_ pc) (a0.eI.length:Int) H [0,1] (fun pc=>[(5,vI pc)]) (fun _=>[]) ?_
 rintro j_ xc H
 rcases j_ with _ | ja
 ·
  exact (aV.no H).elim
 try dsimp only at H
 rw [cG.l0] at H
 refine WP.seq<|WP.seq<|wg (cH.iK 0 Q) fun gj had=>?_
 refine dg mX 19 0<|gp 3 ?_
 cases cc:decide (0<xc)
 ·
  have H:=H.cf cc
  refine go 16<|WP.cond Q nofun (fun _=>?_)
  refine WP.exit ?_
  have H:=H.out
  refine ng (cH.shut (p:=p0_) (m:=a0) (gj.1,gj.2.1,gj.2.2.1,gj.2.2.2) had (pm 4 [0,1,2,3])) fun _ _=>?_
  exact jn (xc,false) H
 have H:=H.ct cc
 refine go 1<|Dv.bW had Q (gg Q) Q<|fp had Q (gg Q) Q yW<|gl 2 [0]<|Dv.bW had Q (gg Q) Q<|fp had Q (gg Q) Q mV<|gl 3 [0]<|gr H fun gk H=>?_
 have hae:(aw (xc-1)).toNat<a0.eI.length:=bE gk
 refine Dv.kA Q (gg Q) Q (ab 2 Q) Q dW U9 c9 gk.1 gk.2<|Dv.o6 (j:=((aw (xc-1)).toNat)) (f:=0) (p:=vS (a0.eI.getD ((aw (xc-1)).toNat) default)) Q (gg Q) Q (ab 2 Q) hae U9 Q Q<|Dv.F6 0 Q (gg Q) Q (ab 3 Q) Q tB (dN U9) z3 (fun _=>Q)<|go 3<|ce H ?_ ?_ <;> intro H
 ·
  refine WP.skip<|WP.block<|rg 3 0<|go 3<|ng (cH.shut (p:=p0_) (m:=a0) (gj.1,gj.2.1,gj.2.2.1,gj.2.2.2) had (pm 4 [0,1,2,3])) fun _ _=>?_
  exact bk ja (aw (xc-1)) H
 refine WP.exit ?_
 have H:=H.out
 refine ng (cH.shut (p:=p0_) (m:=a0) (gj.1,gj.2.1,gj.2.2.1,gj.2.2.2) had (pm 4 [0,1,2,3])) fun _ _=>?_
 exact jn (xc,decide (a1<((mget a0.nZ (a0.eI.getD ((aw (xc-1)).toNat) default)).getD 0))) H
theorem gK.c (h:gK.f a0 a1=some r):Pt prog 240 [vS a0,vS a1] (vI r):=by
 refine pf func240 h fun R0 F H=>?_
 refine so<|wr 4 0<|go 2<|el H fun ta haa H=>cl Q (cL 269) Q (ee.c haa)<|gq 1 ?_
 cases H.out; exact ek 0
theorem strings_Count.c (h:strings_Count.f k a0 a1=some r):Pt prog 239 [vS a0,vS a1] (vI r):=by
 refine pf func239 h fun R0 F H=>?_
 refine so<|WP.seq<|wr 3 0<|go 1<|Dv.lens Q T Q U9<|go 1<|ce H ?_ ?_ <;> intro H
 ·
  exact (aV.no H).elim
 refine WP.skip<|WP.seq<|wr 3 0<|go 1<|Dv.lens Q T Q U9<|go 1<|ce H ?_ ?_ <;> intro H
 ·
  refine wr 5 0<|go 2<|gr H fun ga H=>Dv.qq Q T Q Q U9 ga.1 ga.2<|Dv.KB Q T Q (FT func268 kr Q xf268 xg268)<|gq 1 ?_
  cases H.out; exact ek 0
 refine WP.skip<|so<|WP.block<|ws 0 [] 0 ?_
 refine lq (fun j_ (pa:BA×Int)=>strings_Count.l0 k a1 j_ pa.1 pa.2) (a0,0) H [1] (fun pa=>[(0,vS pa.1),(5,vI pa.2)]) (fun _=>[]) ?_
 rintro j_ ⟨xc,xd⟩ H
 rcases j_ with _ | ja
 ·
  exact (aV.no H).elim
 try dsimp only at H
 rw [strings_Count.l0] at H
 refine WP.block<|wr 4 0<|go 2<|el H fun ta haa H=>cl Q (cL 240) Q (gK.c haa)<|go 1<|WP.seq<|so<|ce H ?_ ?_ <;> intro H
 ·
  refine sp ?_
  cases H.out; exact ek 0
 exact WP.skip<|so<|rg 7 0<|go 3<|Dv.lens Q T Q U9<|go 1<|gr H fun gb H=>Dv.Hg Q T Q U9 (eV Q gb.1) dC gb.2.1 gb.2.2<|go 1<|bk ja (xc.extract (aw (ta+(a1.size:Int))).toNat xc.size,aw (xd+1)) H
theorem strings_genSplit.c (h:strings_genSplit.f k a0 a1 a2 a3=some r):Tr prog 179 [vS a0,vS a1,vI a2,vI a3] [] (γ:=OV) (fun _=>True) (fun g=>eq g.1) (fun g=>[own aH g.1 r]):=by
 refine tf func179 h fun R0 F H=>?_
 refine so<|WP.seq<|so<|ce H ?_ ?_ <;> intro H
 ·
  refine so<|wg (eD aH none) fun _ _=>?_
  cases H.out; exact et lA 1 [0] 0
 refine WP.skip<|WP.seq<|so<|ce H ?_ ?_ <;> intro H
 ·
  exact (aV.no H).elim
 refine WP.skip<|sq H id [0,1,2] (fun pa=>[(3,vI pa)]) (fun _=>[]) (fun pa H=>?_) (fun H=>?_)
 rotate_left
 ·
  refine so<|cf H ?_ ?_ <;> intro H
  ·
   refine WP.skip ?_
   have H:=H.out
   exact jn a3 H
  refine rg 5 0<|go 2<|el H fun ta haa H=>cl Q (cL 239) Q (strings_Count.c haa)<|gq 2 ?_
  have H:=H.out
  exact jn (aw (ta+1)) H
 refine wr 6 0<|go 2<|Dv.lens Q T Q U9<|go 1<|Dv.mini Q T Q Q<|go 1<|wr 3 2<|go 1<|gr H fun ga H=>?_
 obtain ⟨ti1985,ti1985a,ti1985b,ti1985c,ti1985d⟩:=zF
 refine Dv.AJ (Kd:=aH) (eE:BA) Q T Q Q dW ti1985a ti1985b ti1985c ti1985d Q dc Q ga nofun (fun va=>?_)
 refine go 1<|so<|so<|sq H id [9] (fun pc=>[(0,vS pc.1),(10,vI pc.2.1)]) (fun pc=>[(0,own aH va.1 pc.2.2.2)]) (fun pc H=>?_) (fun H=>?_)
 ·
  refine wr 5 16<|go 3<|gr H fun gb H=>?_
  have hac:pc.2.1.toNat<pc.2.2.2.length:=bE gb
  refine Dv.kA Q T Q (ab 0 Q) Q dW U9 c9 gb.1 gb.2<|Dv.HX (j:=pc.2.1.toNat) (f:=0) (jj:=0) pc.1 Q T Q Q (cells_one (ah Q)) U9 c9 Q Q hac (Nat.le_of_ble_eq_true Q) Q nofun<|.fin<|wr 5 8<|go 3<|gr H fun gc H=>Dv.slo (jj:=0) Q T Q Q dW U9 c9 dC (eV Q gc.1) (.inl Q) gc.2.1 gc.2.2 nofun (fun vb=>?_)
  refine gq 1 ?_
  cases H.out; exact et vb 1 [0] 0
 refine WP.block<|ws 1 [0] 0 ?_
 refine lq (fun j_ (pe:BA×Int×(List BA))=>strings_genSplit.l0 k a0 a1 a2 pa j_ pe.1 pe.2.1 pe.2.2) (a0,0,List.replicate (min pa (aw ((a0.size:Int)+1))).toNat (eE:BA)) H [1,2,3,9] (fun pe=>[(0,vS pe.1),(10,vI pe.2.1)]) (fun pe=>[(0,own aH va.1 pe.2.2)]) ?_
 rintro j_ ⟨xc,xd,xe⟩ H
 rcases j_ with _ | ja
 ·
  exact (aV.no H).elim
 try dsimp only at H
 rw [strings_genSplit.l0] at H
 refine WP.seq<|so<|cf H ?_ ?_ <;> intro H
 ·
  refine WP.exit ?_
  have H:=H.out
  exact jn (xc,xd,decide (xd<(aw ((min pa (aw ((a0.size:Int)+1)))-1))),xe) H
 refine WP.skip<|WP.block<|wr 4 0<|go 2<|el H fun tc had H=>cl Q (cL 240) Q (gK.c had)<|go 1<|WP.seq<|so<|ce H ?_ ?_ <;> intro H
 ·
  refine WP.exit ?_
  have H:=H.out
  exact jn (xc,xd,decide (xd<(aw ((min pa (aw ((a0.size:Int)+1)))-1))),xe) H
 refine WP.skip<|wr 9 256<|go 6<|gr H fun gi H=>Dv.Hg Q T Q U9 dC (eV Q gi.1) gi.2.1 gi.2.2<|gr H fun gj H=>?_
 have hae:xd.toNat<xe.length:=bE gj
 exact Dv.kA Q T Q (ab 0 Q) Q dW U9 c9 gj.1 gj.2<|Dv.HX (j:=xd.toNat) (f:=0) (jj:=0) (xc.extract 0 ((aw (tc+a2)).toNat)) Q T Q Q (cells_one (ah Q)) U9 c9 Q Q hae (Nat.le_of_ble_eq_true Q) Q nofun<|.fin<|wr 7 0<|go 3<|Dv.lens Q T Q U9<|go 1<|gr H fun gk H=>Dv.Hg Q T Q U9 (eV Q gk.1) dC gk.2.1 gk.2.2<|go 1<|rg 3 0<|go 3<|bk ja (xc.extract (aw (tc+(a1.size:Int))).toNat xc.size,aw (xd+1),xe.set xd.toNat (xc.extract 0 ((aw (tc+a2)).toNat))) H
theorem kD.c (h:kD.f k a0 a1=some r):Tr prog 119 [vS a0,vS a1] [] (γ:=OV) (fun _=>True) (fun g=>eq g.1) (fun g=>[own aH g.1 r]):=by
 refine tf func119 h fun R0 F H=>?_
 refine so<|wr 4 4<|go 2<|el H fun ta haa H=>cx 0 [] (cL 179) (strings_genSplit.c haa) nofun fun ga _=>?_
 refine gq 1 ?_
 cases H.out; exact et ga 1 [0] 0
theorem mU.c (h:mU.f k a0=some r):Pt prog 55 [vS a0] (jw.p r):=by
 refine pf func55 h fun R0 F H=>?_
 refine so<|wr 3 2<|go 1<|el H fun ta haa H=>cx 0 [] (cL 119) (kD.c haa) nofun fun ga _=>?_
 refine go 1<|WP.seq<|WP.block<|wr 22 0<|go 1<|Dv.kG Q T Q (ab 0 Q) dW<|gp 2 ?_
 rcases bm H with ⟨cc,H⟩ | ⟨cc,H⟩
 ·
  refine sh 9 cc ?_
  refine sh 10 cc ?_
  refine go 18<|WP.cond Q nofun (fun _=>?_)
  refine wr 10 0<|go 1<|Dv.kG Q T Q (ab 0 Q) dW<|gp 2 ?_
  rcases bm H with ⟨cg,H⟩ | ⟨cg,H⟩
  ·
   refine sh 46 cg ?_
   refine sh 47 cg ?_
   refine go 6<|WP.cond Q nofun (fun _=>?_)
   refine wr 10 0<|go 1<|Dv.kG Q T Q (ab 0 Q) dW<|gp 2 ?_
   rcases bm H with ⟨ci,H⟩ | ⟨ci,H⟩
   ·
    refine sh 60 ci ?_
    refine sh 61 ci ?_
    refine go 6<|WP.cond Q nofun (fun _=>?_)
    refine WP.skip<|sp ?_
    cases H.out; exact ek 1
   refine sh 60 ci ?_
   refine sh 61 ci ?_
   refine go 1<|gr H fun gb H=>?_
   have hac:(0:Int).toNat<ta.length:=bE gb
   refine Dv.kA Q (gg Q) Q (ab 0 Q) Q dW U9 c9 gb.1 gb.2<|Dv.o6 (j:=((0:Int).toNat)) (f:=0) (p:=vS (ta.getD ((0:Int).toNat) default)) Q (gg Q) Q (ab 0 Q) hac U9 Q Q<|go 3<|cf H ?_ ?_ <;> intro H
   ·
    refine WP.skip<|sp ?_
    cases H.out; exact ek 1
   refine wr 5 0<|go 1<|gr H fun gc H=>?_
   have had:(1:Int).toNat<ta.length:=bE gc
   refine Dv.kA Q T Q (ab 0 Q) Q dW U9 c9 gc.1 gc.2<|Dv.o6 (j:=((1:Int).toNat)) (f:=0) (p:=vS (ta.getD ((1:Int).toNat) default)) Q T Q (ab 0 Q) had U9 Q Q<|Dv.FW Q T Q sJ<|gq 1 ?_
   cases H.out; exact ek 1
  refine sh 46 cg ?_
  refine sh 47 cg ?_
  refine go 1<|gr H fun gi H=>?_
  have hae:(0:Int).toNat<ta.length:=bE gi
  refine Dv.kA Q (gg Q) Q (ab 0 Q) Q dW U9 c9 gi.1 gi.2<|Dv.o6 (j:=((0:Int).toNat)) (f:=0) (p:=vS (ta.getD ((0:Int).toNat) default)) Q (gg Q) Q (ab 0 Q) hae U9 Q Q<|go 3<|ce H ?_ ?_ <;> intro H
  ·
   refine wr 5 0<|go 1<|gr H fun gj H=>?_
   have haf:(1:Int).toNat<ta.length:=bE gj
   refine Dv.kA Q T Q (ab 0 Q) Q dW U9 c9 gj.1 gj.2<|Dv.o6 (j:=((1:Int).toNat)) (f:=0) (p:=vS (ta.getD ((1:Int).toNat) default)) Q T Q (ab 0 Q) haf U9 Q Q<|Dv.FW Q T Q AU<|gq 1 ?_
   cases H.out; exact ek 1
  refine wr 10 0<|go 1<|Dv.kG Q T Q (ab 0 Q) dW<|gp 2 ?_
  rcases bm H with ⟨cj,H⟩ | ⟨cj,H⟩
  ·
   refine sh 60 cj ?_
   refine sh 61 cj ?_
   refine go 6<|WP.cond Q nofun (fun _=>?_)
   refine WP.skip<|sp ?_
   cases H.out; exact ek 1
  refine sh 60 cj ?_
  refine sh 61 cj ?_
  refine go 1<|gr H fun gk H=>?_
  have hag:(0:Int).toNat<ta.length:=bE gk
  refine Dv.kA Q (gg Q) Q (ab 0 Q) Q dW U9 c9 gk.1 gk.2<|Dv.o6 (j:=((0:Int).toNat)) (f:=0) (p:=vS (ta.getD ((0:Int).toNat) default)) Q (gg Q) Q (ab 0 Q) hag U9 Q Q<|go 3<|cf H ?_ ?_ <;> intro H
  ·
   refine WP.skip<|sp ?_
   cases H.out; exact ek 1
  refine wr 5 0<|go 1<|gr H fun gm H=>?_
  have hah:(1:Int).toNat<ta.length:=bE gm
  refine Dv.kA Q T Q (ab 0 Q) Q dW U9 c9 gm.1 gm.2<|Dv.o6 (j:=((1:Int).toNat)) (f:=0) (p:=vS (ta.getD ((1:Int).toNat) default)) Q T Q (ab 0 Q) hah U9 Q Q<|Dv.FW Q T Q sJ<|gq 1 ?_
  cases H.out; exact ek 1
 refine sh 9 cc ?_
 refine sh 10 cc ?_
 refine go 1<|gr H fun gn H=>?_
 have hai:(0:Int).toNat<ta.length:=bE gn
 refine Dv.kA Q (gg Q) Q (ab 0 Q) Q dW U9 c9 gn.1 gn.2<|Dv.o6 (j:=((0:Int).toNat)) (f:=0) (p:=vS (ta.getD ((0:Int).toNat) default)) Q (gg Q) Q (ab 0 Q) hai U9 Q Q<|gp 3 ?_
 rcases bm H with ⟨ck,H⟩ | ⟨ck,H⟩
 ·
  refine sh 14 ck ?_
  refine sh 15 ck ?_
  refine sh 16 ck ?_
  refine go 12<|WP.cond Q nofun (fun _=>?_)
  refine wr 10 0<|go 1<|Dv.kG Q T Q (ab 0 Q) dW<|gp 2 ?_
  rcases bm H with ⟨cn,H⟩ | ⟨cn,H⟩
  ·
   refine sh 46 cn ?_
   refine sh 47 cn ?_
   refine go 6<|WP.cond Q nofun (fun _=>?_)
   refine wr 10 0<|go 1<|Dv.kG Q T Q (ab 0 Q) dW<|gp 2 ?_
   rcases bm H with ⟨co,H⟩ | ⟨co,H⟩
   ·
    refine sh 60 co ?_
    refine sh 61 co ?_
    refine go 6<|WP.cond Q nofun (fun _=>?_)
    refine WP.skip<|sp ?_
    cases H.out; exact ek 1
   refine sh 60 co ?_
   refine sh 61 co ?_
   refine go 1<|gr H fun gu H=>?_
   have haj:(0:Int).toNat<ta.length:=bE gu
   refine Dv.kA Q (gg Q) Q (ab 0 Q) Q dW U9 c9 gu.1 gu.2<|Dv.o6 (j:=((0:Int).toNat)) (f:=0) (p:=vS (ta.getD ((0:Int).toNat) default)) Q (gg Q) Q (ab 0 Q) haj U9 Q Q<|go 3<|cf H ?_ ?_ <;> intro H
   ·
    refine WP.skip<|sp ?_
    cases H.out; exact ek 1
   refine wr 5 0<|go 1<|gr H fun gv H=>?_
   have hak:(1:Int).toNat<ta.length:=bE gv
   refine Dv.kA Q T Q (ab 0 Q) Q dW U9 c9 gv.1 gv.2<|Dv.o6 (j:=((1:Int).toNat)) (f:=0) (p:=vS (ta.getD ((1:Int).toNat) default)) Q T Q (ab 0 Q) hak U9 Q Q<|Dv.FW Q T Q sJ<|gq 1 ?_
   cases H.out; exact ek 1
  refine sh 46 cn ?_
  refine sh 47 cn ?_
  refine go 1<|gr H fun gw H=>?_
  have ham:(0:Int).toNat<ta.length:=bE gw
  refine Dv.kA Q (gg Q) Q (ab 0 Q) Q dW U9 c9 gw.1 gw.2<|Dv.o6 (j:=((0:Int).toNat)) (f:=0) (p:=vS (ta.getD ((0:Int).toNat) default)) Q (gg Q) Q (ab 0 Q) ham U9 Q Q<|go 3<|ce H ?_ ?_ <;> intro H
  ·
   refine wr 5 0<|go 1<|gr H fun gy H=>?_
   have han:(1:Int).toNat<ta.length:=bE gy
   refine Dv.kA Q T Q (ab 0 Q) Q dW U9 c9 gy.1 gy.2<|Dv.o6 (j:=((1:Int).toNat)) (f:=0) (p:=vS (ta.getD ((1:Int).toNat) default)) Q T Q (ab 0 Q) han U9 Q Q<|Dv.FW Q T Q AU<|gq 1 ?_
   cases H.out; exact ek 1
  refine wr 10 0<|go 1<|Dv.kG Q T Q (ab 0 Q) dW<|gp 2 ?_
  rcases bm H with ⟨cp,H⟩ | ⟨cp,H⟩
  ·
   refine sh 60 cp ?_
   refine sh 61 cp ?_
   refine go 6<|WP.cond Q nofun (fun _=>?_)
   refine WP.skip<|sp ?_
   cases H.out; exact ek 1
  refine sh 60 cp ?_
  refine sh 61 cp ?_
  refine go 1<|gr H fun gz H=>?_
  have hao:(0:Int).toNat<ta.length:=bE gz
  refine Dv.kA Q (gg Q) Q (ab 0 Q) Q dW U9 c9 gz.1 gz.2<|Dv.o6 (j:=((0:Int).toNat)) (f:=0) (p:=vS (ta.getD ((0:Int).toNat) default)) Q (gg Q) Q (ab 0 Q) hao U9 Q Q<|go 3<|cf H ?_ ?_ <;> intro H
  ·
   refine WP.skip<|sp ?_
   cases H.out; exact ek 1
  refine wr 5 0<|go 1<|gr H fun gaa H=>?_
  have hap:(1:Int).toNat<ta.length:=bE gaa
  refine Dv.kA Q T Q (ab 0 Q) Q dW U9 c9 gaa.1 gaa.2<|Dv.o6 (j:=((1:Int).toNat)) (f:=0) (p:=vS (ta.getD ((1:Int).toNat) default)) Q T Q (ab 0 Q) hap U9 Q Q<|Dv.FW Q T Q sJ<|gq 1 ?_
  cases H.out; exact ek 1
 refine sh 14 ck ?_
 refine sh 15 ck ?_
 refine sh 16 ck ?_
 refine go 1<|gr H fun gab H=>?_
 have haq:(4:Int).toNat<ta.length:=bE gab
 refine Dv.kA Q (gg Q) Q (ab 0 Q) Q dW U9 c9 gab.1 gab.2<|Dv.o6 (j:=((4:Int).toNat)) (f:=0) (p:=vS (ta.getD ((4:Int).toNat) default)) Q (gg Q) Q (ab 0 Q) haq U9 Q Q<|gp 2 ?_
 rcases bm H with ⟨cq,H⟩ | ⟨cq,H⟩
 rotate_left
 ·
  refine sh 20 cq ?_
  refine sh 21 cq ?_
  refine go 7<|WP.cond Q (fun _=>?_) nofun
  refine wd mX 16 0<|go 1<|gr H fun gac H=>?_
  have har:(1:Int).toNat<ta.length:=bE gac
  refine Dv.kA Q T Q (ab 0 Q) Q dW U9 c9 gac.1 gac.2<|Dv.o6 (j:=((1:Int).toNat)) (f:=0) (p:=vS (ta.getD ((1:Int).toNat) default)) Q T Q (ab 0 Q) har U9 Q Q<|go 1<|gr H fun gad H=>?_
  have has:(2:Int).toNat<ta.length:=bE gad
  refine Dv.kA Q T Q (ab 0 Q) Q dW U9 c9 gad.1 gad.2<|Dv.o6 (j:=((2:Int).toNat)) (f:=0) (p:=vS (ta.getD ((2:Int).toNat) default)) Q T Q (ab 0 Q) has U9 Q Q<|go 1<|gr H fun gae H=>?_
  have hau:(3:Int).toNat<ta.length:=bE gae
  refine Dv.kA Q T Q (ab 0 Q) Q dW U9 c9 gae.1 gae.2<|Dv.o6 (j:=((3:Int).toNat)) (f:=0) (p:=vS (ta.getD ((3:Int).toNat) default)) Q T Q (ab 0 Q) hau U9 Q Q<|go 1<|gr H fun gaf H=>?_
  have hav:(4:Int).toNat<ta.length:=bE gaf
  refine Dv.kA Q T Q (ab 0 Q) Q dW U9 c9 gaf.1 gaf.2<|Dv.o6 (j:=((4:Int).toNat)) (f:=0) (p:=vS (ta.getD ((4:Int).toNat) default)) Q T Q (ab 0 Q) hav U9 Q Q<|go 1<|Dv.lp (qs:=[vS (ta.getD ((1:Int).toNat) default),vS (ta.getD ((2:Int).toNat) default),vS (ta.getD ((3:Int).toNat) default),vB (decide ((ta.getD ((4:Int).toNat) default)=(⟨#[49]⟩:BA)))]) (css:=[[vS (ta.getD ((1:Int).toNat) default)],[vS (ta.getD ((2:Int).toNat) default)],[vS (ta.getD ((3:Int).toNat) default)],[vB (decide ((ta.getD ((4:Int).toNat) default)=(⟨#[49]⟩:BA)))]]) Q T EK Ia z89 Q ⟨(cells_one (ah Q)),⟨(cells_one (ah Q)),⟨(cells_one (ah Q)),⟨(cells_one (ah Q)),T⟩⟩⟩⟩ Q Q<|Dv.FW Q T Q Jx<|gq 1 ?_
  cases H.out; exact ek 1
 refine sh 20 cq ?_
 refine sh 21 cq ?_
 refine go 1<|gr H fun gag H=>?_
 have haw:(4:Int).toNat<ta.length:=bE gag
 refine Dv.kA Q (gg Q) Q (ab 0 Q) Q dW U9 c9 gag.1 gag.2<|Dv.o6 (j:=((4:Int).toNat)) (f:=0) (p:=vS (ta.getD ((4:Int).toNat) default)) Q (gg Q) Q (ab 0 Q) haw U9 Q Q<|go 4<|ce H ?_ ?_ <;> intro H
 ·
  refine wd mX 16 0<|go 1<|gr H fun gah H=>?_
  have hax:(1:Int).toNat<ta.length:=bE gah
  refine Dv.kA Q T Q (ab 0 Q) Q dW U9 c9 gah.1 gah.2<|Dv.o6 (j:=((1:Int).toNat)) (f:=0) (p:=vS (ta.getD ((1:Int).toNat) default)) Q T Q (ab 0 Q) hax U9 Q Q<|go 1<|gr H fun gai H=>?_
  have hay:(2:Int).toNat<ta.length:=bE gai
  refine Dv.kA Q T Q (ab 0 Q) Q dW U9 c9 gai.1 gai.2<|Dv.o6 (j:=((2:Int).toNat)) (f:=0) (p:=vS (ta.getD ((2:Int).toNat) default)) Q T Q (ab 0 Q) hay U9 Q Q<|go 1<|gr H fun gaj H=>?_
  have haz:(3:Int).toNat<ta.length:=bE gaj
  refine Dv.kA Q T Q (ab 0 Q) Q dW U9 c9 gaj.1 gaj.2<|Dv.o6 (j:=((3:Int).toNat)) (f:=0) (p:=vS (ta.getD ((3:Int).toNat) default)) Q T Q (ab 0 Q) haz U9 Q Q<|go 1<|gr H fun gak H=>?_
  have hbe:(4:Int).toNat<ta.length:=bE gak
  refine Dv.kA Q T Q (ab 0 Q) Q dW U9 c9 gak.1 gak.2<|Dv.o6 (j:=((4:Int).toNat)) (f:=0) (p:=vS (ta.getD ((4:Int).toNat) default)) Q T Q (ab 0 Q) hbe U9 Q Q<|go 1<|Dv.lp (qs:=[vS (ta.getD ((1:Int).toNat) default),vS (ta.getD ((2:Int).toNat) default),vS (ta.getD ((3:Int).toNat) default),vB (decide ((ta.getD ((4:Int).toNat) default)=(⟨#[49]⟩:BA)))]) (css:=[[vS (ta.getD ((1:Int).toNat) default)],[vS (ta.getD ((2:Int).toNat) default)],[vS (ta.getD ((3:Int).toNat) default)],[vB (decide ((ta.getD ((4:Int).toNat) default)=(⟨#[49]⟩:BA)))]]) Q T EK Ia z89 Q ⟨(cells_one (ah Q)),⟨(cells_one (ah Q)),⟨(cells_one (ah Q)),⟨(cells_one (ah Q)),T⟩⟩⟩⟩ Q Q<|Dv.FW Q T Q Jx<|gq 1 ?_
  cases H.out; exact ek 1
 refine wr 10 0<|go 1<|Dv.kG Q T Q (ab 0 Q) dW<|gp 2 ?_
 rcases bm H with ⟨cr,H⟩ | ⟨cr,H⟩
 ·
  refine sh 46 cr ?_
  refine sh 47 cr ?_
  refine go 6<|WP.cond Q nofun (fun _=>?_)
  refine wr 10 0<|go 1<|Dv.kG Q T Q (ab 0 Q) dW<|gp 2 ?_
  rcases bm H with ⟨cu,H⟩ | ⟨cu,H⟩
  ·
   refine sh 60 cu ?_
   refine sh 61 cu ?_
   refine go 6<|WP.cond Q nofun (fun _=>?_)
   refine WP.skip<|sp ?_
   cases H.out; exact ek 1
  refine sh 60 cu ?_
  refine sh 61 cu ?_
  refine go 1<|gr H fun gal H=>?_
  have hbf:(0:Int).toNat<ta.length:=bE gal
  refine Dv.kA Q (gg Q) Q (ab 0 Q) Q dW U9 c9 gal.1 gal.2<|Dv.o6 (j:=((0:Int).toNat)) (f:=0) (p:=vS (ta.getD ((0:Int).toNat) default)) Q (gg Q) Q (ab 0 Q) hbf U9 Q Q<|go 3<|cf H ?_ ?_ <;> intro H
  ·
   refine WP.skip<|sp ?_
   cases H.out; exact ek 1
  refine wr 5 0<|go 1<|gr H fun gam H=>?_
  have hbg:(1:Int).toNat<ta.length:=bE gam
  refine Dv.kA Q T Q (ab 0 Q) Q dW U9 c9 gam.1 gam.2<|Dv.o6 (j:=((1:Int).toNat)) (f:=0) (p:=vS (ta.getD ((1:Int).toNat) default)) Q T Q (ab 0 Q) hbg U9 Q Q<|Dv.FW Q T Q sJ<|gq 1 ?_
  cases H.out; exact ek 1
 refine sh 46 cr ?_
 refine sh 47 cr ?_
 refine go 1<|gr H fun gan H=>?_
 have hbh:(0:Int).toNat<ta.length:=bE gan
 refine Dv.kA Q (gg Q) Q (ab 0 Q) Q dW U9 c9 gan.1 gan.2<|Dv.o6 (j:=((0:Int).toNat)) (f:=0) (p:=vS (ta.getD ((0:Int).toNat) default)) Q (gg Q) Q (ab 0 Q) hbh U9 Q Q<|go 3<|ce H ?_ ?_ <;> intro H
 ·
  refine wr 5 0<|go 1<|gr H fun gao H=>?_
  have hbi:(1:Int).toNat<ta.length:=bE gao
  refine Dv.kA Q T Q (ab 0 Q) Q dW U9 c9 gao.1 gao.2<|Dv.o6 (j:=((1:Int).toNat)) (f:=0) (p:=vS (ta.getD ((1:Int).toNat) default)) Q T Q (ab 0 Q) hbi U9 Q Q<|Dv.FW Q T Q AU<|gq 1 ?_
  cases H.out; exact ek 1
 refine wr 10 0<|go 1<|Dv.kG Q T Q (ab 0 Q) dW<|gp 2 ?_
 rcases bm H with ⟨cw,H⟩ | ⟨cw,H⟩
 ·
  refine sh 60 cw ?_
  refine sh 61 cw ?_
  refine go 6<|WP.cond Q nofun (fun _=>?_)
  refine WP.skip<|sp ?_
  cases H.out; exact ek 1
 refine sh 60 cw ?_
 refine sh 61 cw ?_
 refine go 1<|gr H fun gap H=>?_
 have hbj:(0:Int).toNat<ta.length:=bE gap
 refine Dv.kA Q (gg Q) Q (ab 0 Q) Q dW U9 c9 gap.1 gap.2<|Dv.o6 (j:=((0:Int).toNat)) (f:=0) (p:=vS (ta.getD ((0:Int).toNat) default)) Q (gg Q) Q (ab 0 Q) hbj U9 Q Q<|go 3<|cf H ?_ ?_ <;> intro H
 ·
  refine WP.skip<|sp ?_
  cases H.out; exact ek 1
 refine wr 5 0<|go 1<|gr H fun gaq H=>?_
 have hbl:(1:Int).toNat<ta.length:=bE gaq
 refine Dv.kA Q T Q (ab 0 Q) Q dW U9 c9 gaq.1 gaq.2<|Dv.o6 (j:=((1:Int).toNat)) (f:=0) (p:=vS (ta.getD ((1:Int).toNat) default)) Q T Q (ab 0 Q) hbl U9 Q Q<|Dv.FW Q T Q sJ<|gq 1 ?_
 cases H.out; exact ek 1
theorem fU.c {p0_:OV} (h:fU.f a0 a1=some r):Tr prog 120 [eq p0_.1,agg (bx.enc a1)] [jO.O p0_ a0] (γ:=Unit) (fun _=>True) (fun g=>kN [agg (Pos.enc r.1),vB r.2]) (fun g=>[jO.O p0_ a0]):=by
 refine tf func120 h fun R0 F H=>?_
 refine wr 3 3<|Dv.box Q T Q cA nofun fun ba=>al Q T tA nofun fun bc=>go 1<|WP.seq<|wg (jO.iK 2 Q) fun ga haa=>?_
 refine dg mX 12 1536<|go 1<|Dv.bW haa Q T Q<|fp haa Q T Q tW<|gl 2 [0,3]<|Dv.mlkq (⟨0,eE⟩:Pos) Q T Q (ab 1 Q) Q (bx.kq a1) FK BW IL (fun _=>⟨_,Q,Cs.eqz Q⟩)<|go 1<|ei Q T Q Q<|ei Q T Q Q<|al Q T tA pD fun bd=>sx 0 Q T Q Q cA Fu Q Q Q pD ?_
 refine go 1<|wr 4 4<|gl 2 [0]<|sy 3 ?_
 refine go 1<|wg (jO.shut (p:=p0_) (m:=a0) (ga.1,ga.2) haa (pm 5 [1,2,0,3,4])) fun _ _=>?_
 cases H.out; exact rt i2 Q () 4 [1,2,3,0] 3 (.cons (au Q tI Q yh (ab 2 Q) Q) (.cons (aE Q) .nil))
theorem gR.c {p0_0 p0_1 p0_2 p0_3 p0_4:OV} (h:gR.f k a0 a1 a2=some r):Tr prog 56 [agg [eq p0_0.1,eq p0_1.1,eq p0_2.1,eq p0_3.1,eq p0_4.1],agg (bx.enc a1),vS a2] [aL.O p0_0 a0.cO,jF.O p0_1 a0.ay,bZ.O p0_2 a0.av,cI.O p0_3 a0.aU,cH.O p0_4 a0.gH] (γ:=Unit) (fun _=>True) (fun g=>kN [agg (eQ.enc r.1),vB r.2]) (fun g=>[aL.O p0_0 a0.cO,jF.O p0_1 a0.ay,bZ.O p0_2 a0.av,cI.O p0_3 a0.aU,cH.O p0_4 a0.gH]):=by
 refine tf func56 h fun R0 F H=>?_
 refine wr 4 7<|Dv.box Q T Q cA nofun fun ba=>Dv.box Q T Q cA nofun fun bc=>al Q T zc91 nofun fun bd=>go 1<|WP.seq<|wg (jF.iK 4 Q) fun ga haa=>?_
 refine WP.dgf (kf:=10) mX [(0,false),(1,false),(2,false),(3,false),(4,false),(5,false),(6,true),(7,false),(8,false),(9,false)] [(11,true),(12,false)] Q kr<|gl 2 [5]<|Dv.bW haa Q T Q<|fp haa Q T Q Cg<|gl 2 [0,4]<|Dv.float ?_ (fun hk_=>?_)
 ·
  refine IV Q T tA pU (fun be=>?_)
  refine el H fun ta hac H=>cx 11 [2,0,1,3,4,5,6,7,8,9,10] (cL 120) (fU.c hac (p0_:=ga.2.1)) pC fun _ _=>?_
  refine go 1<|ei Q T Q Q<|ei Q T Q Q<|sx 1 Q T Q Q cA Fu Q Q Q pD ?_
  refine go 1<|WP.seq<|wg (aL.iK 7 Q) fun gb had=>?_
  refine dg mX 25 8388608<|gl 2 [7,3]<|Dv.lp (qs:=[vS a1.aa,vS a1.ai,vS a1.ae,vB a1.ao,vI ta.1.bq,vS ta.1.cJ]) (css:=[bx.enc a1,Pos.enc ta.1]) Q T xD pl91 z91 Q ⟨(aZ (bx.K.one _)),⟨(aZ (Pos.K.one _)),T⟩⟩ Q Q<|gp 2 ?_
  cases cc:ta.2
  ·
   have H:=H.cf cc
   refine go 18<|sx 6 Q T Q Q cA zy Q Q Q pD ?_
   refine go 1<|wg (jF.shut (p:=p0_1) (m:=a0.ay) (ga.1,ga.2.1,ga.2.2) haa (pm 12 [4,2,5,0,1,3,6,7,8,9,10,11])) fun _ _=>?_
   refine wg (aL.shut (p:=p0_0) (m:=a0.cO) (gb.1,gb.2) had (pm 10 [1,2,0,3,4,5,6,7,8,9])) fun _ _=>?_
   cases H.out; exact rt i2 Q () 9 [2,3,4,5,0,1,6,7,8] 4 (.cons (au Q xD Q AQ (ab 3 Q) Q) (.cons (aE Q) .nil))
  have H:=H.ct cc
  refine gl 5 [8,7]<|el H fun tc hae H=>px 12 [0,1,2,3,4,5,6,7,8,9,10,11] (cL 57) (Tr.jK (bN.c hae (b0_:=gb.1) (v0_0:=gb.2)) (.cons (iD had) (.cons cM (.cons cM .nil)))) ?_
  refine gp 2 ?_
  cases cg:tc
  ·
   have H:=H.cf cg
   refine go 10<|sx 6 Q T Q Q cA zy Q Q Q pD ?_
   refine go 1<|wg (jF.shut (p:=p0_1) (m:=a0.ay) (ga.1,ga.2.1,ga.2.2) haa (pm 12 [4,2,5,0,1,3,6,7,8,9,10,11])) fun _ _=>?_
   refine wg (aL.shut (p:=p0_0) (m:=a0.cO) (gb.1,gb.2) had (pm 10 [1,2,0,3,4,5,6,7,8,9])) fun _ _=>?_
   cases H.out; exact rt i2 Q () 9 [2,3,4,5,0,1,6,7,8] 4 (.cons (au Q xD Q AQ (ab 3 Q) Q) (.cons (aE Q) .nil))
  have H:=H.ct cg
  refine kK 4 [7] ?_
  cases ci:!a1.ao
  rotate_left
  ·
   have H:=H.ct ci
   refine go 6<|sx 6 Q T Q Q cA zy Q Q Q pD ?_
   refine go 1<|wg (jF.shut (p:=p0_1) (m:=a0.ay) (ga.1,ga.2.1,ga.2.2) haa (pm 12 [4,2,5,0,1,3,6,7,8,9,10,11])) fun _ _=>?_
   refine wg (aL.shut (p:=p0_0) (m:=a0.cO) (gb.1,gb.2) had (pm 10 [1,2,0,3,4,5,6,7,8,9])) fun _ _=>?_
   cases H.out; exact rt i2 Q () 9 [2,3,4,5,0,1,6,7,8] 4 (.cons (au Q xD Q AQ (ab 3 Q) Q) (.cons (aE Q) .nil))
  have H:=H.cf ci
  refine gl 6 [7]<|sx 6 Q T Q Q cA zy Q Q Q pD ?_
  refine go 1<|wg (jF.shut (p:=p0_1) (m:=a0.ay) (ga.1,ga.2.1,ga.2.2) haa (pm 12 [4,2,5,0,1,3,6,7,8,9,10,11])) fun _ _=>?_
  refine wg (aL.shut (p:=p0_0) (m:=a0.cO) (gb.1,gb.2) had (pm 10 [1,2,0,3,4,5,6,7,8,9])) fun _ _=>?_
  cases H.out; exact rt i2 Q () 9 [2,3,4,5,0,1,6,7,8] 4 (.cons (au Q xD Q AQ (ab 3 Q) Q) (.cons (aE Q) .nil))
 refine el H fun te haf H=>cx 10 [1,0,2,3,4,5,6,7,8,9] (cL 120) (fU.c haf (p0_:=ga.2.1)) pC fun _ _=>?_
 refine go 1<|ei Q T Q Q<|ei Q T Q Q<|.fin<|IV Q T tA pU (fun bg=>?_)
 refine sx 0 Q T Q Q cA Fu Q Q Q pD ?_
 refine go 1<|WP.seq<|wg (aL.iK 7 Q) fun gb had=>?_
 refine dg mX 25 8388608<|gl 2 [7,2]<|Dv.lp (qs:=[vS a1.aa,vS a1.ai,vS a1.ae,vB a1.ao,vI te.1.bq,vS te.1.cJ]) (css:=[bx.enc a1,Pos.enc te.1]) Q T xD pl91 z91 Q ⟨(aZ (bx.K.one _)),⟨(aZ (Pos.K.one _)),T⟩⟩ Q Q<|gp 2 ?_
 cases cc:te.2
 ·
  have H:=H.cf cc
  refine go 18<|sx 6 Q T Q Q cA zy Q Q Q pD ?_
  refine go 1<|wg (jF.shut (p:=p0_1) (m:=a0.ay) (ga.1,ga.2.1,ga.2.2) haa (pm 12 [4,3,5,0,1,2,6,7,8,9,10,11])) fun _ _=>?_
  refine wg (aL.shut (p:=p0_0) (m:=a0.cO) (gb.1,gb.2) had (pm 10 [1,2,0,3,4,5,6,7,8,9])) fun _ _=>?_
  cases H.out; exact rt i2 Q () 9 [2,3,4,5,0,1,6,7,8] 4 (.cons (au Q xD Q AQ (ab 3 Q) Q) (.cons (aE Q) .nil))
 have H:=H.ct cc
 refine gl 5 [8,7]<|el H fun tc hae H=>px 12 [0,1,2,3,4,5,6,7,8,9,10,11] (cL 57) (Tr.jK (bN.c hae (b0_:=gb.1) (v0_0:=gb.2)) (.cons (iD had) (.cons cM (.cons cM .nil)))) ?_
 refine gp 2 ?_
 cases cg:tc
 ·
  have H:=H.cf cg
  refine go 10<|sx 6 Q T Q Q cA zy Q Q Q pD ?_
  refine go 1<|wg (jF.shut (p:=p0_1) (m:=a0.ay) (ga.1,ga.2.1,ga.2.2) haa (pm 12 [4,3,5,0,1,2,6,7,8,9,10,11])) fun _ _=>?_
  refine wg (aL.shut (p:=p0_0) (m:=a0.cO) (gb.1,gb.2) had (pm 10 [1,2,0,3,4,5,6,7,8,9])) fun _ _=>?_
  cases H.out; exact rt i2 Q () 9 [2,3,4,5,0,1,6,7,8] 4 (.cons (au Q xD Q AQ (ab 3 Q) Q) (.cons (aE Q) .nil))
 have H:=H.ct cg
 refine kK 4 [7] ?_
 cases ci:!a1.ao
 rotate_left
 ·
  have H:=H.ct ci
  refine go 6<|sx 6 Q T Q Q cA zy Q Q Q pD ?_
  refine go 1<|wg (jF.shut (p:=p0_1) (m:=a0.ay) (ga.1,ga.2.1,ga.2.2) haa (pm 12 [4,3,5,0,1,2,6,7,8,9,10,11])) fun _ _=>?_
  refine wg (aL.shut (p:=p0_0) (m:=a0.cO) (gb.1,gb.2) had (pm 10 [1,2,0,3,4,5,6,7,8,9])) fun _ _=>?_
  cases H.out; exact rt i2 Q () 9 [2,3,4,5,0,1,6,7,8] 4 (.cons (au Q xD Q AQ (ab 3 Q) Q) (.cons (aE Q) .nil))
 have H:=H.cf ci
 refine gl 6 [7]<|sx 6 Q T Q Q cA zy Q Q Q pD ?_
 refine go 1<|wg (jF.shut (p:=p0_1) (m:=a0.ay) (ga.1,ga.2.1,ga.2.2) haa (pm 12 [4,3,5,0,1,2,6,7,8,9,10,11])) fun _ _=>?_
 refine wg (aL.shut (p:=p0_0) (m:=a0.cO) (gb.1,gb.2) had (pm 10 [1,2,0,3,4,5,6,7,8,9])) fun _ _=>?_
 cases H.out; exact rt i2 Q () 9 [2,3,4,5,0,1,6,7,8] 4 (.cons (au Q xD Q AQ (ab 3 Q) Q) (.cons (aE Q) .nil))
theorem slices_Sort_string.c {p0_:OV} (h:slices_Sort_string.f a0=some r):Tr prog 242 [eq p0_.1] [own aH p0_.1 a0] (γ:=Unit) (fun _=>True) (fun g=>kN []) (fun g=>[own aH p0_.1 r]):=by
 unfold slices_Sort_string.f at h
 obtain ⟨h0,h5⟩:=(aV.of h).an
 obtain rfl:=aV.out h5
 exact IK (fun aI off cap ss w=>Go.Proofs.Any.slices_Sort_string Tryz.lays190 aI off cap ss w) (fun q cap w=>Go.Proofs.Any.slices_Sort_string_none Tryz.lays190 q cap w) h0
theorem gB.c {b0_:Nat} {v0_0:OV} (h:gB.f a0=some r):Tr prog 181 [eP b0_] [aI b0_ 186 [eq v0_0.1],km Value.string bf.O v0_0.1 a0.br] (γ:=OV) (fun _=>True) (fun g=>eq g.1) (fun g=>[aI b0_ 186 [eq v0_0.1],km Value.string bf.O v0_0.1 a0.br,own aH g.1 r]):=by
  unfold gB.f at h
  obtain ⟨h0,h5⟩:=(aV.of h).an
  obtain rfl:=aV.out h5
  clear h h5
  refine Tr.body func181 (c:=_) Q ntmps181 (Nat.le_of_ble_eq_true Q) fun R0 F=>?_
  refine so<|sp ?_
  refine WP.Gg (β:=List Nat×OV) (fun b=>b.1.Perm (List.range a0.br.length)) (fun b=>[(3,eq b.2.1)]) (fun b=>[own aH b.2.1 (kF a0.br (fun e=>some e.1) b.1),aI b0_ 186 [eq v0_0.1],km Value.string bf.O v0_0.1 a0.br]++F) (fun b hb=>?_) ?_
  rotate_left
  · refine wr 5 16<|kK 4 [0] ?_
    refine Dv.gh (l':=fun ps:List OV=>[mp Value.string (fun p:OV=>eq p.1) v0_0.1 (cZ a0.br ps),qP bf.O a0.br ps,aI b0_ 186 [eq v0_0.1]]++F) (iO (mh 1 Q)) (fun ps hps=>?_)
    refine Dv.rgb (jj:=0) Q T Q Q C7 nofun (fun q=>.fin ?_)
    refine WP.gh (l':=fun _:Unit=>[tF Value.string (fun p:OV=>eq p.1) v0_0.1 q.1 (cZ a0.br ps) [],qP bf.O a0.br ps,aI b0_ 186 [eq v0_0.1]]++F) (iO (ok:=fun _=>True) fun R w k=>⟨(),T,k⟩) (fun _ _=>?_)
    refine WP.gh (l':=fun _:Unit=>[own aH lA.1 [],tF Value.string (fun p:OV=>eq p.1) v0_0.1 q.1 (cZ a0.br ps) [],qP bf.O a0.br ps,aI b0_ 186 [eq v0_0.1]]++F) (iO (eD aH none)) (fun _ _=>?_)
    refine WP.block ?_
    refine WP.jK (E':=(fun b:List Nat×OV=>[(3,eq b.2.1),(9,eq q.1)]) ([],lA)) (cW Q (cW Q jy)) (WP.loop (β:=List Nat×OV) (fun k b=>b.1.length+k=a0.br.length) (fun b=>[(3,eq b.2.1),(9,eq q.1)]) (fun b=>[own aH b.2.1 (kF a0.br (fun e=>some e.1) b.1),tF Value.string (fun p:OV=>eq p.1) v0_0.1 q.1 (cZ a0.br ps) b.1,qP bf.O a0.br ps,aI b0_ 186 [eq v0_0.1]]++F) ?_ (k:=a0.br.length) (b:=([],lA)) (Nat.zero_add _))
    rintro k ⟨is,v⟩ hk
    replace hk:is.length+k=a0.br.length:=hk
    refine wr 2 1<|Dv.rgn (jj:=1) Q T Q Q nofun (fun z hz=>?_)
    rcases z with _ | j
    · have hz:is.Perm (List.range (cZ a0.br ps).length):=hz
      rw [pV hps.1] at hz
      refine ei Q T Q Q<|.fin<|WP.seq<|WP.cond Q nofun (fun _=>WP.exit ?_)
      refine Dn.gh (l':=fun _:Unit=>[own aH v.1 (kF a0.br (fun e=>some e.1) is),tF Value.string (fun p:OV=>eq p.1) v0_0.1 q.1 (cZ a0.br ps) is,qP bf.O a0.br ps,aI b0_ 186 [eq v0_0.1]]++F) (iO (ok:=fun _=>True) fun R w k=>⟨(),T,k⟩) (fun _ _=>?_)
      refine Dn.gh (l':=fun _:Unit=>[mp Value.string (fun p:OV=>eq p.1) v0_0.1 (cZ a0.br ps),own aH v.1 (kF a0.br (fun e=>some e.1) is),qP bf.O a0.br ps,aI b0_ 186 [eq v0_0.1]]++F) (iO (F2 (pm 4 [1,0,2,3]))) (fun _ _=>?_)
      refine Dn.gh (l':=fun _:Unit=>[km Value.string bf.O v0_0.1 a0.br,own aH v.1 (kF a0.br (fun e=>some e.1) is),aI b0_ 186 [eq v0_0.1]]++F) (iO (iu hps Q (pm 4 [0,2,1,3]))) (fun _ _=>?_)
      exact Jn.mk (is,v) hz (cW Q jy) (oo 3 [1,2,0] kr Q Q)
    have hz:j<(cZ a0.br ps).length∧j ∉ is∧is.length<(cZ a0.br ps).length:=hz
    obtain ⟨e,p,he,hp,hep⟩:=zd hps hz.1
    have hlt:is.length<a0.br.length:=by rw [← pV hps.1]; exact hz.2.2
    have hsl:=Nat.le_trans (zN (m:=a0.br) (f:=(fun e=>some e.1)) (is:=is)) (Nat.le_of_lt hlt)
    have e1:nxV Value.string (fun p:OV=>eq p.1) (cZ a0.br ps) (some j)=kN [vB true,vS e.1,eq p.1]:=by simp only [nxV,hep]
    rw [e1]
    refine ei Q T Q Q<|.fin<|WP.seq<|WP.cond Q (fun _=>WP.skip ?_) nofun
    refine WP.gh (l':=fun _:Unit=>[own aH v.1 (kF a0.br (fun e=>some e.1) is),tF Value.string (fun p:OV=>eq p.1) v0_0.1 q.1 (cZ a0.br ps) (is++[j]),qP bf.O a0.br ps,aI b0_ 186 [eq v0_0.1]]++F) (iO (ok:=fun _=>True) fun R w k=>⟨(),T,k⟩) (fun _ _=>?_)
    refine WP.block<|wr 3 0<|Dv.rge 1 Q T Q Q hep ?_
    refine ei Q T Q Q<|gq 1 ?_
    have e6:=xR (f:=(fun e=>some e.1)) (is:=is) he rfl
    have hbd:(kF a0.br (fun e=>some e.1) is).length+([e.1]:List BA).length≤9223372036854775807∧((kF a0.br (fun e=>some e.1) is).length+([e.1]:List BA).length)*16≤140737488355328:=by rw [List.length_singleton]; omega
    refine rg 5 8<|go 2<|Dv.lit aH ([e.1]:List BA) (css:=[[vS e.1]]) Q T dW U9 c9 z9 Q dc dc Q ⟨(cells_one (ah Q)),T⟩ Q Q Q<|ap aH 0 ([e.1]:List BA) bS dW (.inr ⟨_,dW⟩) zF hbd nofun fun v9=>go 1 ?_
    rw [e6]
    exact wJ.mk (k-1) (is++[j],v9) om (by show (is++[j]).length+(k-1)=_; rw [List.length_append,List.length_singleton]; omega) (cW Q (cW Q jy)) (List.Perm.refl _)
  obtain ⟨is,v3⟩:=b
  replace hb:is.Perm (List.range a0.br.length):=hb
  have hp:=xw (f:=(fun e=>some e.1)) hb
  have hs:slices_Sort_string.f (kF a0.br (fun e=>some e.1) is)=some (oW (a0.br.map (·.1))):=by
    have e7:a0.br.filterMap (fun e=>some e.1)=a0.br.map (·.1):=by rw [← List.filterMap_eq_map]; rfl
    rw [e7] at hp
    unfold slices_Sort_string.f Sp.an
    rw [if_pos (by rw [hp.length_eq,List.length_map]; omega),GI hp]
  refine wr 2 2<|go 1<|cx 3 [0,1,2] (cL 242) (slices_Sort_string.c hs (p0_:=v3)) nofun fun _ _=>.fin ?_
  refine so<|rt i2 Q v3 3 [1,2,0] 0 (.cons (aE Q) .nil)
theorem dJ.c {cb0_ cd0_:Nat} {cq0_ cv0_0:OV} {ch0_:cq0_.1 = .pointer (some ⟨cd0_,0,none⟩)} {c0:aL} {c1:BA} (h:dJ.f k a0 c0 c1=some r):Tr prog 182 [vS a0,eP cb0_,rp [vS c1]] [aI cb0_ 24 [eq cq0_.1],aI cd0_ 186 [eq cv0_0.1],km Value.string bf.O cv0_0.1 c0.br] (γ:=Unit) (fun _=>True) (fun g=>vB r) (fun g=>[aI cb0_ 24 [eq cq0_.1],aI cd0_ 186 [eq cv0_0.1],km Value.string bf.O cv0_0.1 c0.br]):=by
 refine tf func182 h fun R0 F H=>?_
 refine so<|wr 6 0<|gl 2 [0]<|mj Q T Q qt Q<|el H fun ta haa H=>px 3 [1,2,0] (cL 57) (Tr.jK (bN.c haa (b0_:=cd0_) (v0_0:=cv0_0)) (.cons (iD ch0_) (.cons cM (.cons cM .nil)))) ?_
 refine gq 2 ?_
 cases H.out; exact et () 3 [0,1,2] 0
theorem fO.c {p0_:OV} (h:fO.f k a0 a1=some r):Tr prog 123 [eq p0_.1,vS a1] [aL.O p0_ a0] (γ:=OV) (fun _=>True) (fun g=>eq g.1) (fun g=>[aL.O p0_ a0,own aH g.1 r]):=by
 refine tf func123 h fun R0 F H=>?_
 refine wr 3 3<|Dv.box Q T Q (cells_one bK) nofun fun ba=>Dv.box Q T Q cE nofun fun bc=>go 1<|wr 5 10<|gl 1 [1]<|vg (aL.iK 2 Q) fun ga haa=>?_
 refine el H fun ta hac H=>cx 4 [0,1,2,3] (cL 181) (Tr.jK (gB.c hac (b0_:=ga.1) (v0_0:=ga.2)) (.cons (iD haa) .nil)) nofun fun gb _=>?_
 refine Dv.gh (rW (E':=[(0,eq p0_.1),(1,vS a1),(2,eP ba),(3,rp [vS a1]),(4,eN),(6,eq gb.1)]) (l':=[aI ga.1 186 [eq ga.2.1],km Value.string bf.O ga.2.1 a0.br,own aH gb.1 ta,aI ba 24 [eq p0_.1]]++F) 3 Q (ar Q az (ar Q az (ar Q az (ar Q j4 (ar Q az (ar Q az jl)))))) (gC (.cons bU (.cons bU (.cons bU (.cons bU .nil)))) fun _=>bU)) (fun _ _=>?_)
 refine Dv.mkx (Q:=jB (fun a0_=>dJ.f k a0_ a0 a1)) (L:=[aI ba 24 [eq p0_.1],aI ga.1 186 [eq ga.2.1],km Value.string bf.O ga.2.1 a0.br]) (cL 182) (by rintro _ _ ⟨a0_,r_,h_,rfl,rfl⟩; exact dJ.c h_ (cb0_:=ba) (cq0_:=p0_) (cd0_:=ga.1) (ch0_:=haa) (cv0_0:=ga.2)) Q T Q Q<|el H fun tc had H=>cx 4 [2,3,0,1] (cL 71) (Tr.Jq (A:=[own aH gb.1 ta]) (L:=[aI ba 24 [eq p0_.1],aI ga.1 186 [eq ga.2.1],km Value.string bf.O ga.2.1 a0.br]) (B:=fun gc:OV=>[own aH gc.1 tc]) (slices_DeleteFunc_string_xo.c had (p0_:=gb) (X1_:=(pk [aI ba 24 [eq p0_.1],aI ga.1 186 [eq ga.2.1],km Value.string bf.O ga.2.1 a0.br])))) nofun fun gc _=>?_
 refine go 1<|wg (aL.shut (p:=p0_) (m:=a0) (ga.1,ga.2) haa (pm 4 [1,2,0,3])) fun _ _=>?_
 cases H.out; exact et gc 3 [1,0,2] 1
theorem dH.c {cb0_ cd0_:Nat} {cq0_ cv0_0:OV} {ch0_:cq0_.1 = .pointer (some ⟨cd0_,0,none⟩)} {c0:aL} {c1:BA} (h:dH.f k a0 c0 c1=some r):Tr prog 124 [vS a0,eP cb0_,rp [vS c1]] [aI cb0_ 24 [eq cq0_.1],aI cd0_ 186 [eq cv0_0.1],km Value.string bf.O cv0_0.1 c0.br] (γ:=Unit) (fun _=>True) (fun g=>vB r) (fun g=>[aI cb0_ 24 [eq cq0_.1],aI cd0_ 186 [eq cv0_0.1],km Value.string bf.O cv0_0.1 c0.br]):=by
 refine tf func124 h fun R0 F H=>?_
 refine so<|wr 5 0<|gl 2 [0]<|mj Q T Q qt Q<|el H fun ta haa H=>px 3 [1,2,0] (cL 57) (Tr.jK (bN.c haa (b0_:=cd0_) (v0_0:=cv0_0)) (.cons (iD ch0_) (.cons cM (.cons cM .nil)))) ?_
 refine gq 1 ?_
 cases H.out; exact et () 3 [0,1,2] 0
theorem eX.c {p0_:OV} (h:eX.f k a0 a1 a2=some r):Tr prog 58 [eq p0_.1,vS a1,vS a2] [aL.O p0_ a0] (γ:=Unit) (fun _=>True) (fun g=>vB r) (fun g=>[aL.O p0_ a0]):=by
 refine tf func58 h fun R0 F H=>?_
 refine wr 3 3<|Dv.box Q T Q (cells_one bK) nofun fun ba=>Dv.box Q T Q cE nofun fun bc=>go 1<|wr 6 4<|gl 2 [1]<|el H fun ta haa H=>cx 3 [2,0,1] (cL 123) (fO.c haa (p0_:=p0_)) nofun fun ga _=>?_
 refine vg (aL.iK 0 Q) fun gb hac=>?_
 refine Dv.gh (rW (E':=[(0,eq p0_.1),(1,vS a1),(2,vS a2),(3,eP ba),(5,rp [vS a2]),(6,vB false),(9,eq ga.1)]) (l':=[aI gb.1 186 [eq gb.2.1],km Value.string bf.O gb.2.1 a0.br,own aH ga.1 ta,aI ba 24 [eq p0_.1]]++F) 3 Q (ar Q az (ar Q az (ar Q az (ar Q az (ar Q j4 (ar Q az (ar Q az jl))))))) (gC (.cons bU (.cons bU (.cons bU (.cons bU .nil)))) fun _=>bU)) (fun _ _=>?_)
 refine Dv.mkx (Q:=jB (fun a0_=>dH.f k a0_ a0 a2)) (L:=[aI ba 24 [eq p0_.1],aI gb.1 186 [eq gb.2.1],km Value.string bf.O gb.2.1 a0.br]) (cL 124) (by rintro _ _ ⟨a0_,r_,h_,rfl,rfl⟩; exact dH.c h_ (cb0_:=ba) (cq0_:=p0_) (cd0_:=gb.1) (ch0_:=hac) (cv0_0:=gb.2)) Q T Q Q<|el H fun tc had H=>px 4 [2,3,0,1] (cL 122) (Tr.Js (A:=[own aH ga.1 ta]) (L:=[aI ba 24 [eq p0_.1],aI gb.1 186 [eq gb.2.1],km Value.string bf.O gb.2.1 a0.br]) (cQ.c had (p0_:=ga) (X1_:=(pk [aI ba 24 [eq p0_.1],aI gb.1 186 [eq gb.2.1],km Value.string bf.O gb.2.1 a0.br])))) ?_
 refine go 1<|wg (aL.shut (p:=p0_) (m:=a0) (gb.1,gb.2) hac (pm 4 [0,1,2,3])) fun _ _=>?_
 cases H.out; exact et () 3 [1,2,0] 2
theorem b7.c {v0_0 v0_1:OV} {b0_:Nat} (h:b7.f k a0 a1 a2=some r):Tr prog 59 [eP b0_,vS a1,vI a2] [aI b0_ 192 [eq v0_0.1,eq v0_1.1],own ak.K v0_0.1 a0.fl] (γ:=Unit) (fun _=>True) (fun g=>vI r) (fun g=>[aI b0_ 192 [eq v0_0.1,eq v0_1.1],own ak.K v0_0.1 a0.fl]):=by
 refine tf func59 h fun R0 F H=>?_
 refine so<|wr 8 0<|go 2<|el H fun ta haa H=>px 2 [0,1] (cL 112) (dy.c haa (b0_:=b0_) (v0_0:=v0_0) (v0_1:=v0_1)) ?_
 refine go 1<|ei Q T Q Q<|ei Q T Q Q<|go 2<|WP.seq<|so<|ce H ?_ ?_ <;> intro H
 ·
  refine sp ?_
  cases H.out; exact et () 2 [0,1] 0
 refine WP.skip<|wr 10 0<|gl 5 [0]<|gr H fun ga H=>?_
 have hac:ta.1.toNat<a0.fl.length:=bE ga
 refine Dv.kA Q T Q (ab 1 Q) Q fI iq iT ga.1 ga.2<|Dv.pv (j:=ta.1.toNat) (f:=0) Q T Q (ab 1 Q) hac iq Q iT (Nat.le_of_ble_eq_true Q)<|go 1<|el H fun tc had H=>cl Q (cL 125) Q (dQ.c had)<|gq 1 ?_
 cases H.out; exact et () 2 [0,1] 0
theorem gX.c (h:gX.f a0=some r):Pt prog 130 [vB a0] (vI r):=by
 refine pf func130 h fun R0 F H=>?_
 refine so<|WP.seq<|so<|ce H ?_ ?_ <;> intro H
 ·
  refine sp ?_
  cases H.out; exact ek 0
 refine WP.skip<|sp ?_
 cases H.out; exact ek 0
theorem ij.c (h:ij.f k a0 a1=some r):Pt prog 62 [agg (bx.enc a0),agg (bx.enc a1)] (vI r):=by
 refine pf func62 h fun R0 F H=>?_
 refine wr 3 3<|Dv.box Q T Q cA nofun fun ba=>Dv.box Q T Q cA nofun fun bc=>go 1<|wd mX 25 0<|gl 4 [1,0]<|el H fun ta haa H=>cl Q (cL 65) Q (aD.c haa)<|gl 4 [1,0]<|el H fun tc hac H=>cl Q (cL 65) Q (aD.c hac)<|gl 4 [1,0]<|el H fun te had H=>cl Q (cL 65) Q (aD.c had)<|gl 2 [1]<|el H fun tg hae H=>cl Q (cL 130) Q (gX.c hae)<|gl 2 [0]<|el H fun tj haf H=>cl Q (cL 130) Q (gX.c haf)<|el H fun tm hag H=>cl Q (cL 129) Q (cC.c hag)<|Dv.lit (bG .i64) ([ta,tc,te,tm]:List Int) (css:=[[vI ta],[vI tc],[vI te],[vI tm]]) Q T qZ U3 c3 z3 Q dc dc Q ⟨(cells_one (ah Q)),⟨(cells_one (ah Q)),⟨(cells_one (ah Q)),⟨(cells_one (ah Q)),T⟩⟩⟩⟩ Q Q Q<|el H fun tn hah H=>cl Q (cL 128) Q (bD.c hah)<|gq 1 ?_
 cases H.out; exact ek 2
theorem mD.c (h:mD.f k a0 a1=some r):Pt prog 61 [agg (eQ.enc a0),agg (eQ.enc a1)] (vI r):=by
 refine pf func61 h fun R0 F H=>?_
 refine wr 3 3<|Dv.box Q T Q cA nofun fun ba=>Dv.box Q T Q cA nofun fun bc=>go 1<|wr 6 0<|gl 4 [1,0]<|el H fun ta haa H=>cl Q (cL 62) Q (ij.c haa)<|gq 1 ?_
 cases H.out; exact ek 2
theorem pL (x y:BA):aD.f x y=some (jL x y):=by
 unfold aD.f cmp_isNaN_string.f jL
 simp only [Option.bind_some,bne_self_eq_false,decide_true,Bool.not_true,cond_false]
 cases dO x y <;> cases dO y x <;> rfl
theorem AZ:AK mG:=(q8.uD (fun x:bx=>x.aa)).or ((q8.uD (fun x:bx=>x.ai)).or ((q8.uD (fun x:bx=>x.ae)).or (GU.uD (fun x:bx=>if x.ao then 1 else 0))))
theorem Fe (x y:Int):cC.f x y=some (mW x y):=by
 unfold cC.f cmp_isNaN_int.f mW
 simp only [Option.bind_some,bne_self_eq_false,cond_false]
 by_cases h:x<y
 ·
  simp [h]
 by_cases k:y<x <;> simp [h,k]
theorem or4_f (a b c d:Int):bD.f 8 [a,b,c,d]=some (DW a (DW b (DW c d))):=by
 unfold DW
 have e1:IntKind.i64.wrap 1=1:=dc
 have e2:IntKind.i64.wrap 2=2:=dc
 have e3:IntKind.i64.wrap 3=3:=dc
 have e4:IntKind.i64.wrap 4=4:=dc
 by_cases h1:a=0 <;> by_cases h2:b=0 <;> by_cases h3:c=0 <;> by_cases h4:d=0 <;> simp [bD.f,bD.l0,Kd.at,bG,an,fall,h1,h2,h3,h4,aw,e1,e2,e3,e4,bne_iff_ne,show ∀ x:Int,(x != 0)=decide (x≠0) from fun x=>by by_cases h:x=0 <;> simp [h]]
theorem J2 (x y:bx):ij.f 8 x y=some (mG x y):=by
 unfold ij.f gX.f
 rw [pL,pL,pL]
 have e:∀ b:Bool,(cond b (some 1) (some 0):Option Int)=some (if b then 1 else 0):=fun b=>by cases b <;> rfl
 simp only [Option.bind_some,e,Fe,or4_f]
 rfl
theorem aT.Ep (x y:eQ):mD.f 8 x y=some (aT.cf x y):=by
 unfold mD.f
 rw [J2]
 rfl
theorem aT.yZ:AK aT.cf:=AZ.uD (fun x:eQ=>x.bY)
theorem aT.c {p0_:OV} (h:aT.f a0=some r):Tr prog 60 [eq p0_.1,eq (.func (.func 61) #[] #[])] [own eQ.K p0_.1 a0] (γ:=Unit) (fun _=>True) (fun g=>kN []) (fun g=>[own eQ.K p0_.1 r]):=by
 unfold aT.f at h
 obtain ⟨⟨h0,hT⟩,h5⟩:=(aV.of h).an
 obtain rfl:=aV.out h5
 exact sA (K:=eQ.K) (fun _=>(bO gV (bO gV (bO gV (bO gV (bO gV (bO gV mb))))))) dc aT.yZ.swo hT (fun x y=>mD.c (aT.Ep x y)) (fun ev hk h1 cf hO aI off cap d w hc hH hb hs=>AnyQ.slices_SortFunc Tryz.lays6f60 6 Tryz.isAgg91 Tryz.sizeOf91 ev hk h1 cf hO 61 #[] aI off cap d w (enters_of func61 kr Q) hc hH hb hs) (fun q cap w=>AnyF.slices_SortFunc_none Tryz.lays6f60 q cap _ w) om
theorem mH.c (h:mH.f a0 a1=some r):Pt prog 64 [agg (eA.enc a0),agg (eA.enc a1)] (vI r):=by
 refine pf func64 h fun R0 F H=>?_
 refine wr 3 3<|Dv.box Q T Q cA nofun fun ba=>Dv.box Q T Q cA nofun fun bc=>go 1<|wr 6 0<|gl 4 [1,0]<|el H fun ta haa H=>cl Q (cL 65) Q (aD.c haa)<|gq 1 ?_
 cases H.out; exact ek 2
theorem aK.Ep (x y:eA):mH.f x y=some (aK.cf x y):=by
 unfold mH.f
 rw [pL]
 rfl
theorem aK.yZ:AK aK.cf:=q8.uD (fun x:eA=>x.aa)
theorem aK.c {p0_:OV} (h:aK.f a0=some r):Tr prog 63 [eq p0_.1,eq (.func (.func 64) #[] #[])] [own eA.K p0_.1 a0] (γ:=Unit) (fun _=>True) (fun g=>kN []) (fun g=>[own eA.K p0_.1 r]):=by
 unfold aK.f at h
 obtain ⟨⟨h0,hT⟩,h5⟩:=(aV.of h).an
 obtain rfl:=aV.out h5
 exact sA (K:=eA.K) (fun _=>(bO gV (bO (xu (fun _=>(bO gV mb))) mb))) dc aK.yZ.swo hT (fun x y=>mH.c (aK.Ep x y)) (fun ev hk h1 cf hO aI off cap d w hc hH hb hs=>AnyQ.slices_SortFunc Tryz.lays6f63 2 Tryz.isAgg94 Tryz.sizeOf94 ev hk h1 cf hO 64 #[] aI off cap d w (enters_of func64 kr Q) hc hH hb hs) (fun q cap w=>AnyF.slices_SortFunc_none Tryz.lays6f63 q cap _ w) om
theorem mv.c (h:mv.f a0 a1=some r):Pt prog 67 [agg (eR.enc a0),agg (eR.enc a1)] (vI r):=by
 refine pf func67 h fun R0 F H=>?_
 refine wr 3 3<|Dv.box Q T Q cA nofun fun ba=>Dv.box Q T Q cA nofun fun bc=>go 1<|wr 6 0<|gl 4 [1,0]<|el H fun ta haa H=>cl Q (cL 65) Q (aD.c haa)<|gq 1 ?_
 cases H.out; exact ek 2
theorem aJ.Ep (x y:eR):mv.f x y=some (aJ.cf x y):=by
 unfold mv.f
 rw [pL]
 rfl
theorem aJ.yZ:AK aJ.cf:=q8.uD (fun x:eR=>x.ai)
theorem aJ.c {p0_:OV} (h:aJ.f a0=some r):Tr prog 66 [eq p0_.1,eq (.func (.func 67) #[] #[])] [own eR.K p0_.1 a0] (γ:=Unit) (fun _=>True) (fun g=>kN []) (fun g=>[own eR.K p0_.1 r]):=by
 unfold aJ.f at h
 obtain ⟨⟨h0,hT⟩,h5⟩:=(aV.of h).an
 obtain rfl:=aV.out h5
 exact sA (K:=eR.K) (fun _=>(bO gV (bO gV mb))) dc aJ.yZ.swo hT (fun x y=>mv.c (aJ.Ep x y)) (fun ev hk h1 cf hO aI off cap d w hc hH hb hs=>AnyQ.slices_SortFunc Tryz.lays6f66 2 Tryz.isAgg96 Tryz.sizeOf96 ev hk h1 cf hO 67 #[] aI off cap d w (enters_of func67 kr Q) hc hH hb hs) (fun q cap w=>AnyF.slices_SortFunc_none Tryz.lays6f66 q cap _ w) om
theorem sync_Make.c {p0_0 p0_1 p0_2 p0_3 p0_4:OV} (h:sync_Make.f k a0 a1 a2 a3=some r):Tr prog 14 [agg [eq p0_0.1,eq p0_1.1,eq p0_2.1,eq p0_3.1,eq p0_4.1],vS a1,vI a2,vI a3] [aL.O p0_0 a0.cO,jF.O p0_1 a0.ay,bZ.O p0_2 a0.av,cI.O p0_3 a0.aU,cH.O p0_4 a0.gH] (γ:=Unit) (fun _=>True) (fun g=>kN [agg (sX.enc r.1),vI r.2]) (fun g=>[aL.O p0_0 a0.cO,jF.O p0_1 a0.ay,bZ.O p0_2 a0.av,cI.O p0_3 a0.aU,cH.O p0_4 a0.gH]):=by
 refine tf func14 h fun R0 F H=>?_
 refine wr 3 3<|Dv.box Q T Q cA nofun fun ba=>al Q T IS nofun fun bc=>go 1<|WP.seq<|wr 9 64<|gp 3 ?_
 rcases bm H with ⟨cc,H⟩ | ⟨cc,H⟩
 rotate_left
 ·
  refine sh 21 cc ?_
  refine sh 22 cc ?_
  refine go 3<|Dv.Cn Q ⟨_,_,Q,Q,.inl Q⟩ nofun<|go 2<|WP.cond Q (fun _=>?_) nofun
  refine wr 3 2<|Dv.lp (qs:=[vI 0,eN,eN,eN]) (css:=[]) Q T KW J6 z59 Q T Q Q<|sy 0 ?_
  refine gq 1 ?_
  cases H.out; exact rt i2 Q () 7 [0,1,2,3,4,5,6] 2 (.cons (pM (au Q KW Q c59 (ab 0 Q) Q) (oJ (.cons cM (.cons dD (.cons dD (.cons dD .nil)))))) (.cons (aE Q) .nil))
 refine sh 21 cc ?_
 refine sh 22 cc ?_
 refine gl 3 [1]<|el H fun ta haa H=>cx 7 [6,0,1,2,3,4,5] (cL 53) (iy.c haa (p0_:=p0_4)) nofun fun _ _=>?_
 refine go 2<|ce H ?_ ?_ <;> intro H
 ·
  refine wr 3 2<|Dv.lp (qs:=[vI 0,eN,eN,eN]) (css:=[]) Q T KW J6 z59 Q T Q Q<|sy 1 ?_
  refine gq 1 ?_
  cases H.out; exact rt i2 Q () 7 [1,2,3,4,5,6,0] 2 (.cons (pM (au Q KW Q c59 (ab 1 Q) Q) (oJ (.cons cM (.cons dD (.cons dD (.cons dD .nil)))))) (.cons (aE Q) .nil))
 refine WP.skip<|wr 6 52<|gl 2 [2]<|el H fun tc hac H=>cx 7 [0,1,2,3,4,5,6] (cL 53) (iy.c hac (p0_:=p0_4)) nofun fun _ _=>?_
 refine Dv.lp (qs:=[vI tc,eN,eN,eN]) (css:=[[vI tc]]) Q T KW J6 z59 Q ⟨(cells_one (ah Q)),T⟩ Q Q<|al Q T IS nofun fun bd=>sy 0 ?_
 refine .fin<|WP.lf H (fun qh:(Int×Int×Bool×(List BA)×(List eQ)×(List eA)×(List eR))×OV×OV×OV×OV=>qh.1) (fun qh=>[(8,eP bc),(10,eP bd)]) (fun qh=>[aI bd 59 [vI tc,eq qh.2.2.1.1,eq qh.2.2.2.1.1,eq qh.2.2.2.2.1],aI bc 59 [vI 0,eN,eN,eN],aI ba 30 [eq p0_0.1,eq p0_1.1,eq p0_2.1,eq p0_3.1,eq p0_4.1],cH.O p0_4 a0.gH,aL.O p0_0 a0.cO,jF.O p0_1 a0.ay,bZ.O p0_2 a0.av,cI.O p0_3 a0.aU,own aH qh.2.1.1 qh.1.2.2.2.1,own eQ.K qh.2.2.1.1 qh.1.2.2.2.2.1,own eA.K qh.2.2.2.1.1 qh.1.2.2.2.2.2.1,own eR.K qh.2.2.2.2.1 qh.1.2.2.2.2.2.2]++F) (fun qh H=>?_) (fun H=>?_)
 ·
  obtain ⟨pa,va,vb,vd,ve⟩:=qh
  refine wr 3 4<|gl 2 [0]<|el H fun te had H=>cx 12 [9,0,1,2,3,4,5,6,7,8,10,11] (cL 60) (aT.c had (p0_:=vb)) nofun fun _ _=>?_
  refine .fin<|wr 3 4<|gl 2 [1]<|el H fun tg hae H=>cx 12 [10,0,1,2,3,4,5,6,7,8,9,11] (cL 63) (aK.c hae (p0_:=vd)) nofun fun _ _=>?_
  refine .fin<|wr 3 4<|gl 2 [2]<|el H fun tj haf H=>cx 12 [11,0,1,2,3,4,5,6,7,8,9,10] (cL 66) (aJ.c haf (p0_:=ve)) nofun fun _ _=>?_
  refine .fin<|wr 3 2<|gl 1 [3]<|sy 4 ?_
  refine go 1<|fz 2 [8,9] [0,0,1,1] ?_
  refine fz 1 [8,9] [0,1,1] ?_
  refine fz 0 [8,9] [1,1] ?_
  cases H.out; exact rt i2 Q () 9 [0,1,2,8,4,5,6,7,3] 4 (.cons (au Q KW Q c59 (ab 1 Q) Q) (.cons (aE Q) .nil))
 refine wr 6 8<|gl 3 [3]<|el H fun tm hag H=>cx 8 [1,0,2,3,4,5,6,7] (cL 54) (cG.c hag (p0_:=p0_4)) nofun fun ga _=>?_
 refine Dv.kG Q T Q (ab 1 Q) dW<|go 1<|WP.block<|wg (eD eQ.K none) fun _ _=>?_
 refine wg (eD eA.K none) fun _ _=>?_
 refine wg (eD eR.K none) fun _ _=>?_
 refine ws 12 [5,6,7,3,4,8,9,10,11,2,1,0] 0 ?_
 refine lq (fun j_ (pc:Int×(List eQ)×(List eA)×(List eR)×OV×OV×OV)=>sync_Make.l0 k a0 a1 a3 tm j_ pc.1 pc.2.1 pc.2.2.1 pc.2.2.2.1) (0,([]:List eQ),([]:List eA),([]:List eR),lA,Fs,nilV2) H [1,3,4,8,10,37,38] (fun pc=>[(39,vI pc.1)]) (fun pc=>[(0,aI bd 59 [vI tc,eq pc.2.2.2.2.1.1,eq pc.2.2.2.2.2.1.1,eq pc.2.2.2.2.2.2.1]),(9,own eQ.K pc.2.2.2.2.1.1 pc.2.1),(10,own eA.K pc.2.2.2.2.2.1.1 pc.2.2.1),(11,own eR.K pc.2.2.2.2.2.2.1 pc.2.2.2.1)]) ?_
 rintro j_ ⟨xc,xd,xe,xf,vh,vi,vj⟩ H
 rcases j_ with _ | ja
 ·
  exact (aV.no H).elim
 try dsimp only at H
 rw [sync_Make.l0] at H
 refine so<|WP.seq<|cf H ?_ ?_ <;> intro H
 ·
  refine WP.exit ?_
  have H:=H.out
  refine ns 12 [0,1,2,3,5,6,7,8,4,9,10,11] 0 ?_
  exact jn (((tm.length:Int),xc,decide (xc<(tm.length:Int)),tm,xd,xe,xf),ga,vh,vi,vj) H
 refine WP.skip<|WP.seq<|WP.block<|wr 3 0<|gr H fun gb H=>?_
 have hah:xc.toNat<tm.length:=bE gb
 refine Dv.kA Q T Q (ab 4 Q) Q dW U9 c9 gb.1 gb.2<|Dv.o6 (j:=xc.toNat) (f:=0) (p:=vS (tm.getD xc.toNat default)) Q T Q (ab 4 Q) hah U9 Q Q<|go 1<|wr 3 0<|go 1<|el H fun tn hai H=>cl Q (cL 55) Q (mU.c hai)<|go 1<|WP.lf H (fun qi:((List eQ)×(List eA))×OV×OV=>qi.1) (fun qi=>[(1,vS a1),(3,vI a3),(4,eP ba),(8,eP bc),(10,eP bd),(13,jw.p tn),(37,eq ga.1),(38,vI (tm.length:Int)),(39,vI xc)]) (fun qi=>[aI bd 59 [vI tc,eq qi.2.1.1,eq qi.2.2.1,eq vj.1],aI bc 59 [vI 0,eN,eN,eN],aI ba 30 [eq p0_0.1,eq p0_1.1,eq p0_2.1,eq p0_3.1,eq p0_4.1],aL.O p0_0 a0.cO,jF.O p0_1 a0.ay,bZ.O p0_2 a0.av,cI.O p0_3 a0.aU,cH.O p0_4 a0.gH,own aH ga.1 tm,own eR.K vj.1 xf,own eQ.K qi.2.1.1 qi.1.1,own eA.K qi.2.2.1 qi.1.2]++F) (fun qi H=>?_) (fun H=>?_)
 ·
  obtain ⟨pe,vk,vl⟩:=qi
  refine wr 7 0<|go 1<|Dv.tas (jw.Ea tn) Q T Q<|go 1<|ei Q T Q Q<|ei Q T Q Q<|go 2<|wr 8 64<|gp 2 ?_
  rcases bm H with ⟨cg,H⟩ | ⟨cg,H⟩
  ·
   refine sh 86 cg ?_
   refine sh 19 cg ?_
   refine sh 87 cg ?_
   refine sh 88 cg ?_
   refine go 4<|Dv.Cn Q ⟨_,_,Q,Q,.inl Q⟩ nofun<|go 1<|WP.cond Q nofun (fun _=>?_)
   refine WP.skip<|rg 2 0<|go 2<|ns 12 [0,1,2,7,8,3,4,5,6,10,11,9] 0 ?_
   exact bk ja (aw (xc+1),pe.1,pe.2,xf,vk,vl,vj) H
  refine sh 86 cg ?_
  refine sh 19 cg ?_
  refine sh 87 cg ?_
  refine sh 88 cg ?_
  refine gl 4 [2]<|el H fun tp haj H=>cx 12 [3,0,1,2,4,5,6,7,8,9,10,11] (cL 58) (eX.c haj (p0_:=p0_0)) nofun fun _ _=>?_
  refine go 1<|cf H ?_ ?_ <;> intro H
  ·
   refine WP.skip<|rg 2 0<|go 2<|ns 12 [1,2,3,7,8,0,4,5,6,10,11,9] 0 ?_
   exact bk ja (aw (xc+1),pe.1,pe.2,xf,vk,vl,vj) H
  refine wg (cI.iK 6 Q) fun gc hak=>?_
  refine dg mX 13 5120<|gl 7 [4,6]<|el H fun tq ham H=>px 14 [0,1,2,3,4,5,6,7,8,9,10,11,12,13] (cL 59) (Tr.jK (b7.c ham (b0_:=gc.1) (v0_0:=gc.2.1) (v0_1:=gc.2.2)) (.cons (iD hak) (.cons cM (.cons cM .nil)))) ?_
  refine Dv.lp (qs:=[vS ((jw.rT tn).getD eE),vI tq]) (css:=[[vS ((jw.rT tn).getD eE)],[vI tq]]) Q T JV pl96 z96 Q ⟨(cells_one (ah Q)),⟨(cells_one (ah Q)),T⟩⟩ Q Q<|Dv.lit eR.K ([(⟨(jw.rT tn).getD eE,tq⟩:eR)]:List eR) (css:=[[vS ((jw.rT tn).getD eE),vI tq]]) Q T EB JV c96 z96 Q dc dc Q ⟨(aZ (aj (ah Q) (aj (ah Q) bX))),T⟩ Q Q Q<|gr H fun gi H=>ap eR.K 11 ([(⟨(jw.rT tn).getD eE,tq⟩:eR)]:List eR) bS EB (.inr ⟨_,EB⟩) inf96 gi pB fun vm=>?_
  refine go 1<|sx 4 Q T Q Q (cells_one bK) sz57 Q Q Q pB ?_
  refine .fin<|rg 2 0<|go 2<|ng (cI.shut (p:=p0_3) (m:=a0.aU) (gc.1,gc.2.1,gc.2.2) hak (pm 14 [0,1,2,3,4,5,6,7,8,9,10,11,12,13])) fun _ _=>?_
  refine ns 12 [2,3,4,7,8,1,5,6,0,10,11,9] 0 ?_
  exact bk ja (aw (xc+1),pe.1,pe.2,xf++([(⟨(jw.rT tn).getD eE,tq⟩:eR)]:List eR),vk,vl,vm) H
 refine so<|WP.block<|wr 3 0<|Dv.tas (jw.Ii tn) Q T Q<|ei Q T Q Q<|ei Q T Q Q<|.fin<|ce H ?_ ?_ <;> intro H
 ·
  refine wr 2 3<|al Q T zc89 nofun fun be=>sy 0 ?_
  refine .fin<|wr 10 392<|gl 3 [3,0]<|el H fun tu han H=>cx 13 [6,7,8,9,4,0,1,2,3,5,10,11,12] (cL 56) (gR.c han (p0_0:=p0_0) (p0_1:=p0_1) (p0_2:=p0_2) (p0_3:=p0_3) (p0_4:=p0_4)) nofun fun _ _=>?_
  refine go 1<|ei Q T Q Q<|ei Q T Q Q<|al Q T zc91 nofun fun bg=>sy 0 ?_
  refine go 1<|so<|cf H ?_ ?_ <;> intro H
  ·
   refine WP.skip ?_
   have H:=H.out
   refine ns 14 [0,6,7,8,9,1,2,3,4,5,10,13,11,12] 2 ?_
   exact jn ((xd,xe),vh,vi) H
  refine rg 7 80<|gl 3 [7,0]<|Dv.lit eQ.K ([(⟨tu.1.bY,tu.1.fY⟩:eQ)]:List eQ) (css:=[[vS tu.1.bY.aa,vS tu.1.bY.ai,vS tu.1.bY.ae,vB tu.1.bY.ao,vI tu.1.fY.bq,vS tu.1.fY.cJ]]) Q T DU xD AQ z91 Q dc dc Q ⟨(aZ (aj (ah Q) (aj (ah Q) (aj (ah Q) (aj (ah Q) (aj (ah Q) (aj (ah Q) bX))))))),T⟩ Q Q Q<|gr H fun gj H=>ap eQ.K 11 ([(⟨tu.1.bY,tu.1.fY⟩:eQ)]:List eQ) bS DU (.inr ⟨_,DU⟩) inf91 gj nofun fun vn=>?_
  refine go 1<|sx 7 Q T Q Q (cells_one bK) sz55 Q Q Q nofun ?_
  refine .fin ?_
  have H:=H.out
  refine ns 14 [0,6,7,8,9,1,2,3,4,5,10,13,11,12] 2 ?_
  exact jn ((xd++([(⟨tu.1.bY,tu.1.fY⟩:eQ)]:List eQ),xe),vn,vi) H
 refine wr 3 0<|Dv.tas (jw.Fl tn) Q T Q<|ei Q T Q Q<|ei Q T Q Q<|.fin<|cf H ?_ ?_ <;> intro H
 ·
  refine WP.skip ?_
  have H:=H.out
  refine ns 12 [0,1,2,5,6,7,8,3,4,11,9,10] 0 ?_
  exact jn ((xd,xe),vh,vi) H
 refine so<|wr 5 0<|gl 4 [2]<|vg (aL.iK 5 Q) fun gk hao=>?_
 refine el H fun tw hap H=>px 13 [0,1,2,3,4,5,6,7,8,9,10,11,12] (cL 57) (Tr.jK (bN.c hap (b0_:=gk.1) (v0_0:=gk.2)) (.cons (iD hao) (.cons cM (.cons cM .nil)))) ?_
 refine .fin<|cf H ?_ ?_ <;> intro H
 ·
  refine WP.skip ?_
  have H:=H.out
  refine ng (aL.shut (p:=p0_0) (m:=a0.cO) (gk.1,gk.2) hao (pm 13 [0,1,2,3,4,5,6,7,8,9,10,11,12])) fun _ _=>?_
  refine ns 12 [1,2,3,0,6,7,8,4,5,11,9,10] 0 ?_
  exact jn ((xd,xe),vh,vi) H
 refine wg (aL.shut (p:=p0_0) (m:=a0.cO) (gk.1,gk.2) hao (pm 13 [0,1,2,3,4,5,6,7,8,9,10,11,12])) fun _ _=>?_
 refine dg mX 12 2624<|gl 6 [1,3]<|el H fun tx haq H=>Dv.zt (pre:=[aL.O p0_0 a0.cO,jF.O p0_1 a0.ay,bZ.O p0_2 a0.av,cI.O p0_3 a0.aU,cH.O p0_4 a0.gH]) (F:=[aI bd 59 [vI tc,eq vh.1,eq vi.1,eq vj.1],aI bc 59 [vI 0,eN,eN,eN],aI ba 30 [eq p0_0.1,eq p0_1.1,eq p0_2.1,eq p0_3.1,eq p0_4.1],own aH ga.1 tm,own eQ.K vh.1 xd,own eA.K vi.1 xe,own eR.K vj.1 xf]++F) (fun _:Unit=>[aL.O p0_0 a0.cO,jF.O p0_1 a0.ay,bZ.O p0_2 a0.av,cI.O p0_3 a0.aU,cH.O p0_4 a0.gH,aI bd 59 [vI tc,eq vh.1,eq vi.1,eq vj.1],aI bc 59 [vI 0,eN,eN,eN],aI ba 30 [eq p0_0.1,eq p0_1.1,eq p0_2.1,eq p0_3.1,eq p0_4.1],own aH ga.1 tm,own eQ.K vh.1 xd,own eA.K vi.1 xe,own eR.K vj.1 xf]++F) Q T (cL 20) Q (lW.c haq (p0_0:=p0_0) (p0_1:=p0_1) (p0_2:=p0_2) (p0_3:=p0_3) (p0_4:=p0_4)) (mg (L:=[aL.O p0_0 a0.cO,aI bd 59 [vI tc,eq vh.1,eq vi.1,eq vj.1],aI bc 59 [vI 0,eN,eN,eN],aI ba 30 [eq p0_0.1,eq p0_1.1,eq p0_2.1,eq p0_3.1,eq p0_4.1],cH.O p0_4 a0.gH,own aH ga.1 tm,jF.O p0_1 a0.ay,bZ.O p0_2 a0.av,cI.O p0_3 a0.aU,own eQ.K vh.1 xd,own eA.K vi.1 xe,own eR.K vj.1 xf]) (F:=F) [0,6,7,8,4,1,2,3,5,9,10,11] kr Q Q) Q pE (fun _ _=>?_)
 refine Dv.lp (qs:=[vS ((jw.rk tn).getD eE),sl aH tx]) (css:=[[vS ((jw.rk tn).getD eE)],[sl aH tx]]) Q T KR pl94 z94 Q ⟨(cells_one (ah Q)),⟨(cells_one dM),T⟩⟩ Q Q<|Dv.lit eA.K ([(⟨(jw.rk tn).getD eE,tx⟩:eA)]:List eA) (css:=[[vS ((jw.rk tn).getD eE),sl aH tx]]) Q T Gd KR c94 z94 Q dc dc Q ⟨(aZ (aj (ah Q) (aj dM bX))),T⟩ Q Q Q<|gr H fun gm H=>ap eA.K 10 ([(⟨(jw.rk tn).getD eE,tx⟩:eA)]:List eA) bS Gd (.inr ⟨_,Gd⟩) inf94 gm pB fun vo=>?_
 refine go 1<|sx 5 Q T Q Q (cells_one bK) sz56 Q Q Q pB ?_
 refine .fin ?_
 have H:=H.out
 refine ns 12 [5,6,7,0,1,2,3,4,8,11,9,10] 0 ?_
 exact jn ((xd,xe++([(⟨(jw.rk tn).getD eE,tx⟩:eA)]:List eA)),vh,vo) H
end Go.Proofs.YtfknmdelgepbjaaGreatDoor
