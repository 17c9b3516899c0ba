import Derived.Test.YtfknmdelgepbjaaGreatDoorZTab
import Derived.Test.YtfknmdelgepbjaaGreatDoorZWalks2
import Derived.Test.YtfknmdelgepbjaaGreatDoorConQ
import Derived.Test.YtfknmdelgepbjaaGreatDoorConA6
import Derived.Test.YtfknmdelgepbjaaGreatDoorConC4
import Derived.Lib.Join
import Derived.Eval
set_option linter.all false
set_option autoImplicit true
set_option maxRecDepth 10000
set_option maxHeartbeats 20000000
namespace Go.Proofs.YtfknmdelgepbjaaGreatDoor
open Go Go.Sp Tryz
theorem mw.c {p0_0 p0_1 p0_2 p0_3 p0_4:OV} (h:mw.f k a0 a1 a2=some r):Tr prog 11 [agg [eq p0_0.1,eq p0_1.1,eq p0_2.1,eq p0_3.1,eq p0_4.1],agg (dQ.enc a1),agg (ak.enc a2)] [lax,aO.O p0_0 a0.dx,kb.O p0_1 a0.aB,cC.O p0_2 a0.aw,cJ.O p0_3 a0.bq,cI.O p0_4 a0.jE] (γ:=Unit) (fun _=>True) (fun g=>lr [agg (dQ.enc r.1),vB r.2.1]) (fun g=>[lax,aO.O p0_0 r.2.2.dx,kb.O p0_1 r.2.2.aB,cC.O p0_2 r.2.2.aw,cJ.O p0_3 r.2.2.bq,cI.O p0_4 r.2.2.jE]):=by
 refine tf func11 h fun R0 F H=>?_
 refine wr 5 15<|Dv.box Q T Q cA nofun fun ba=>Dv.box Q T Q cA nofun fun bc=>Dv.box Q T Q cA nofun fun bd=>al Q T GI nofun fun be=>go 1<|wr 1 1<|al Q T zc116 nofun fun bg=>.fin<|so<|WP.zf H id (fun pa=>[(3,eW ba),(4,eW bc),(6,eW be),(8,eW bg),(9,vS pa.1)]) (fun pa=>[aJ bg 116 [vI pa.2.1.aH,vS pa.2.1.fK.aa,vS pa.2.1.fK.ai,vS pa.2.1.fK.ae,vB pa.2.1.fK.ao,vS pa.2.1.mb],aJ be 43 [eU,eU,eU,eU,eU,eU,eU,vI 0],aJ bd 52 (ak.enc a2),aJ bc 43 [sl aQ.K pa.2.2.1.fV.fD,sl MK.K pa.2.2.1.fM,sl ak.K pa.2.2.1.fT.fL,sl dp pa.2.2.1.fT.fx,sl ak.K pa.2.2.1.fP.fL,sl (bG .i64) pa.2.2.1.fP.fx,sl kR.K pa.2.2.1.fL,vI pa.2.2.1.aV],aJ ba 30 [eq p0_0.1,eq p0_1.1,eq p0_2.1,eq p0_3.1,eq p0_4.1],kb.O p0_1 pa.2.2.2.1,aO.O p0_0 a0.dx,lax,cC.O p0_2 pa.2.2.2.2.1,cJ.O p0_3 pa.2.2.2.2.2,cI.O p0_4 a0.jE]++F) (fun pa H=>?_) (fun H=>?_)
 ·
  refine so<|wr 5 8<|gl 3 [3]<|vg (eK kR.K none) fun _ _=>?_
  refine gr H fun ga H=>ap kR.K 0 pa.2.2.1.fL bQ Hn (.inr ⟨_,Hn⟩) Ge ga nofun fun va=>?_
  refine go 1<|wr 6 40<|gl 2 [1]<|Dv.lit kR.K ([(⟨pa.2.1.aH,pa.2.1.fK,pa.2.1.mb⟩:kR)]:List kR) (css:=[[vI pa.2.1.aH,vS pa.2.1.fK.aa,vS pa.2.1.fK.ai,vS pa.2.1.fK.ae,vB pa.2.1.fK.ao,vS pa.2.1.mb]]) Q T Hn H9 I8 z116 Q dc dc Q ⟨(aZ (aj (ah Q) (aj (ah Q) (aj (ah Q) (aj (ah Q) (aj (ah Q) (aj (ah Q) bX))))))),T⟩ Q Q Q<|gr H fun gb H=>ap kR.K 0 ([(⟨pa.2.1.aH,pa.2.1.fK,pa.2.1.mb⟩:kR)]:List kR) bQ Hn (.inr ⟨_,Hn⟩) Ge gb nofun fun vb=>?_
  refine go 1<|sx 4 Q T Q Q (cells_one bL) sz41 Q Q Q nofun ?_
  refine .fin<|wr 9 8<|gl 3 [5]<|el H fun ta haa H=>cx 12 [11,0,1,2,3,4,5,6,7,8,9,10] (cL 48) (iw.c haa (p0_:=p0_4)) nofun fun _ _=>?_
  refine go 1<|eh Q T Q Q<|eh Q T Q Q<|go 2<|wd mX 11 512<|lx 4 [5] ?_
  cases cc:(ta.2.1==0)
  ·
   have H:=H.cf cc
   refine go 5<|sx 3 Q T Q Q cA HO Q Q Q pD ?_
   refine go 1<|fz 1 [6,7] [0,0,1,0,1] ?_
   cases H.out; exact rt i2 Q () 11 [1,2,3,4,5,8,7,6,9,10,0] 5 (.cons (au Q Bz Q GO (ab 2 Q) Q) (.cons (aF Q) .nil))
  have H:=H.ct cc
  refine gl 2 [2]<|el H fun tc hac H=>Dv.call Q (gg Q) (cL 49) Q (kH.c hac)<|go 2<|sx 3 Q T Q Q cA HO Q Q Q pD ?_
  refine go 1<|fz 1 [6,7] [0,0,1,0,1] ?_
  cases H.out; exact rt i2 Q () 11 [1,2,3,4,5,8,7,6,9,10,0] 5 (.cons (au Q Bz Q GO (ab 2 Q) Q) (.cons (aF Q) .nil))
 refine sL [2]<|WP.block<|so<|ce H ?_ ?_ <;> intro H
 ·
  refine wr 16 12288<|gl 2 [3]<|Dv.lI (qs:=[vI 8,eU,vI 0]) (css:=[[vI 8]]) Q T BW GH Ik Q ⟨(cells_one (ah Q)),T⟩ Q Q<|Dv.lI (qs:=[sl MK.K a1.fM,vI 8,eU,vI 0]) (css:=[[sl MK.K a1.fM],[vI 8,eU,vI 0]]) Q T zJ F7 HY Q ⟨(cells_one dP),⟨(aZ (aj (ah Q) (aj (ah Q) (aj (ah Q) bX)))),T⟩⟩ Q Q<|gl 3 [3,2]<|el H fun te had H=>cl Q (cL 38) Q (Pt.jZ (qL.c had) (.cons (pq (.cons cK (.cons cK (.cons dE (.cons cK .nil))))) (.cons cK (.cons cK .nil))))<|go 1<|eh Q T Q Q<|eh Q T Q Q<|eh Q T Q Q<|al Q T J4 nofun fun bh=>sy 0 ?_
  refine go 2<|wr 4 8<|gl 3 [0]<|sx 4 Q T Q Q (cells_one dP) sz34 Q Q Q nofun ?_
  refine .fin<|wr 11 32<|gl 5 [5,5,3]<|el H fun tg hae H=>cx 12 [8,7,0,1,2,3,4,5,6,9,10,11] (cL 39) (ir.c hae (p0_:=p0_1) (p1_:=p0_0)) nofun fun _ _=>?_
  refine go 1<|eh Q T Q Q<|eh Q T Q Q<|go 2<|WP.seq<|wr 8 0<|go 2<|nQ Q Q Q (xx W4)<|gp 1 ?_
  rcases bm H with ⟨cg,H⟩ | ⟨cg,H⟩
  rotate_left
  ·
   refine sh 85 cg ?_
   refine sh 86 cg ?_
   refine go 4<|WP.cond Q (fun _=>?_) nofun
   refine wr 3 2<|gl 1 [6]<|sy 4 ?_
   refine gq 1 ?_
   have H:=H.fU
   cases H.out; exact rt i2 Q () 12 [2,3,4,5,6,7,8,1,0,9,10,11] 6 (.cons (au Q Bz Q GO (ab 4 Q) Q) (.cons (aF Q) .nil))
  refine sh 85 cg ?_
  refine sh 86 cg ?_
  refine go 4<|ce H ?_ ?_ <;> intro H
  ·
   refine wr 3 2<|gl 1 [6]<|sy 4 ?_
   refine gq 1 ?_
   have H:=H.fU
   cases H.out; exact rt i2 Q () 12 [2,3,4,5,6,7,8,1,0,9,10,11] 6 (.cons (au Q Bz Q GO (ab 4 Q) Q) (.cons (aF Q) .nil))
  refine WP.skip<|wr 4 8<|gl 1 [5]<|el H fun tj haf H=>cl Q (cL 40) Q (qx.c haf)<|Dv.lI (qs:=[vI 1,vS tj.aa,vS tj.ai,vS tj.ae,vB tj.ao,vS eE]) (css:=[[vI 1],bB.enc tj]) Q T H9 Fg z116 Q ⟨(cells_one (ah Q)),⟨(aZ (bB.K.one _)),T⟩⟩ Q Q<|sy 3 ?_
  refine .fin<|rg 4 0<|gl 2 [3]<|el H fun tm hag H=>oU 12 [8,0,1,2,3,4,5,6,7,9,10,11] (cL 41) (iC.c hag) ?_
  refine gq 1 ?_
  have H:=H.out
  refine ns 12 [2,3,4,5,6,7,0,1,8,9,10,11] 1 ?_
  exact jn (tm,(⟨1,tj,eE⟩:kR),(⟨a1.fV,te.1.fL,a1.fT,a1.fP,a1.fL,a1.aV⟩:dQ),tg.2.2,a0.aw,a0.bq) H
 refine so<|ce H ?_ ?_ <;> intro H
 ·
  refine wr 12 768<|gl 3 [3,2]<|el H fun tn hah H=>cl Q (cL 42) Q (cR.c hah)<|go 1<|eh Q T Q Q<|eh Q T Q Q<|eh Q T Q Q<|al Q T K8 nofun fun bi=>sy 0 ?_
  refine go 2<|wr 3 4<|gl 2 [0]<|sy 4 ?_
  refine .fin<|wr 9 8<|gl 3 [5,3]<|el H fun tp hai H=>cx 12 [9,0,1,2,3,4,5,6,7,8,10,11] (cL 43) (fJ.c hai (p0_:=p0_2)) nofun fun _ _=>?_
  refine go 1<|eh Q T Q Q<|eh Q T Q Q<|go 2<|WP.seq<|wr 3 0<|go 2<|nQ Q Q Q (xx W4)<|.fin<|ce H ?_ ?_ <;> intro H
  ·
   refine wr 3 2<|gl 1 [5]<|sy 3 ?_
   refine gq 1 ?_
   have H:=H.fU
   cases H.out; exact rt i2 Q () 12 [1,2,3,4,5,6,7,8,9,0,10,11] 6 (.cons (au Q Bz Q GO (ab 3 Q) Q) (.cons (aF Q) .nil))
  refine WP.skip<|wr 4 8<|gl 2 [4]<|Dv.lI (qs:=[vI 2,vS eE,vS eE,vS eE,vB false,vS a2.aa]) (css:=[[vI 2],[vS a2.aa]]) Q T H9 Fg z116 Q ⟨(cells_one (ah Q)),⟨(cells_one (ah Q)),T⟩⟩ Q Q<|sy 2 ?_
  refine .fin<|rg 4 0<|gl 2 [4]<|el H fun tq haj H=>cl Q (cL 44) Q (jt.c haj)<|gq 1 ?_
  have H:=H.out
  refine ns 12 [1,2,3,4,5,6,9,8,7,0,10,11] 1 ?_
  exact jn (tq,(⟨2,(⟨eE,eE,eE,false⟩:bB),a2.aa⟩:kR),(⟨a1.fV,a1.fM,tn.1,a1.fP,a1.fL,a1.aV⟩:dQ),a0.aB,tp.2.2,a0.bq) H
 refine wr 12 768<|gl 3 [3,2]<|el H fun tu hak H=>cl Q (cL 45) Q (db.c hak)<|go 1<|eh Q T Q Q<|eh Q T Q Q<|eh Q T Q Q<|al Q T Kq nofun fun bj=>sy 0 ?_
 refine go 2<|wr 3 4<|gl 2 [0]<|sy 4 ?_
 refine .fin<|wr 9 8<|gl 3 [5,3]<|el H fun tw ham H=>cx 12 [10,0,1,2,3,4,5,6,7,8,9,11] (cL 46) (eI.c ham (p0_:=p0_3)) nofun fun _ _=>?_
 refine go 1<|eh Q T Q Q<|eh Q T Q Q<|go 2<|WP.seq<|wr 3 0<|go 2<|nQ Q Q Q (xx W4)<|.fin<|ce H ?_ ?_ <;> intro H
 ·
  refine wr 3 2<|gl 1 [5]<|sy 3 ?_
  refine gq 1 ?_
  have H:=H.fU
  cases H.out; exact rt i2 Q () 12 [1,2,3,4,5,6,7,8,9,10,0,11] 6 (.cons (au Q Bz Q GO (ab 3 Q) Q) (.cons (aF Q) .nil))
 refine WP.skip<|wr 4 8<|gl 2 [4]<|Dv.lI (qs:=[vI 3,vS eE,vS eE,vS eE,vB false,vS a2.ai]) (css:=[[vI 3],[vS a2.ai]]) Q T H9 Fg z116 Q ⟨(cells_one (ah Q)),⟨(cells_one (ah Q)),T⟩⟩ Q Q<|sy 2 ?_
 refine .fin<|rg 4 0<|gl 2 [4]<|el H fun tx han H=>cl Q (cL 47) Q (jI.c han)<|gq 1 ?_
 have H:=H.out
 refine ns 12 [1,2,3,4,5,6,9,8,7,10,0,11] 1 ?_
 exact jn (tx,(⟨3,(⟨eE,eE,eE,false⟩:bB),a2.ai⟩:kR),(⟨a1.fV,a1.fM,a1.fT,tu.1,a1.fL,a1.aV⟩:dQ),a0.aB,a0.aw,tw.2.2) H
theorem gP.c (h:gP.f k a0=some r):Pt prog 51 [vI a0] (vS r):=by
 refine pf func51 h fun R0 F H=>?_
 refine so<|wr 3 0<|go 1<|el H fun ta haa H=>cl Q (cL 10) Q (aS.c haa)<|go 1<|WP.seq<|so<|ce H ?_ ?_ <;> intro H
 ·
  refine sp ?_
  cases H.out; exact ek 0
 refine WP.skip<|WP.seq<|so<|ce H ?_ ?_ <;> intro H
 ·
  refine sp ?_
  cases H.out; exact ek 0
 refine WP.skip<|wr 3 0<|go 1<|el H fun tc hac H=>cl Q (cL 50) Q (dj.c hac)<|gq 1 ?_
 cases H.out; exact ek 0
theorem kU.c (h:kU.f k a0=some r):Pt prog 12 [agg (ak.enc a0)] (agg (ak.enc r)):=by
 refine pf func12 h fun R0 F H=>?_
 refine wr 2 3<|Dv.box Q T Q cA nofun fun ba=>al Q T vQ nofun fun bc=>.fin<|wd mX 16 49152<|gl 2 [1]<|el H fun ta haa H=>cl Q (cL 10) Q (aS.c haa)<|gl 3 [1]<|el H fun tc hac H=>cl Q (cL 13) Q (fb.c hac)<|gl 2 [1]<|el H fun te had H=>cl Q (cL 10) Q (aS.c had)<|gl 2 [1]<|el H fun tg hae H=>cl Q (cL 10) Q (aS.c hae)<|Dv.lI (qs:=[vI (av (1+ta)),vS eE,vS tc,vS eE,vS eE,vB false,vB false,vI 0,vI 0,vI te,vI tg]) (css:=[[vI (av (1+ta))],[vS tc],[vI te],[vI tg]]) Q T iB Bl uQ Q ⟨(cells_one (ah Q)),⟨(cells_one (ah Q)),⟨(cells_one (ah Q)),⟨(cells_one (ah Q)),T⟩⟩⟩⟩ Q Q<|al Q T vQ pD fun bd=>sv 0 ?_
 refine .fin<|WP.seq<|sL [0]<|WP.block<|so<|ce H ?_ ?_ <;> intro H
 ·
  refine wr 5 16<|gl 2 [2]<|el H fun tj haf H=>cl Q (cL 18) Q (fa.c haf)<|go 1<|sy 0 ?_
  refine .fin<|wd mX 10 512<|gl 2 [2]<|Dv.lens Q T Q W9<|gl 2 [2]<|el H fun tm hag H=>cl Q (cL 10) Q (aS.c hag)<|go 1<|el H fun tn hah H=>cl Q (cL 50) Q (dj.c hah)<|go 1<|sv 0 ?_
  refine .fin<|wr 6 32<|gl 2 [2]<|Dv.lens Q T Q W9<|el H fun tp hai H=>cl Q (cL 51) Q (gP.c hai)<|go 1<|sy 0 ?_
  refine .fin<|rg 4 8<|gl 3 [2]<|sy 0 ?_
  refine .fin<|wr 2 2<|gl 1 [0]<|sy 1 ?_
  refine .fin ?_
  cases H.out; exact r3 i2 Q (.cons (au Q iB Q jh (ab 1 Q) Q) .nil)
 refine so<|cf H ?_ ?_ <;> intro H
 ·
  refine rg 5 16<|gl 2 [2]<|el H fun tq haj H=>cl Q (cL 10) Q (aS.c haj)<|go 1<|sy 0 ?_
  refine .fin<|wr 2 2<|gl 1 [0]<|sy 1 ?_
  refine .fin ?_
  cases H.out; exact r3 i2 Q (.cons (au Q iB Q jh (ab 1 Q) Q) .nil)
 refine wr 5 16<|gl 2 [2]<|el H fun tu hak H=>cl Q (cL 18) Q (fa.c hak)<|go 1<|sy 0 ?_
 refine .fin<|wr 4 8<|gl 3 [2]<|sy 0 ?_
 refine .fin<|sL [2]<|cf H ?_ ?_ <;> intro H
 ·
  refine WP.skip<|wr 2 2<|gl 1 [0]<|sy 1 ?_
  refine .fin ?_
  cases H.out; exact r3 i2 Q (.cons (au Q iB Q jh (ab 1 Q) Q) .nil)
 refine rg 6 32<|gl 2 [2]<|el H fun tw ham H=>cl Q (cL 10) Q (aS.c ham)<|go 2<|sy 0 ?_
 refine .fin<|wr 2 2<|gl 1 [0]<|sy 1 ?_
 refine .fin ?_
 cases H.out; exact r3 i2 Q (.cons (au Q iB Q jh (ab 1 Q) Q) .nil)
theorem slices_DeleteFunc_string_xo.c {X1_:As} {p0_:OV} (h:slices_DeleteFunc_string_xo.f k a0 a1=some r):Tr prog 71 [eq p0_.1,kl X1_ a1] [own aE p0_.1 a0,X1_] (γ:=OV) (fun _=>True) (fun g=>eq g.1) (fun g=>[X1_,own aE g.1 r]):=by
 refine tf func71 h fun R0 F H=>?_
 refine so<|wr 4 0<|go 2<|el H fun ta haa H=>oU 2 [0,1] (cL 137) (az.c haa (p0_:=p0_) (X1_:=X1_)) ?_
 refine go 1<|WP.seq<|so<|ce H ?_ ?_ <;> intro H
 ·
  refine sp ?_
  cases H.out; exact et p0_ 2 [1,0] 0
 refine WP.skip<|sq H id [0] (fun pa=>[(5,vI pa.1)]) (fun pa=>[(0,own aE p0_.1 pa.2.2.2)]) (fun pa H=>?_) (fun H=>?_)
 ·
  refine wr 4 8<|go 2<|gr H fun ga H=>vg (zX 0 Q (List.length_pos_iff.1 (Nat.lt_of_le_of_lt (Nat.zero_le _) ga.2))) fun gb hac=>?_
  refine Dv.wy (o':=gb.2.1+pa.1.toNat*aE.sz) (m':=pa.2.2.2.length-pa.1.toNat) (c':=gb.2.2-pa.1.toNat) Q T ((show opv _ _=some (eq p0_.1) from Q).trans (congrArg (fun z=>some (eq z)) hac.1)) eb W9 c9 (ff Q ga.1) dG (Nat.le_of_lt ga.2) hac.2 (.inl (Nat.lt_of_lt_of_le ga.2 hac.2)) Q Q Q<|Dv.clrw (jj:=0) eE Q T Q eb z9 Q Q (fun u hu=>by simp [Value.cells] at hu; subst hu; rfl) hac.1 Q ga.2 Q nofun<|.fin<|wr 4 4<|go 2<|gr H fun gi H=>Dv.slo (jj:=0) Q T Q Q eb W9 c9 dG (ff Q gi.1) (.inl Q) gi.2.1 gi.2.2 nofun (fun va=>?_)
  refine gq 1 ?_
  cases H.out; exact et va 2 [1,0] 0
 refine so<|WP.block<|ws 2 [0,1] 0 ?_
 refine lq (fun j_ (pc:Int×Int×(List BA))=>slices_DeleteFunc_string_xo.l0 k a1 j_ pc.1 pc.2.1 pc.2.2) (ta,av (ta+1),a0) H [0,1] (fun pc=>[(5,vI pc.1),(6,vI pc.2.1)]) (fun pc=>[(0,own aE p0_.1 pc.2.2)]) ?_
 rintro j_ ⟨xc,xd,xe⟩ H
 rcases j_ with _ | ja
 ·
  exact (aW.no H).elim
 try dsimp only at H
 rw [slices_DeleteFunc_string_xo.l0] at H
 refine WP.seq<|wr 4 0<|go 2<|Dv.kZ Q T Q (ab 0 Q) eb<|go 1<|cf H ?_ ?_ <;> intro H
 ·
  refine WP.exit ?_
  have H:=H.out
  exact jn (xc,xd,decide (xd<(xe.length:Int)),xe) H
 refine WP.skip<|WP.seq<|WP.block<|wr 5 0<|go 2<|gr H fun gj H=>?_
 have had:xd.toNat<xe.length:=bC gj
 refine Dv.kQ Q T Q (ab 0 Q) Q eb W9 c9 gj.1 gj.2<|Dv.oZ (j:=xd.toNat) (f:=0) (p:=vS (xe.getD xd.toNat default)) Q T Q (ab 0 Q) had W9 Q Q<|go 1<|wr 4 0<|go 2<|el H fun tc hae H=>Dv.BN (ret:=vB tc) (X:=X1_) (F:=[own aE p0_.1 xe]++F) Q T Q Q ⟨_,_,hae,Q,Q⟩ (my (L:=[own aE p0_.1 xe,X1_]) (F:=F) [1,0] Q Q Q)<|go 1<|cf H ?_ ?_ <;> intro H
 ·
  exact WP.skip<|rg 3 0<|go 3<|bk ja (xc,av (xd+1),xe) H
 refine wr 5 16<|go 3<|gr H fun gk H=>?_
 have haf:xc.toNat<xe.length:=bC gk
 exact Dv.kQ Q T Q (ab 0 Q) Q eb W9 c9 gk.1 gk.2<|Dv.IZ (j:=xc.toNat) (f:=0) (jj:=0) (xe.getD xd.toNat default) Q T Q Q (cells_one (ah Q)) W9 c9 Q Q haf (Nat.le_of_ble_eq_true Q) Q nofun<|.fin<|rg 3 0<|go 3<|rg 3 0<|go 3<|bk ja (av (xc+1),av (xd+1),xe.set xc.toNat (xe.getD xd.toNat default)) H
theorem eJ.c {v0_0 v0_1:OV} {b0_:Nat} (h:eJ.f k a0 a1 a2 a3=some r):Tr prog 138 [eW b0_,vS a1,vS a2,vI a3] [aJ b0_ 190 [eq v0_0.1,eq v0_1.1],own ak.K v0_0.1 a0.fl] (γ:=Unit) (fun _=>True) (fun g=>vB r) (fun g=>[aJ b0_ 190 [eq v0_0.1,eq v0_1.1],own ak.K v0_0.1 a0.fl]):=by
 refine tf func138 h fun R0 F H=>?_
 refine so<|wr 10 0<|go 3<|Dv.lI (qs:=[vI 0,vS a1,vS a2,vS eE,vS eE,vB false,vB false,vI 0,vI 0,vI 0,vI 0]) (css:=[[vS a1],[vS a2]]) Q T iB Bl uQ Q ⟨(cells_one (ah Q)),⟨(cells_one (ah Q)),T⟩⟩ Q Q<|el H fun ta haa H=>oU 2 [0,1] (cL 106) (dS.c haa (b0_:=b0_) (v0_0:=v0_0) (v0_1:=v0_1)) ?_
 refine go 1<|eh Q T Q Q<|eh Q T Q Q<|go 2<|wr 24 0<|gp 2 ?_
 cases cc:ta.2
 ·
  have H:=H.cf cc
  refine gq 22 ?_
  cases H.out; exact et () 2 [0,1] 0
 have H:=H.ct cc
 refine gl 5 [0]<|gr H fun ga H=>?_
 have hac:ta.1.toNat<a0.fl.length:=bC ga
 refine Dv.kQ Q (gg Q) Q (ab 1 Q) Q fS iB jh ga.1 ga.2<|fw Q (gg Q) Q Lb<|Dv.oZ (j:=ta.1.toNat) (f:=6) (p:=vB ((a0.fl.getD ta.1.toNat default).j8)) Q (gg Q) Q (ab 1 Q) hac W4 Q Q<|gp 2 ?_
 cases cg:(a0.fl.getD ta.1.toNat default).j8
 ·
  have H:=H.cf cg
  refine gq 12 ?_
  cases H.out; exact et () 2 [0,1] 0
 have H:=H.ct cg
 refine gl 6 [0]<|gr H fun gb H=>?_
 have had:ta.1.toNat<a0.fl.length:=bC gb
 refine Dv.kQ Q (gg Q) Q (ab 1 Q) Q fS iB jh gb.1 gb.2<|Dv.pM (j:=ta.1.toNat) (f:=0) Q (gg Q) Q (ab 1 Q) had iB Q jh (Nat.le_of_ble_eq_true Q)<|el H fun tc hae H=>Dv.call Q (gg Q) (cL 111) Q (jK.c hae)<|gq 3 ?_
 cases H.out; exact et () 2 [0,1] 0
theorem aR.c {v0_0 v0_1:OV} {b0_:Nat} (h:aR.f k a0 a1 a2=some r):Tr prog 72 [eW b0_,vS a1,vI a2] [aJ b0_ 190 [eq v0_0.1,eq v0_1.1],own ak.K v0_0.1 a0.fl] (γ:=OV) (fun _=>True) (fun g=>eq g.1) (fun g=>[aJ b0_ 190 [eq v0_0.1,eq v0_1.1],own ak.K v0_0.1 a0.fl,own aE g.1 r]):=by
 refine tf func72 h fun R0 F H=>?_
 refine so<|so<|wr 3 0<|go 1<|Dv.mkc (fst:=#[.pointer (some ⟨b0_,0,none⟩)]) Q T Q<|go 1<|WP.lG H (fun qh:(Int×Bool×(List BA))×OV=>qh.1) (fun qh=>[(7,eq qh.2.1)]) (fun qh=>[aJ b0_ 190 [eq v0_0.1,eq v0_1.1],own ak.K v0_0.1 a0.fl,own aE qh.2.1 qh.1.2.2]++F) (fun qh H=>?_) (fun H=>?_)
 ·
  obtain ⟨pa,va⟩:=qh
  refine sp ?_
  cases H.out; exact et va 3 [0,1,2] 0
 refine wr 6 0<|gl 4 [0]<|Dv.kZ Q T Q (ab 1 Q) fS<|go 1<|WP.block<|wg (eK aE none) fun _ _=>?_
 refine ws 3 [1,2,0] 0 ?_
 refine lq (fun j_ (pc:Int×(List BA)×OV)=>aR.l0 k a0 a1 a2 j_ pc.1 pc.2.1) (0,([]:List BA),lM) H [1,2,8,16,17] (fun pc=>[(7,eq pc.2.2.1),(18,vI pc.1)]) (fun pc=>[(2,own aE pc.2.2.1 pc.2.1)]) ?_
 rintro j_ ⟨xc,xd,vb⟩ H
 rcases j_ with _ | ja
 ·
  exact (aW.no H).elim
 try dsimp only at H
 rw [aR.l0] at H
 refine so<|WP.seq<|cf H ?_ ?_ <;> intro H
 ·
  refine WP.exit ?_
  have H:=H.out
  exact jn ((xc,decide (xc<(a0.fl.length:Int)),xd),vb) H
 refine WP.skip<|WP.seq<|WP.block<|wr 4 12<|gr H fun ga H=>?_
 have haa:xc.toNat<a0.fl.length:=bC ga
 refine Dv.kQ Q T Q (ab 1 Q) Q fS iB jh ga.1 ga.2<|Dv.pM (j:=xc.toNat) (f:=0) Q T Q (ab 1 Q) haa iB Q jh (Nat.le_of_ble_eq_true Q)<|al Q T vQ nofun fun ba=>sy 0 ?_
 refine .fin<|wr 12 0<|lx 5 [0] ?_
 cases cc:decide (((a0.fl.getD xc.toNat default).aa)=a1)
 ·
  have H:=H.cf cc
  refine go 7<|WP.cond Q nofun (fun _=>?_)
  refine WP.skip<|rg 2 0<|go 2<|ns 4 [0,1,2,3] 1 ?_
  exact bk ja (av (xc+1),xd,vb) H
 have H:=H.ct cc
 refine gl 5 [0]<|el H fun ta hac H=>Dv.EO (fst:=#[.pointer (some ⟨b0_,0,none⟩)]) (B:=[aJ b0_ 190 [eq v0_0.1,eq v0_1.1],own ak.K v0_0.1 a0.fl]) (F:=[aJ ba 52 (ak.enc (a0.fl.getD xc.toNat default)),own aE vb.1 xd]++F) Q (gg Q) Q (cL 138) Q (eJ.c hac (b0_:=b0_) (v0_0:=v0_0) (v0_1:=v0_1)) (my (L:=[aJ ba 52 (ak.enc (a0.fl.getD xc.toNat default)),aJ b0_ 190 [eq v0_0.1,eq v0_1.1],own ak.K v0_0.1 a0.fl,own aE vb.1 xd]) (F:=F) [1,2,0,3] Q Q Q)<|go 1<|cf H ?_ ?_ <;> intro H
 ·
  refine WP.skip<|rg 2 0<|go 2<|ns 4 [0,1,2,3] 1 ?_
  exact bk ja (av (xc+1),xd,vb) H
 refine rg 6 16<|gl 3 [0]<|Dv.lit aE ([(a0.fl.getD xc.toNat default).ai]:List BA) (css:=[[vS ((a0.fl.getD xc.toNat default).ai)]]) Q T eb W9 c9 z9 Q dc dc Q ⟨(cells_one (ah Q)),T⟩ Q Q Q<|gr H fun gb H=>ap aE 3 ([(a0.fl.getD xc.toNat default).ai]:List BA) bQ eb (.inr ⟨_,eb⟩) zE gb nofun fun vd=>?_
 refine go 1<|rg 2 0<|go 2<|ns 4 [0,1,2,3] 1 ?_
 exact bk ja (av (xc+1),xd++([(a0.fl.getD xc.toNat default).ai]:List BA),vd) H
theorem Ls (x y:Pos):iz.f 8 x y=some (gX x y):=by
 unfold iz.f cB.f aC.f cmp_isNaN_int.f cmp_isNaN_string.f bD.f gX jV
 simp only [Option.bind_some,bne_self_eq_false,decide_true,Bool.not_true,cond_false]
 rcases Int.lt_trichotomy x.bp y.bp with h | h | h
 ·
  have h2:¬ y.bp<x.bp:=om
  simp only [h,decide_true,cond_true,Option.bind_some,if_true]
  cases dI x.bS y.bS <;> cases dI y.bS x.bS <;> rfl
 rotate_left
 ·
  have h1:¬ x.bp<y.bp:=om
  simp only [h,h1,decide_true,decide_false,cond_true,cond_false,Option.bind_some,if_true,if_false]
  cases dI x.bS y.bS <;> cases dI y.bS x.bS <;> rfl
 have h1:¬ x.bp<y.bp:=om
 have h2:¬ y.bp<x.bp:=om
 simp only [h1,h2,decide_false,cond_false,Option.bind_some,if_false]
 cases dI x.bS y.bS <;> cases dI y.bS x.bS <;> rfl
theorem yU (x y:Pos):ltOf gX x y=true↔x.bp<y.bp∨(x.bp=y.bp∧dI x.bS y.bS=true):=by
 unfold ltOf gX
 rw [decide_eq_true_eq]
 by_cases h:x.bp<y.bp
 ·
  simp [h]
 by_cases h2:y.bp<x.bp
 ·
  rw [if_neg h,if_pos h2]; constructor
  ·
   intro k; omega
  rintro (k | ⟨k,_⟩) <;> omega
 rw [if_neg h,if_neg h2,np]; constructor
 ·
  intro k; exact .inr ⟨om,k⟩
 rintro (k | ⟨_,k⟩)
 ·
  omega
 exact k
theorem vC (x y:Pos):ltOf gX x y=false↔y.bp<x.bp∨(x.bp=y.bp∧dI x.bS y.bS=false):=by
  have h:=yU x y
  cases e:ltOf gX x y with
  | true=>
    have h:=h.1 e
    refine ⟨fun k=>(by cases k),fun k=>?_⟩
    rcases h with h | ⟨h1,h2⟩ <;> rcases k with k | ⟨k1,k2⟩
    · omega
    · omega
    · omega
    · rw [h2] at k2; cases k2
  | false=>
    refine ⟨fun _=>?_,fun _=>Q⟩
    rw [e] at h
    have h:¬ _:=fun k=>by have:=h.2 k; cases this
    rcases Int.lt_trichotomy x.bp y.bp with k | k | k
    · exact (h (.inl k)).elim
    · cases e2:dI x.bS y.bS with
      | true=>exact (h (.inr ⟨k,e2⟩)).elim
      | false=>exact .inr ⟨k,rfl⟩
    · exact .inl k
theorem qm:Go.Sort.SWO (ltOf gX) where
  irrefl x:=by rw [vC]; exact .inr ⟨rfl,iQ _⟩
  trans x y z h1 h2:=by
    rw [yU] at *
    rcases h1 with h1 | ⟨h1,k1⟩ <;> rcases h2 with h2 | ⟨h2,k2⟩
    · exact .inl om
    · exact .inl om
    · exact .inl om
    · exact .inr ⟨om,mh k1 k2⟩
  ntrans x y z h1 h2:=by
    rw [vC] at *
    rcases h1 with h1 | ⟨h1,k1⟩ <;> rcases h2 with h2 | ⟨h2,k2⟩
    · exact .inl om
    · exact .inl om
    · exact .inl om
    · exact .inr ⟨om,o4 k2 k1⟩
theorem rA (x y:Pos) (h1:ltOf gX x y=false) (h2:ltOf gX y x=false):x=y:=by
 rw [vC] at *
 rcases h1 with h1 | ⟨h1,k1⟩ <;> rcases h2 with h2 | ⟨h2,k2⟩
 ·
  omega
 ·
  omega
 ·
  omega
 obtain ⟨a,b⟩:=x; obtain ⟨c,d⟩:=y
 simp only at h1 k1 k2
 rw [h1,lf k1 k2]
theorem dK.c {p0_:OV} (h:dK.f a0=some r):Tr prog 285 [eq p0_.1,eq (.func (.func 161) #[] #[])] [own Pos.K p0_.1 a0] (γ:=Unit) (fun _=>True) (fun g=>lr []) (fun g=>[own Pos.K p0_.1 r]):=by
 unfold dK.f at h
 obtain ⟨h0,h5⟩:=(aW.of h).an
 obtain rfl:=aW.out h5
 exact F5 (K:=Pos.K) (ev:=fun x=>[.int .i64 x.bp,.string x.bS]) (fun _=>Q) dc (fun x y=>iz.c (Ls x y)) (fun aJ off cap d w hc hH hb hs=>AnyQ.slices_SortFunc_total Tryz.lays6 2 Tryz.isAgg81 Tryz.sizeOf81 _ (fun _=>Q) (fun x v hv=>by simp at hv; rcases hv with rfl | rfl <;> rfl) gX qm 161 #[] aJ off cap d w (enters_of func161 kr Q) hc hH hb hs rA) (fun q cap w=>AnyF.slices_SortFunc_none Tryz.lays6 q cap _ w) om
theorem ou.c {b0_:Nat} (h:ou.f a0=some r):Tr prog 271 [eW b0_] [aJ b0_ 268 [vS a0.fe.bS,vS a0.fe.aa,sl aE a0.fe.ag,vS a0.fe.ae,vS a0.fe.ai,vI a0.fe.bO,vI a0.cM,vB a0.kF]] (γ:=Unit) (fun _=>True) (fun g=>vB r) (fun g=>[aJ b0_ 268 [vS a0.fe.bS,vS a0.fe.aa,sl aE a0.fe.ag,vS a0.fe.ae,vS a0.fe.ai,vI a0.fe.bO,vI a0.cM,vB a0.kF]]):=by
 refine tf func271 h fun R0 F H=>?_
 refine so<|sp ?_
 cases H.out; exact et () 1 [0] 0
theorem aG.c {b0_:Nat} {v0_0:OV} (h:aG.f a0=some r):Tr prog 270 [eW b0_,eq (.func (.func 271) #[] #[])] [aJ b0_ 265 [vS a0.cO,eq v0_0.1],kK Value.string aX.O v0_0.1 a0.aq] (γ:=OV) (fun _=>True) (fun g=>eq g.1) (fun g=>[aJ b0_ 265 [vS a0.cO,eq v0_0.1],kK Value.string aX.O v0_0.1 a0.aq,own aE g.1 r]):=by
  unfold aG.f at h
  obtain ⟨h0,h5⟩:=(aW.of h).an
  obtain rfl:=aW.out h5
  clear h h5
  refine Tr.body func270 (c:=_) Q ntmps270 (Nat.le_of_ble_eq_true Q) fun R0 F=>?_
  refine so<|sp ?_
  refine WP.Ft (β:=List Nat×OV) (fun b=>b.1.Perm (List.range a0.aq.length)) (fun b=>[(5,eq b.2.1),(1,eq (.func (.func 271) #[] #[]))]) (fun b=>[own Pos.K b.2.1 (kS a0.aq aG.g b.1),kK Value.string aX.O v0_0.1 a0.aq,aJ b0_ 265 [vS a0.cO,eq v0_0.1]]++F) (fun b hb=>?_) ?_
  rotate_left
  · refine wr 5 16<|lx 4 [0] ?_
    refine Dv.gh (l':=fun ps:List OV=>[mp Value.string (fun p:OV=>eq p.1) v0_0.1 (cW a0.aq ps),q7 aX.O a0.aq ps,aJ b0_ 265 [vS a0.cO,eq v0_0.1]]++F) (iZ (mI 1 Q)) (fun ps hps=>?_)
    refine Dv.rgb (jj:=0) Q T Q Q wB nofun (fun q=>.fin ?_)
    refine WP.gh (l':=fun _:Unit=>[tO Value.string (fun p:OV=>eq p.1) v0_0.1 q.1 (cW a0.aq ps) [],q7 aX.O a0.aq ps,aJ b0_ 265 [vS a0.cO,eq v0_0.1]]++F) (iZ (ok:=fun _=>True) fun R w k=>⟨(),T,k⟩) (fun _ _=>?_)
    refine WP.gh (l':=fun _:Unit=>[own Pos.K lM.1 [],tO Value.string (fun p:OV=>eq p.1) v0_0.1 q.1 (cW a0.aq ps) [],q7 aX.O a0.aq ps,aJ b0_ 265 [vS a0.cO,eq v0_0.1]]++F) (iZ (eK Pos.K none)) (fun _ _=>?_)
    refine WP.block ?_
    refine WP.jZ (E':=(fun b:List Nat×OV=>[(5,eq b.2.1),(15,eq q.1),(1,eq (.func (.func 271) #[] #[]))]) ([],lM)) (cU Q (cU Q (cU Q jN))) (WP.loop (β:=List Nat×OV) (fun k b=>b.1.length+k=a0.aq.length) (fun b=>[(5,eq b.2.1),(15,eq q.1),(1,eq (.func (.func 271) #[] #[]))]) (fun b=>[own Pos.K b.2.1 (kS a0.aq aG.g b.1),tO Value.string (fun p:OV=>eq p.1) v0_0.1 q.1 (cW a0.aq ps) b.1,q7 aX.O a0.aq ps,aJ b0_ 265 [vS a0.cO,eq v0_0.1]]++F) ?_ (k:=a0.aq.length) (b:=([],lM)) (Nat.zero_add _))
    rintro k ⟨is,v⟩ hk
    replace hk:is.length+k=a0.aq.length:=hk
    refine wr 2 1<|Dv.rgn (jj:=1) Q T Q Q nofun (fun z hz=>?_)
    rcases z with _ | j
    · have hz:is.Perm (List.range (cW a0.aq ps).length):=hz
      rw [qq hps.1] at hz
      refine eh Q T Q Q<|.fin<|WP.seq<|WP.cond Q nofun (fun _=>WP.exit ?_)
      refine Dn.gh (l':=fun _:Unit=>[own Pos.K v.1 (kS a0.aq aG.g is),tO Value.string (fun p:OV=>eq p.1) v0_0.1 q.1 (cW a0.aq ps) is,q7 aX.O a0.aq ps,aJ b0_ 265 [vS a0.cO,eq v0_0.1]]++F) (iZ (ok:=fun _=>True) fun R w k=>⟨(),T,k⟩) (fun _ _=>?_)
      refine Dn.gh (l':=fun _:Unit=>[mp Value.string (fun p:OV=>eq p.1) v0_0.1 (cW a0.aq ps),own Pos.K v.1 (kS a0.aq aG.g is),q7 aX.O a0.aq ps,aJ b0_ 265 [vS a0.cO,eq v0_0.1]]++F) (iZ (FO (pm 4 [1,0,2,3]))) (fun _ _=>?_)
      refine Dn.gh (l':=fun _:Unit=>[kK Value.string aX.O v0_0.1 a0.aq,own Pos.K v.1 (kS a0.aq aG.g is),aJ b0_ 265 [vS a0.cO,eq v0_0.1]]++F) (iZ (iA hps Q (pm 4 [0,2,1,3]))) (fun _ _=>?_)
      exact Jn.mk (is,v) hz (cU Q (cU Q jN)) (oJ 3 [1,0,2] kr Q Q)
    have hz:j<(cW a0.aq ps).length∧j ∉ is∧is.length<(cW a0.aq ps).length:=hz
    obtain ⟨e,p,he,hp,hep⟩:=zQ hps hz.1
    have hlt:is.length<a0.aq.length:=by rw [← qq hps.1]; exact hz.2.2
    have hsl:=Nat.le_trans (zH (m:=a0.aq) (f:=aG.g) (is:=is)) (Nat.le_of_lt hlt)
    have e1:nxV Value.string (fun p:OV=>eq p.1) (cW a0.aq ps) (some j)=lr [vB true,vS e.1,eq p.1]:=by simp only [nxV,hep]
    rw [e1]
    refine eh Q T Q Q<|.fin<|WP.seq<|WP.cond Q (fun _=>WP.skip ?_) nofun
    refine WP.gh (l':=fun _:Unit=>[own Pos.K v.1 (kS a0.aq aG.g is),tO Value.string (fun p:OV=>eq p.1) v0_0.1 q.1 (cW a0.aq ps) (is++[j]),q7 aX.O a0.aq ps,aJ b0_ 265 [vS a0.cO,eq v0_0.1]]++F) (iZ (ok:=fun _=>True) fun R w k=>⟨(),T,k⟩) (fun _ _=>?_)
    refine WP.block<|wr 5 0<|Dv.rge 1 Q T Q Q hep ?_
    refine eh Q T Q Q<|eh Q T Q Q<|gq 2 ?_
    refine WP.gh (l':=fun _:Unit=>[aX.O p e.2,DF aX.O a0.aq ps j,own Pos.K v.1 (kS a0.aq aG.g is),tO Value.string (fun p:OV=>eq p.1) v0_0.1 q.1 (cW a0.aq ps) (is++[j]),aJ b0_ 265 [vS a0.cO,eq v0_0.1]]++F) (iZ (HF he hp (pm 4 [2,0,1,3]))) (fun _ _=>?_)
    refine WP.gh (l':=fun b:Nat=>[aJ b 268 [vS e.2.fe.bS,vS e.2.fe.aa,sl aE e.2.fe.ag,vS e.2.fe.ae,vS e.2.fe.ai,vI e.2.fe.bO,vI e.2.cM,vB e.2.kF],DF aX.O a0.aq ps j,own Pos.K v.1 (kS a0.aq aG.g is),tO Value.string (fun p:OV=>eq p.1) v0_0.1 q.1 (cW a0.aq ps) (is++[j]),aJ b0_ 265 [vS a0.cO,eq v0_0.1]]++F) (iZ (aX.iU 0 Q)) (fun b hb=>?_)
    refine wr 3 0<|go 2<|Dv.EO (fst:=#[]) (B:=[aJ b 268 [vS e.2.fe.bS,vS e.2.fe.aa,sl aE e.2.fe.ag,vS e.2.fe.ae,vS e.2.fe.ai,vI e.2.fe.bO,vI e.2.cM,vB e.2.kF]]) (F:=[DF aX.O a0.aq ps j,own Pos.K v.1 (kS a0.aq aG.g is),tO Value.string (fun p:OV=>eq p.1) v0_0.1 q.1 (cW a0.aq ps) (is++[j]),aJ b0_ 265 [vS a0.cO,eq v0_0.1]]++F) Q T Q (cL 271) Q (Tr.jZ (ou.c (a0:=e.2) (b0_:=b) (r:=true) Q) (.cons (iM hb) .nil)) (List.Perm.refl _)<|.fin ?_
    refine WP.cond Q (fun c1=>?_) (fun c1=>?_)
    · have hg:aG.g e=some ⟨e.2.cM,e.1⟩:=by unfold aG.g; rw [c1]; rfl
      have e6:=wW (f:=aG.g) (is:=is) he hg
      have hbd:(kS a0.aq aG.g is).length+([⟨e.2.cM,e.1⟩]:List Pos).length≤9223372036854775807∧((kS a0.aq aG.g is).length+([⟨e.2.cM,e.1⟩]:List Pos).length)*24≤140737488355328:=by rw [List.length_singleton]; omega
      refine rg 10 256<|go 2<|Dv.bW hb Q T Q<|fp hb Q T Q yo<|gl 2 [0]<|Dv.lI (css:=[[vI e.2.cM],[vS e.1]]) Q T tR FF HK Q ⟨(cells_one (ah Q)),⟨(cells_one (ah Q)),T⟩⟩ Q Q<|Dv.lit Pos.K ([⟨e.2.cM,e.1⟩]:List Pos) (css:=[[vI e.2.cM,vS e.1]]) Q T GB tR xR HK Q dc dc Q ⟨cA,T⟩ Q Q Q<|ap Pos.K 2 ([⟨e.2.cM,e.1⟩]:List Pos) bQ GB (.inr ⟨_,GB⟩) inf81 hbd nofun fun v9=>go 1 ?_
      refine Dn.gh (l':=fun _:Unit=>[aX.O p e.2,DF aX.O a0.aq ps j,own Pos.K v9.1 ((kS a0.aq aG.g is)++([⟨e.2.cM,e.1⟩]:List Pos)),tO Value.string (fun p:OV=>eq p.1) v0_0.1 q.1 (cW a0.aq ps) (is++[j]),aJ b0_ 265 [vS a0.cO,eq v0_0.1]]++F) (iZ (aX.shut (p:=p) (m:=e.2) b hb (List.Perm.refl _))) (fun _ _=>?_)
      refine Dn.gh (l':=fun _:Unit=>[q7 aX.O a0.aq ps,own Pos.K v9.1 ((kS a0.aq aG.g is)++([⟨e.2.cM,e.1⟩]:List Pos)),tO Value.string (fun p:OV=>eq p.1) v0_0.1 q.1 (cW a0.aq ps) (is++[j]),aJ b0_ 265 [vS a0.cO,eq v0_0.1]]++F) (iZ (H8 he hp (List.Perm.refl _))) (fun _ _=>?_)
      rw [e6]
      exact wu.mk (k-1) (is++[j],v9) om (by show (is++[j]).length+(k-1)=_; rw [List.length_append,List.length_singleton]; omega) (cU Q (cU Q (cU Q jN))) (oJ 4 [1,2,0,3] kr Q Q)
    cases c1
  obtain ⟨is,v5⟩:=b
  replace hb:is.Perm (List.range a0.aq.length):=hb
  have hp:=wL (f:=aG.g) hb
  have hs:dK.f (kS a0.aq aG.g is)=some (kV gX (a0.aq.filterMap aG.g)):=by
    unfold dK.f Sp.an
    rw [if_pos (by rw [hp.length_eq]; exact Nat.le_trans (List.length_filterMap_le _ _) h0),Dt qm rA hp]
  have hS:(kV gX (a0.aq.filterMap aG.g)).length≤1000000:=by unfold kV; rw [List.length_mergeSort]; exact Nat.le_trans (List.length_filterMap_le _ _) h0
  refine wr 2 2<|go 1<|cx 3 [0,1,2] (cL 285) (dK.c hs (p0_:=v5)) nofun fun _ _=>.fin ?_
  generalize kV gX (a0.aq.filterMap aG.g)=S at hS
  refine sp ?_
  refine WP.Ft (β:=OV) (fun _=>True) (fun v=>[(8,eq v.1)]) (fun v=>[own aE v.1 (S.map (·.bS)),own Pos.K v5.1 S,kK Value.string aX.O v0_0.1 a0.aq,aJ b0_ 265 [vS a0.cO,eq v0_0.1]]++F) (fun v _=>?_) ?_
  · refine so<|rt i2 Q v 4 [1,3,2,0] 1 (.cons (aF Q) .nil)
  refine wr 3 0<|go 1<|Dv.kZ (Kd:=Pos.K) (xs:=S) (v:=v5.1) Q T Q (ab 0 Q) GB<|gq 1 ?_
  refine WP.gh (l':=fun _:Unit=>[own aE lM.1 [],own Pos.K v5.1 S,kK Value.string aX.O v0_0.1 a0.aq,aJ b0_ 265 [vS a0.cO,eq v0_0.1]]++F) (iZ (eK aE none)) (fun _ _=>?_)
  refine WP.block ?_
  refine WP.jZ (E':=(fun b:Nat×OV=>[(8,eq b.2.1),(35,eq v5.1),(36,vI (S.length:Int)),(37,vI (b.1:Int))]) (0,lM)) (cU Q (cU Q (cU Q (cU Q jN)))) (WP.loop (β:=Nat×OV) (fun k b=>b.1+k=S.length) (fun b=>[(8,eq b.2.1),(35,eq v5.1),(36,vI (S.length:Int)),(37,vI (b.1:Int))]) (fun b=>[own aE b.2.1 ((S.take b.1).map (·.bS)),own Pos.K v5.1 S,kK Value.string aX.O v0_0.1 a0.aq,aJ b0_ 265 [vS a0.cO,eq v0_0.1]]++F) ?_ (k:=S.length) (b:=(0,lM)) (Nat.zero_add _))
  rintro k ⟨j,v8⟩ hk
  replace hk:j+k=S.length:=hk
  refine so<|WP.seq<|WP.cond Q (fun c2=>WP.skip ?_) (fun c2=>WP.exit ?_)
  rotate_left
  · have c3:¬ ((j:Int)<(S.length:Int)):=of_decide_eq_false c2
    have e3:S.take j=S:=List.take_of_length_le om
    change ∀ R a w,R0.le R→nm _ R a _→St R ([own aE v8.1 ((S.take j).map (·.bS)),own Pos.K v5.1 S,kK Value.string aX.O v0_0.1 a0.aq,aJ b0_ 265 [vS a0.cO,eq v0_0.1]]++F) w→_
    rw [e3]
    exact Jn.mk v8 T (cU Q jN) (List.Perm.refl _)
  have c3:(j:Int)<(S.length:Int):=of_decide_eq_true c2
  have hj:j<S.length:=om
  refine WP.seq<|WP.block<|wr 4 12<|Dv.kQ Q T Q (ab 1 Q) Q GB tR xR om c3<|Dv.pM (j:=j) (f:=0) Q T Q (ab 1 Q) hj tR Q xR (Nat.le_of_ble_eq_true Q)<|al Q T tP nofun fun b=>sx 0 Q T Q Q cA Fm Q Q Q nofun<|.fin ?_
  have hbd:((S.take j).map (·.bS)).length+([(S.getD j default).bS]:List BA).length≤9223372036854775807∧(((S.take j).map (·.bS)).length+([(S.getD j default).bS]:List BA).length)*16≤140737488355328:=by rw [List.length_singleton,List.length_map,List.length_take]; omega
  refine rg 6 16<|gl 3 [0]<|Dv.lit aE ([(S.getD j default).bS]:List BA) (css:=[[vS ((S.getD j default).bS)]]) Q T eb W9 c9 z9 Q dc dc Q ⟨(cells_one (ah Q)),T⟩ Q Q Q<|ap aE 1 ([(S.getD j default).bS]:List BA) bQ eb (.inr ⟨_,eb⟩) zE hbd nofun fun v9=>go 1 ?_
  refine WP.gh (l':=fun _:Unit=>[own aE v9.1 ((S.take j).map (·.bS)++([(S.getD j default).bS]:List BA)),own Pos.K v5.1 S,kK Value.string aX.O v0_0.1 a0.aq,aJ b0_ 265 [vS a0.cO,eq v0_0.1]]++F) (iZ (uz 5 [0,1,2,3,4] 1 kr Q Q)) (fun _ _=>?_)
  have e4:(S.take j).map (·.bS)++([(S.getD j default).bS]:List BA)=(S.take (j+1)).map (·.bS):=by rw [List.take_add_one,List.map_append,gD,gE hj]; rfl
  rw [e4]
  refine rg 2 0<|nQ Q Q Q (nW (a:=j) (b:=1) om)<|gq 1 ?_
  exact wu.mk (k-1) (j+1,v9) om (by show j+1+(k-1)=S.length; omega) (cU Q (cU Q (cU Q (cU Q jN)))) (List.Perm.refl _)
theorem dag_Dag_All.c {v0_0:OV} {b0_:Nat} (h:dag_Dag_All.f k a0=some r):Tr prog 241 [eW b0_] [aJ b0_ 265 [vS a0.cO,eq v0_0.1],kK Value.string aX.O v0_0.1 a0.aq] (γ:=OV) (fun _=>True) (fun g=>eq g.1) (fun g=>[aJ b0_ 265 [vS a0.cO,eq v0_0.1],kK Value.string aX.O v0_0.1 a0.aq,own Event.K g.1 r]):=by
 refine tf func241 h fun R0 F H=>?_
 refine so<|so<|WP.lG H (fun qh:(Int×Int×Bool×(List Event)×(List BA))×OV×OV=>qh.1) (fun qh=>[(3,eq qh.2.1.1)]) (fun qh=>[aJ b0_ 265 [vS a0.cO,eq v0_0.1],kK Value.string aX.O v0_0.1 a0.aq,own Event.K qh.2.1.1 qh.1.2.2.2.1,own aE qh.2.2.1 qh.1.2.2.2.2]++F) (fun qh H=>?_) (fun H=>?_)
 ·
  obtain ⟨pa,va,vb⟩:=qh
  refine sp ?_
  cases H.out; exact et va 4 [3,0,1,2] 1
 refine wr 4 2<|go 1<|el H fun ta haa H=>cx 2 [0,1] (cL 270) (aG.c haa (b0_:=b0_) (v0_0:=v0_0)) nofun fun ga _=>?_
 refine Dv.kZ Q T Q (ab 2 Q) eb<|go 1<|WP.block<|wg (eK Event.K none) fun _ _=>?_
 refine ws 4 [1,2,3,0] 0 ?_
 refine lq (fun j_ (pc:Int×(List Event)×OV)=>dag_Dag_All.l0 k a0 ta j_ pc.1 pc.2.1) (0,([]:List Event),lM) H [0,7,8] (fun pc=>[(3,eq pc.2.2.1),(9,vI pc.1)]) (fun pc=>[(3,own Event.K pc.2.2.1 pc.2.1)]) ?_
 rintro j_ ⟨xc,xd,vd⟩ H
 rcases j_ with _ | ja
 ·
  exact (aW.no H).elim
 try dsimp only at H
 rw [dag_Dag_All.l0] at H
 refine so<|WP.seq<|cf H ?_ ?_ <;> intro H
 ·
  refine WP.exit ?_
  have H:=H.out
  refine ns 4 [0,1,3,2] 0 ?_
  exact jn (((ta.length:Int),xc,decide (xc<(ta.length:Int)),xd,ta),vd,ga) H
 refine WP.skip<|WP.seq<|WP.block<|wr 3 0<|gr H fun gb H=>?_
 have hac:xc.toNat<ta.length:=bC gb
 refine Dv.kQ Q T Q (ab 2 Q) Q eb W9 c9 gb.1 gb.2<|Dv.oZ (j:=xc.toNat) (f:=0) (p:=vS (ta.getD xc.toNat default)) Q T Q (ab 2 Q) hac W9 Q Q<|go 1<|rg 14 4096<|gl 6 [0]<|vg (mI 1 Q) fun za had=>?_
 refine Dv.EE ji Q T Q (ab 0 Q) Q wB (dR W9) Bm (fun _=>Q)<|gr H fun gi H=>vg (qP had Q gi (pm 5 [1,0,2,3,4])) fun _ _=>?_
 refine Dv.qz aX.nn Q T Q (ab 0 Q)<|vg (aX.iU 0 Q) fun gj hae=>?_
 refine fp hae Q T Q ud<|gl 1 [0]<|el H fun tc haf H=>cl Q (cL 146) Q (iK.c haf)<|Dv.lit Event.K ([tc]:List Event) (css:=[Event.enc tc]) Q T rR mZ pG Ga Q dc dc Q ⟨(aZ (Event.K.one _)),T⟩ Q Q Q<|gr H fun gk H=>ap Event.K 5 ([tc]:List Event) bQ rR (.inr ⟨_,rR⟩) vP gk nofun fun ve=>?_
 refine go 1<|rg 2 0<|go 2<|ng (aX.shut (p:=((mget (cW a0.aq za) (ta.getD xc.toNat default)).getD ji)) (m:=(mget a0.aq (ta.getD xc.toNat default)).getD default) gj hae (pm 6 [0,1,2,3,4,5])) fun _ _=>?_
 refine ng (oL had Q gi (pm 6 [0,1,2,3,4,5])) fun _ _=>?_
 refine ng (iA had Q (pm 5 [1,0,2,3,4])) fun _ _=>?_
 refine ns 4 [1,0,2,3] 0 ?_
 exact bk ja (av (xc+1),xd++([tc]:List Event),ve) H
theorem member_joined.c {v0_0:OV} {b0_:Nat} (h:member_joined.f k a0=some r):Tr prog 180 [eW b0_] [aJ b0_ 265 [vS a0.cO,eq v0_0.1],kK Value.string aX.O v0_0.1 a0.aq] (γ:=OV) (fun _=>True) (fun g=>eq g.1) (fun g=>[aJ b0_ 265 [vS a0.cO,eq v0_0.1],kK Value.string aX.O v0_0.1 a0.aq,mp Value.string (fun x:Int=>vI x) g.1 r]):=by
 refine tf func180 h fun R0 F H=>?_
 refine so<|wr 2 1<|Dv.LC Value.string (fun x:Int=>vI x) Q T nofun (fun va=>?_)
 refine go 1<|WP.lG H (fun qh:(Int×Int×Bool×(List (BA×Int))×(List Event))×OV=>qh.1) (fun qh=>[(3,eq va.1)]) (fun qh=>[aJ b0_ 265 [vS a0.cO,eq v0_0.1],kK Value.string aX.O v0_0.1 a0.aq,mp Value.string (fun x:Int=>vI x) va.1 qh.1.2.2.2.1,own Event.K qh.2.1 qh.1.2.2.2.2]++F) (fun qh H=>?_) (fun H=>?_)
 ·
  obtain ⟨pa,vb⟩:=qh
  refine sp ?_
  cases H.out; exact et va 4 [3,0,1,2] 1
 refine wr 4 2<|go 1<|el H fun ta haa H=>cx 3 [1,2,0] (cL 241) (dag_Dag_All.c haa (b0_:=b0_) (v0_0:=v0_0)) nofun fun ga _=>?_
 refine Dv.kZ Q T Q (ab 2 Q) rR<|go 1<|WP.block<|ws 4 [0,1,2,3] 0 ?_
 refine lq (fun j_ (pc:Int×(List (BA×Int)))=>member_joined.l0 k ta j_ pc.1 pc.2) (0,([]:List (BA×Int))) H [3,8,9] (fun pc=>[(10,vI pc.1)]) (fun pc=>[(3,mp Value.string (fun x:Int=>vI x) va.1 pc.2)]) ?_
 rintro j_ ⟨xc,xd⟩ H
 rcases j_ with _ | ja
 ·
  exact (aW.no H).elim
 try dsimp only at H
 rw [member_joined.l0] at H
 refine so<|WP.seq<|cf H ?_ ?_ <;> intro H
 ·
  refine WP.exit ?_
  have H:=H.out
  refine ns 4 [0,1,3,2] 0 ?_
  exact jn (((ta.length:Int),xc,decide (xc<(ta.length:Int)),xd,ta),ga) H
 refine WP.skip<|WP.seq<|WP.block<|wr 4 12<|gr H fun gb H=>?_
 have hac:xc.toNat<ta.length:=bC gb
 refine Dv.kQ Q T Q (ab 2 Q) Q rR mZ pG gb.1 gb.2<|Dv.pM (j:=xc.toNat) (f:=0) Q T Q (ab 2 Q) hac mZ Q pG (Nat.le_of_ble_eq_true Q)<|al Q T zO nofun fun ba=>sy 0 ?_
 refine .fin<|sL [0]<|WP.block<|so<|ce H ?_ ?_ <;> intro H
 ·
  refine rg 4 8<|gl 3 [0]<|Dv.mup (jj:=4) 1 Q T Q Q Q Q tU (dR W9) nofun<|.fin<|rg 2 0<|go 2<|ns 5 [0,1,2,3,4] 1 ?_
  exact bk ja (av (xc+1),mput xd ((ta.getD xc.toNat default).ai) 1) H
 refine so<|cf H ?_ ?_ <;> intro H
 ·
  refine WP.skip<|rg 2 0<|go 2<|ns 5 [0,1,2,3,4] 1 ?_
  exact bk ja (av (xc+1),xd) H
 refine rg 4 8<|gl 3 [0]<|Dv.mdl (jj:=4) Q T Q Q Q tU (dR W9) nofun<|.fin<|rg 2 0<|go 2<|ns 5 [0,1,2,3,4] 1 ?_
 exact bk ja (av (xc+1),l6 xd ((ta.getD xc.toNat default).ai)) H
theorem jT.c {v0_0:OV} {b0_:Nat} (h:jT.f k a0 a1=some r):Tr prog 121 [eW b0_,vS a1] [aJ b0_ 265 [vS a0.cO,eq v0_0.1],kK Value.string aX.O v0_0.1 a0.aq] (γ:=Unit) (fun _=>True) (fun g=>vB r) (fun g=>[aJ b0_ 265 [vS a0.cO,eq v0_0.1],kK Value.string aX.O v0_0.1 a0.aq]):=by
 refine tf func121 h fun R0 F H=>?_
 refine so<|wr 6 2<|go 1<|el H fun ta haa H=>cx 2 [0,1] (cL 180) (member_joined.c haa (b0_:=b0_) (v0_0:=v0_0)) nofun fun ga _=>?_
 refine go 1<|Dv.EE 0 Q T Q (ab 2 Q) Q tU (dR W9) z3 (fun _=>Q)<|gq 2 ?_
 cases H.out; exact et () 3 [2,0,1] 1
theorem bN.c {v0_0:OV} {b0_:Nat} (h:bN.f k a0 a1 a2=some r):Tr prog 57 [eW b0_,vS a1,vS a2] [aJ b0_ 186 [eq v0_0.1],kK Value.string bn.O v0_0.1 a0.br] (γ:=Unit) (fun _=>True) (fun g=>vB r) (fun g=>[aJ b0_ 186 [eq v0_0.1],kK Value.string bn.O v0_0.1 a0.br]):=by
 refine tf func57 h fun R0 F H=>?_
 refine so<|wr 6 4<|go 2<|el H fun ta haa H=>cx 2 [0,1] (cL 88) (aP.c haa (b0_:=b0_) (v0_0:=v0_0)) nofun fun va _=>?_
 refine go 1<|vg (bn.iU 2 Q) fun ga hac=>?_
 refine el H fun tc had H=>oU 4 [0,1,2,3] (cL 121) (Tr.jZ (jT.c had (b0_:=ga.1) (v0_0:=ga.2)) (.cons (iM hac) (.cons cK .nil))) ?_
 refine go 1<|wg (bn.shut (p:=va) (m:=ta) (ga.1,ga.2) hac (pm 4 [0,1,2,3])) fun _ _=>?_
 refine wg (fI (aP.r haa) (pm 3 [2,0,1])) fun _ _=>?_
 cases H.out; exact et () 2 [1,0] 0
theorem iG.c {cb0_:Nat} {cq0_0 cq0_1 cq0_2 cq0_3 cq0_4:OV} {c0:Src} {c1:BA} (h:iG.f k a0 c0 c1=some r):Tr prog 73 [vS a0,eW cb0_,rp [vS c1]] [aJ cb0_ 30 [eq cq0_0.1,eq cq0_1.1,eq cq0_2.1,eq cq0_3.1,eq cq0_4.1],aO.O cq0_0 c0.dx,kb.O cq0_1 c0.aB,cC.O cq0_2 c0.aw,cJ.O cq0_3 c0.bq,cI.O cq0_4 c0.jE] (γ:=Unit) (fun _=>True) (fun g=>vB r) (fun g=>[aJ cb0_ 30 [eq cq0_0.1,eq cq0_1.1,eq cq0_2.1,eq cq0_3.1,eq cq0_4.1],aO.O cq0_0 c0.dx,kb.O cq0_1 c0.aB,cC.O cq0_2 c0.aw,cJ.O cq0_3 c0.bq,cI.O cq0_4 c0.jE]):=by
 refine tf func73 h fun R0 F H=>?_
 refine so<|wr 7 0<|gl 2 [0]<|mL Q T Q qN Q<|go 1<|vg (aO.iU 1 Q) fun ga haa=>?_
 refine el H fun ta hac H=>oU 7 [0,1,2,3,4,5,6] (cL 57) (Tr.jZ (bN.c hac (b0_:=ga.1) (v0_0:=ga.2)) (.cons (iM haa) (.cons cK (.cons cK .nil)))) ?_
 refine go 2<|wg (aO.shut (p:=cq0_0) (m:=c0.dx) (ga.1,ga.2) haa (pm 7 [0,1,2,3,4,5,6])) fun _ _=>?_
 cases H.out; exact et () 6 [1,0,2,3,4,5] 0
theorem lv.c {p0_0 p0_1 p0_2 p0_3 p0_4:OV} (h:lv.f k a0 a1 a2=some r):Tr prog 20 [agg [eq p0_0.1,eq p0_1.1,eq p0_2.1,eq p0_3.1,eq p0_4.1],vS a1,vI a2] [aO.O p0_0 a0.dx,kb.O p0_1 a0.aB,cC.O p0_2 a0.aw,cJ.O p0_3 a0.bq,cI.O p0_4 a0.jE] (γ:=Unit) (fun _=>True) (fun g=>sl aE r) (fun g=>[aO.O p0_0 a0.dx,kb.O p0_1 a0.aB,cC.O p0_2 a0.aw,cJ.O p0_3 a0.bq,cI.O p0_4 a0.jE]):=by
 refine tf func20 h fun R0 F H=>?_
 refine wr 3 3<|Dv.box Q T Q cA nofun fun ba=>Dv.box Q T Q cE nofun fun bc=>go 1<|wr 8 80<|gl 4 [1,0]<|vg (cC.iU 4 Q) fun ga haa=>?_
 refine el H fun ta hac H=>cx 9 [0,1,2,3,4,5,6,7,8] (cL 72) (Tr.jZ (aR.c hac (b0_:=ga.1) (v0_0:=ga.2.1) (v0_1:=ga.2.2)) (.cons (iM haa) (.cons cK (.cons cK .nil)))) nofun fun gb _=>?_
 refine vg (cC.shut (p:=p0_2) (m:=a0.aw) (ga.1,ga.2.1,ga.2.2) haa (pm 10 [0,1,3,2,4,5,6,7,8,9])) fun _ _=>?_
 refine Dv.gh (r9 (E':=[(0,agg [eq p0_0.1,eq p0_1.1,eq p0_2.1,eq p0_3.1,eq p0_4.1]),(1,vS a1),(2,vI a2),(3,eW ba),(4,rp [vS a1]),(6,eU),(11,eq gb.1)]) (l':=[cC.O p0_2 a0.aw,own aE gb.1 ta,aJ ba 30 [eq p0_0.1,eq p0_1.1,eq p0_2.1,eq p0_3.1,eq p0_4.1],aO.O p0_0 a0.dx,kb.O p0_1 a0.aB,cJ.O p0_3 a0.bq,cI.O p0_4 a0.jE]++F) 2 Q (ar Q ay (ar Q ay (ar Q ay (ar Q ay (ar Q kJ (ar Q ay (ar Q ay jG))))))) (gL (.cons bU (.cons bU (.cons bU (.cons bU (.cons bU (.cons bU (.cons bU .nil))))))) fun _=>bU)) (fun _ _=>?_)
 refine Dv.mkx (Q:=jL (fun a0_=>iG.f k a0_ a0 a1)) (L:=[aJ ba 30 [eq p0_0.1,eq p0_1.1,eq p0_2.1,eq p0_3.1,eq p0_4.1],aO.O p0_0 a0.dx,kb.O p0_1 a0.aB,cC.O p0_2 a0.aw,cJ.O p0_3 a0.bq,cI.O p0_4 a0.jE]) (cL 73) (by rintro _ _ ⟨a0_,r_,h_,rfl,rfl⟩; exact iG.c h_ (cb0_:=ba) (cq0_0:=p0_0) (cq0_1:=p0_1) (cq0_2:=p0_2) (cq0_3:=p0_3) (cq0_4:=p0_4)) Q T Q Q<|el H fun tc had H=>cx 7 [1,2,3,4,0,5,6] (cL 71) (Tr.JA (A:=[own aE gb.1 ta]) (L:=[aJ ba 30 [eq p0_0.1,eq p0_1.1,eq p0_2.1,eq p0_3.1,eq p0_4.1],aO.O p0_0 a0.dx,kb.O p0_1 a0.aB,cC.O p0_2 a0.aw,cJ.O p0_3 a0.bq,cI.O p0_4 a0.jE]) (B:=fun gi:OV=>[own aE gi.1 tc]) (slices_DeleteFunc_string_xo.c had (p0_:=gb) (X1_:=(pk [aJ ba 30 [eq p0_0.1,eq p0_1.1,eq p0_2.1,eq p0_3.1,eq p0_4.1],aO.O p0_0 a0.dx,kb.O p0_1 a0.aB,cC.O p0_2 a0.aw,cJ.O p0_3 a0.bq,cI.O p0_4 a0.jE])))) nofun fun gi _=>?_
 refine go 1<|fz 6 [6] [] ?_
 cases H.out; exact et () 6 [0,1,2,3,4,5] 1
theorem jf.c {b0_:Nat} (h:jf.f a0=some r):Tr prog 118 [eW b0_] [aJ b0_ 257 [vI a0.fn.fv,vI a0.dX]] (γ:=Unit) (fun _=>True) (fun g=>vI r) (fun g=>[aJ b0_ 257 [vI a0.fn.fv,vI a0.dX]]):=by
 refine tf func118 h fun R0 F H=>?_
 refine so<|wr 5 0<|go 3<|oU 1 [0] (cL 178) (oa.c (b:=b0_) (off:=0) (bT:=257) (qs:=[vI a0.fn.fv,vI a0.dX]) (n:=a0.fn.fv) Q) ?_
 refine gq 1 ?_
 cases H.out; exact et () 1 [0] 0
theorem iD.c {p0_:OV} (h:iD.f a0=some r):Tr prog 53 [eq p0_.1] [cI.O p0_ a0] (γ:=Unit) (fun _=>True) (fun g=>vI r) (fun g=>[cI.O p0_ a0]):=by
 refine tf func53 h fun R0 F H=>?_
 refine so<|wr 6 0<|go 1<|Dv.qz cI.nn Q T Q (ab 0 Q)<|vg (cI.iU 0 Q) fun ga haa=>?_
 refine fp haa Q T Q Ce<|gl 1 [0]<|vg (lh.iU 1 Q) fun gb hac=>?_
 refine el H fun ta had H=>oU 4 [0,1,2,3] (cL 118) (Tr.jZ (jf.c had (b0_:=gb)) (.cons (iM hac) .nil)) ?_
 refine go 1<|wg (lh.shut (p:=ga.2.1) (m:=a0.iS) gb hac (pm 4 [0,1,2,3])) fun _ _=>?_
 refine wg (cI.shut (p:=p0_) (m:=a0) (ga.1,ga.2.1,ga.2.2.1,ga.2.2.2) haa (pm 4 [1,0,2,3])) fun _ _=>?_
 cases H.out; exact et () 1 [0] 0
theorem cD.c {p0_:OV} (h:cD.f k a0 a1=some r):Tr prog 54 [eq p0_.1,vI a1] [cI.O p0_ a0] (γ:=OV) (fun _=>True) (fun g=>eq g.1) (fun g=>[cI.O p0_ a0,own aE g.1 r]):=by
 refine tf func54 h fun R0 F H=>?_
 refine so<|wr 6 0<|go 1<|Dv.qz cI.nn Q T Q (ab 0 Q)<|vg (cI.iU 0 Q) fun ga haa=>?_
 refine fp haa Q T Q nj<|gl 1 [0]<|Dv.kZ Q T Q (ab 2 Q) eb<|go 1<|WP.lG H id (fun pa=>[(0,eq p0_.1),(5,vI pa.1)]) (fun pa=>[cI.O p0_ a0]++F) (fun pa H=>?_) (fun H=>?_)
 ·
  refine wr 9 128<|go 1<|Dv.qz cI.nn Q T Q (ab 0 Q)<|vg (cI.iU 0 Q) fun gb hac=>?_
  refine fp hac Q T Q nj<|gl 1 [0]<|Dv.kZ Q T Q (ab 2 Q) eb<|go 2<|gr H fun gi H=>?_
  obtain ⟨ti1955,ti1955a,ti1955b,ti1955c,ti1955d⟩:=zE
  refine Dv.G8 (Kd:=aE) (eE:BA) Q T Q Q eb ti1955a ti1955b ti1955c ti1955d Q dc Q gi nofun (fun va=>?_)
  refine go 1<|wr 8 128<|go 2<|Dv.bW hac Q T Q<|fp hac Q T Q nj<|gl 2 [1]<|gr H fun gj H=>Dv.slt (Kd:=aE) Q T Q (ab 3 Q) eb W9 c9 (ff Q gj.1) gj.2<|Dv.cpt (Kd:=aE) (jj:=0) Q T Q Q (ab 3 Q) Q eb W9 c9 gj.2 nofun<|.fin<|so<|wg (cI.shut (p:=p0_) (m:=a0) (gb.1,gb.2.1,gb.2.2.1,gb.2.2.2) hac (pm 5 [1,2,3,4,0])) fun _ _=>?_
  cases H.out; exact et va 2 [0,1] 0
 refine WP.block<|wg (cI.shut (p:=p0_) (m:=a0) (ga.1,ga.2.1,ga.2.2.1,ga.2.2.2) haa (pm 4 [0,1,2,3])) fun _ _=>?_
 refine ws 1 [0] 0 ?_
 refine lq (fun j_ (pc:Int)=>cD.l0 k a0 a1 j_ pc) (a0.eO.length:Int) H [0,1] (fun pc=>[(5,vI pc)]) (fun _=>[]) ?_
 rintro j_ xc H
 rcases j_ with _ | ja
 ·
  exact (aW.no H).elim
 try dsimp only at H
 rw [cD.l0] at H
 refine WP.seq<|WP.seq<|wg (cI.iU 0 Q) fun gk had=>?_
 refine dg mX 19 0<|gp 3 ?_
 cases cc:decide (0<xc)
 ·
  have H:=H.cf cc
  refine go 16<|WP.cond Q nofun (fun _=>?_)
  refine WP.exit ?_
  have H:=H.out
  refine ng (cI.shut (p:=p0_) (m:=a0) (gk.1,gk.2.1,gk.2.2.1,gk.2.2.2) had (pm 4 [0,1,2,3])) fun _ _=>?_
  exact jn (xc,false) H
 have H:=H.ct cc
 refine go 1<|Dv.bW had Q (gg Q) Q<|fp had Q (gg Q) Q xO<|gl 2 [0]<|Dv.bW had Q (gg Q) Q<|fp had Q (gg Q) Q nj<|gl 3 [0]<|gr H fun gm H=>?_
 have hae:(av (xc-1)).toNat<a0.eO.length:=bC gm
 refine Dv.kQ Q (gg Q) Q (ab 2 Q) Q eb W9 c9 gm.1 gm.2<|Dv.oZ (j:=((av (xc-1)).toNat)) (f:=0) (p:=vS (a0.eO.getD ((av (xc-1)).toNat) default)) Q (gg Q) Q (ab 2 Q) hae W9 Q Q<|Dv.EE 0 Q (gg Q) Q (ab 3 Q) Q tU (dR W9) z3 (fun _=>Q)<|go 3<|ce H ?_ ?_ <;> intro H
 ·
  refine WP.skip<|WP.block<|rg 3 0<|go 3<|ng (cI.shut (p:=p0_) (m:=a0) (gk.1,gk.2.1,gk.2.2.1,gk.2.2.2) had (pm 4 [0,1,2,3])) fun _ _=>?_
  exact bk ja (av (xc-1)) H
 refine WP.exit ?_
 have H:=H.out
 refine ng (cI.shut (p:=p0_) (m:=a0) (gk.1,gk.2.1,gk.2.2.1,gk.2.2.2) had (pm 4 [0,1,2,3])) fun _ _=>?_
 exact jn (xc,decide (a1<((mget a0.oo (a0.eO.getD ((av (xc-1)).toNat) default)).getD 0))) H
theorem gT.c (h:gT.f a0 a1=some r):Pt prog 240 [vS a0,vS a1] (vI r):=by
 refine pf func240 h fun R0 F H=>?_
 refine so<|wr 4 0<|go 2<|el H fun ta haa H=>cl Q (cL 269) Q (eA.c haa)<|gq 1 ?_
 cases H.out; exact ek 0
theorem strings_Count.c (h:strings_Count.f k a0 a1=some r):Pt prog 239 [vS a0,vS a1] (vI r):=by
 refine pf func239 h fun R0 F H=>?_
 refine so<|WP.seq<|wr 3 0<|go 1<|Dv.lens Q T Q W9<|go 1<|ce H ?_ ?_ <;> intro H
 ·
  exact (aW.no H).elim
 refine WP.skip<|WP.seq<|wr 3 0<|go 1<|Dv.lens Q T Q W9<|go 1<|ce H ?_ ?_ <;> intro H
 ·
  refine wr 5 0<|go 2<|gr H fun ga H=>Dv.qR Q T Q Q W9 ga.1 ga.2<|Dv.KB Q T Q (F4 func268 kr Q xf268 xg268)<|gq 1 ?_
  cases H.out; exact ek 0
 refine WP.skip<|so<|WP.block<|ws 0 [] 0 ?_
 refine lq (fun j_ (pa:BA×Int)=>strings_Count.l0 k a1 j_ pa.1 pa.2) (a0,0) H [1] (fun pa=>[(0,vS pa.1),(5,vI pa.2)]) (fun _=>[]) ?_
 rintro j_ ⟨xc,xd⟩ H
 rcases j_ with _ | ja
 ·
  exact (aW.no H).elim
 try dsimp only at H
 rw [strings_Count.l0] at H
 refine WP.block<|wr 4 0<|go 2<|el H fun ta haa H=>cl Q (cL 240) Q (gT.c haa)<|go 1<|WP.seq<|so<|ce H ?_ ?_ <;> intro H
 ·
  refine sp ?_
  cases H.out; exact ek 0
 exact WP.skip<|so<|rg 7 0<|go 3<|Dv.lens Q T Q W9<|go 1<|gr H fun gb H=>Dv.Hr Q T Q W9 (ff Q gb.1) dG gb.2.1 gb.2.2<|go 1<|bk ja (xc.extract (av (ta+(a1.size:Int))).toNat xc.size,av (xd+1)) H
theorem strings_genSplit.c (h:strings_genSplit.f k a0 a1 a2 a3=some r):Tr prog 179 [vS a0,vS a1,vI a2,vI a3] [] (γ:=OV) (fun _=>True) (fun g=>eq g.1) (fun g=>[own aE g.1 r]):=by
 refine tf func179 h fun R0 F H=>?_
 refine so<|WP.seq<|so<|ce H ?_ ?_ <;> intro H
 ·
  refine so<|wg (eK aE none) fun _ _=>?_
  cases H.out; exact et lM 1 [0] 0
 refine WP.skip<|WP.seq<|so<|ce H ?_ ?_ <;> intro H
 ·
  exact (aW.no H).elim
 refine WP.skip<|sq H id [0,1,2] (fun pa=>[(3,vI pa)]) (fun _=>[]) (fun pa H=>?_) (fun H=>?_)
 rotate_left
 ·
  refine so<|cf H ?_ ?_ <;> intro H
  ·
   refine WP.skip ?_
   have H:=H.out
   exact jn a3 H
  refine rg 5 0<|go 2<|el H fun ta haa H=>cl Q (cL 239) Q (strings_Count.c haa)<|gq 2 ?_
  have H:=H.out
  exact jn (av (ta+1)) H
 refine wr 6 0<|go 2<|Dv.lens Q T Q W9<|go 1<|Dv.mini Q T Q Q<|go 1<|wr 3 2<|go 1<|gr H fun ga H=>?_
 obtain ⟨ti1985,ti1985a,ti1985b,ti1985c,ti1985d⟩:=zE
 refine Dv.G8 (Kd:=aE) (eE:BA) Q T Q Q eb ti1985a ti1985b ti1985c ti1985d Q dc Q ga nofun (fun va=>?_)
 refine go 1<|so<|so<|sq H id [9] (fun pc=>[(0,vS pc.1),(10,vI pc.2.1)]) (fun pc=>[(0,own aE va.1 pc.2.2.2)]) (fun pc H=>?_) (fun H=>?_)
 ·
  refine wr 5 16<|go 3<|gr H fun gb H=>?_
  have hac:pc.2.1.toNat<pc.2.2.2.length:=bC gb
  refine Dv.kQ Q T Q (ab 0 Q) Q eb W9 c9 gb.1 gb.2<|Dv.IZ (j:=pc.2.1.toNat) (f:=0) (jj:=0) pc.1 Q T Q Q (cells_one (ah Q)) W9 c9 Q Q hac (Nat.le_of_ble_eq_true Q) Q nofun<|.fin<|wr 5 8<|go 3<|gr H fun gi H=>Dv.slo (jj:=0) Q T Q Q eb W9 c9 dG (ff Q gi.1) (.inl Q) gi.2.1 gi.2.2 nofun (fun vb=>?_)
  refine gq 1 ?_
  cases H.out; exact et vb 1 [0] 0
 refine WP.block<|ws 1 [0] 0 ?_
 refine lq (fun j_ (pe:BA×Int×(List BA))=>strings_genSplit.l0 k a0 a1 a2 pa j_ pe.1 pe.2.1 pe.2.2) (a0,0,List.replicate (min pa (av ((a0.size:Int)+1))).toNat (eE:BA)) H [1,2,3,9] (fun pe=>[(0,vS pe.1),(10,vI pe.2.1)]) (fun pe=>[(0,own aE va.1 pe.2.2)]) ?_
 rintro j_ ⟨xc,xd,xe⟩ H
 rcases j_ with _ | ja
 ·
  exact (aW.no H).elim
 try dsimp only at H
 rw [strings_genSplit.l0] at H
 refine WP.seq<|so<|cf H ?_ ?_ <;> intro H
 ·
  refine WP.exit ?_
  have H:=H.out
  exact jn (xc,xd,decide (xd<(av ((min pa (av ((a0.size:Int)+1)))-1))),xe) H
 refine WP.skip<|WP.block<|wr 4 0<|go 2<|el H fun tc had H=>cl Q (cL 240) Q (gT.c had)<|go 1<|WP.seq<|so<|ce H ?_ ?_ <;> intro H
 ·
  refine WP.exit ?_
  have H:=H.out
  exact jn (xc,xd,decide (xd<(av ((min pa (av ((a0.size:Int)+1)))-1))),xe) H
 refine WP.skip<|wr 9 256<|go 6<|gr H fun gj H=>Dv.Hr Q T Q W9 dG (ff Q gj.1) gj.2.1 gj.2.2<|gr H fun gk H=>?_
 have hae:xd.toNat<xe.length:=bC gk
 exact Dv.kQ Q T Q (ab 0 Q) Q eb W9 c9 gk.1 gk.2<|Dv.IZ (j:=xd.toNat) (f:=0) (jj:=0) (xc.extract 0 ((av (tc+a2)).toNat)) Q T Q Q (cells_one (ah Q)) W9 c9 Q Q hae (Nat.le_of_ble_eq_true Q) Q nofun<|.fin<|wr 7 0<|go 3<|Dv.lens Q T Q W9<|go 1<|gr H fun gm H=>Dv.Hr Q T Q W9 (ff Q gm.1) dG gm.2.1 gm.2.2<|go 1<|rg 3 0<|go 3<|bk ja (xc.extract (av (tc+(a1.size:Int))).toNat xc.size,av (xd+1),xe.set xd.toNat (xc.extract 0 ((av (tc+a2)).toNat))) H
theorem kT.c (h:kT.f k a0 a1=some r):Tr prog 119 [vS a0,vS a1] [] (γ:=OV) (fun _=>True) (fun g=>eq g.1) (fun g=>[own aE g.1 r]):=by
 refine tf func119 h fun R0 F H=>?_
 refine so<|wr 4 4<|go 2<|el H fun ta haa H=>cx 0 [] (cL 179) (strings_genSplit.c haa) nofun fun ga _=>?_
 refine gq 1 ?_
 cases H.out; exact et ga 1 [0] 0
theorem nv.c (h:nv.f k a0=some r):Pt prog 55 [vS a0] (jH.p r):=by
 refine pf func55 h fun R0 F H=>?_
 refine so<|wr 3 2<|go 1<|el H fun ta haa H=>cx 0 [] (cL 119) (kT.c haa) nofun fun ga _=>?_
 refine go 1<|WP.seq<|WP.block<|wr 22 0<|go 1<|Dv.kZ Q T Q (ab 0 Q) eb<|gp 2 ?_
 rcases bm H with ⟨cc,H⟩ | ⟨cc,H⟩
 ·
  refine sh 9 cc ?_
  refine sh 10 cc ?_
  refine go 18<|WP.cond Q nofun (fun _=>?_)
  refine wr 10 0<|go 1<|Dv.kZ Q T Q (ab 0 Q) eb<|gp 2 ?_
  rcases bm H with ⟨cg,H⟩ | ⟨cg,H⟩
  ·
   refine sh 46 cg ?_
   refine sh 47 cg ?_
   refine go 6<|WP.cond Q nofun (fun _=>?_)
   refine wr 10 0<|go 1<|Dv.kZ Q T Q (ab 0 Q) eb<|gp 2 ?_
   rcases bm H with ⟨ci,H⟩ | ⟨ci,H⟩
   ·
    refine sh 60 ci ?_
    refine sh 61 ci ?_
    refine go 6<|WP.cond Q nofun (fun _=>?_)
    refine WP.skip<|sp ?_
    cases H.out; exact ek 1
   refine sh 60 ci ?_
   refine sh 61 ci ?_
   refine go 1<|gr H fun gb H=>?_
   have hac:(0:Int).toNat<ta.length:=bC gb
   refine Dv.kQ Q (gg Q) Q (ab 0 Q) Q eb W9 c9 gb.1 gb.2<|Dv.oZ (j:=((0:Int).toNat)) (f:=0) (p:=vS (ta.getD ((0:Int).toNat) default)) Q (gg Q) Q (ab 0 Q) hac W9 Q Q<|go 3<|cf H ?_ ?_ <;> intro H
   ·
    refine WP.skip<|sp ?_
    cases H.out; exact ek 1
   refine wr 5 0<|go 1<|gr H fun gi H=>?_
   have had:(1:Int).toNat<ta.length:=bC gi
   refine Dv.kQ Q T Q (ab 0 Q) Q eb W9 c9 gi.1 gi.2<|Dv.oZ (j:=((1:Int).toNat)) (f:=0) (p:=vS (ta.getD ((1:Int).toNat) default)) Q T Q (ab 0 Q) had W9 Q Q<|Dv.F0 Q T Q sP<|gq 1 ?_
   cases H.out; exact ek 1
  refine sh 46 cg ?_
  refine sh 47 cg ?_
  refine go 1<|gr H fun gj H=>?_
  have hae:(0:Int).toNat<ta.length:=bC gj
  refine Dv.kQ Q (gg Q) Q (ab 0 Q) Q eb W9 c9 gj.1 gj.2<|Dv.oZ (j:=((0:Int).toNat)) (f:=0) (p:=vS (ta.getD ((0:Int).toNat) default)) Q (gg Q) Q (ab 0 Q) hae W9 Q Q<|go 3<|ce H ?_ ?_ <;> intro H
  ·
   refine wr 5 0<|go 1<|gr H fun gk H=>?_
   have haf:(1:Int).toNat<ta.length:=bC gk
   refine Dv.kQ Q T Q (ab 0 Q) Q eb W9 c9 gk.1 gk.2<|Dv.oZ (j:=((1:Int).toNat)) (f:=0) (p:=vS (ta.getD ((1:Int).toNat) default)) Q T Q (ab 0 Q) haf W9 Q Q<|Dv.F0 Q T Q A2<|gq 1 ?_
   cases H.out; exact ek 1
  refine wr 10 0<|go 1<|Dv.kZ Q T Q (ab 0 Q) eb<|gp 2 ?_
  rcases bm H with ⟨cj,H⟩ | ⟨cj,H⟩
  ·
   refine sh 60 cj ?_
   refine sh 61 cj ?_
   refine go 6<|WP.cond Q nofun (fun _=>?_)
   refine WP.skip<|sp ?_
   cases H.out; exact ek 1
  refine sh 60 cj ?_
  refine sh 61 cj ?_
  refine go 1<|gr H fun gm H=>?_
  have hag:(0:Int).toNat<ta.length:=bC gm
  refine Dv.kQ Q (gg Q) Q (ab 0 Q) Q eb W9 c9 gm.1 gm.2<|Dv.oZ (j:=((0:Int).toNat)) (f:=0) (p:=vS (ta.getD ((0:Int).toNat) default)) Q (gg Q) Q (ab 0 Q) hag W9 Q Q<|go 3<|cf H ?_ ?_ <;> intro H
  ·
   refine WP.skip<|sp ?_
   cases H.out; exact ek 1
  refine wr 5 0<|go 1<|gr H fun gn H=>?_
  have hah:(1:Int).toNat<ta.length:=bC gn
  refine Dv.kQ Q T Q (ab 0 Q) Q eb W9 c9 gn.1 gn.2<|Dv.oZ (j:=((1:Int).toNat)) (f:=0) (p:=vS (ta.getD ((1:Int).toNat) default)) Q T Q (ab 0 Q) hah W9 Q Q<|Dv.F0 Q T Q sP<|gq 1 ?_
  cases H.out; exact ek 1
 refine sh 9 cc ?_
 refine sh 10 cc ?_
 refine go 1<|gr H fun gu H=>?_
 have hai:(0:Int).toNat<ta.length:=bC gu
 refine Dv.kQ Q (gg Q) Q (ab 0 Q) Q eb W9 c9 gu.1 gu.2<|Dv.oZ (j:=((0:Int).toNat)) (f:=0) (p:=vS (ta.getD ((0:Int).toNat) default)) Q (gg Q) Q (ab 0 Q) hai W9 Q Q<|gp 3 ?_
 rcases bm H with ⟨ck,H⟩ | ⟨ck,H⟩
 ·
  refine sh 14 ck ?_
  refine sh 15 ck ?_
  refine sh 16 ck ?_
  refine go 12<|WP.cond Q nofun (fun _=>?_)
  refine wr 10 0<|go 1<|Dv.kZ Q T Q (ab 0 Q) eb<|gp 2 ?_
  rcases bm H with ⟨cn,H⟩ | ⟨cn,H⟩
  ·
   refine sh 46 cn ?_
   refine sh 47 cn ?_
   refine go 6<|WP.cond Q nofun (fun _=>?_)
   refine wr 10 0<|go 1<|Dv.kZ Q T Q (ab 0 Q) eb<|gp 2 ?_
   rcases bm H with ⟨co,H⟩ | ⟨co,H⟩
   ·
    refine sh 60 co ?_
    refine sh 61 co ?_
    refine go 6<|WP.cond Q nofun (fun _=>?_)
    refine WP.skip<|sp ?_
    cases H.out; exact ek 1
   refine sh 60 co ?_
   refine sh 61 co ?_
   refine go 1<|gr H fun gv H=>?_
   have haj:(0:Int).toNat<ta.length:=bC gv
   refine Dv.kQ Q (gg Q) Q (ab 0 Q) Q eb W9 c9 gv.1 gv.2<|Dv.oZ (j:=((0:Int).toNat)) (f:=0) (p:=vS (ta.getD ((0:Int).toNat) default)) Q (gg Q) Q (ab 0 Q) haj W9 Q Q<|go 3<|cf H ?_ ?_ <;> intro H
   ·
    refine WP.skip<|sp ?_
    cases H.out; exact ek 1
   refine wr 5 0<|go 1<|gr H fun gw H=>?_
   have hak:(1:Int).toNat<ta.length:=bC gw
   refine Dv.kQ Q T Q (ab 0 Q) Q eb W9 c9 gw.1 gw.2<|Dv.oZ (j:=((1:Int).toNat)) (f:=0) (p:=vS (ta.getD ((1:Int).toNat) default)) Q T Q (ab 0 Q) hak W9 Q Q<|Dv.F0 Q T Q sP<|gq 1 ?_
   cases H.out; exact ek 1
  refine sh 46 cn ?_
  refine sh 47 cn ?_
  refine go 1<|gr H fun gy H=>?_
  have ham:(0:Int).toNat<ta.length:=bC gy
  refine Dv.kQ Q (gg Q) Q (ab 0 Q) Q eb W9 c9 gy.1 gy.2<|Dv.oZ (j:=((0:Int).toNat)) (f:=0) (p:=vS (ta.getD ((0:Int).toNat) default)) Q (gg Q) Q (ab 0 Q) ham W9 Q Q<|go 3<|ce H ?_ ?_ <;> intro H
  ·
   refine wr 5 0<|go 1<|gr H fun gz H=>?_
   have han:(1:Int).toNat<ta.length:=bC gz
   refine Dv.kQ Q T Q (ab 0 Q) Q eb W9 c9 gz.1 gz.2<|Dv.oZ (j:=((1:Int).toNat)) (f:=0) (p:=vS (ta.getD ((1:Int).toNat) default)) Q T Q (ab 0 Q) han W9 Q Q<|Dv.F0 Q T Q A2<|gq 1 ?_
   cases H.out; exact ek 1
  refine wr 10 0<|go 1<|Dv.kZ Q T Q (ab 0 Q) eb<|gp 2 ?_
  rcases bm H with ⟨cp,H⟩ | ⟨cp,H⟩
  ·
   refine sh 60 cp ?_
   refine sh 61 cp ?_
   refine go 6<|WP.cond Q nofun (fun _=>?_)
   refine WP.skip<|sp ?_
   cases H.out; exact ek 1
  refine sh 60 cp ?_
  refine sh 61 cp ?_
  refine go 1<|gr H fun gaa H=>?_
  have hao:(0:Int).toNat<ta.length:=bC gaa
  refine Dv.kQ Q (gg Q) Q (ab 0 Q) Q eb W9 c9 gaa.1 gaa.2<|Dv.oZ (j:=((0:Int).toNat)) (f:=0) (p:=vS (ta.getD ((0:Int).toNat) default)) Q (gg Q) Q (ab 0 Q) hao W9 Q Q<|go 3<|cf H ?_ ?_ <;> intro H
  ·
   refine WP.skip<|sp ?_
   cases H.out; exact ek 1
  refine wr 5 0<|go 1<|gr H fun gab H=>?_
  have hap:(1:Int).toNat<ta.length:=bC gab
  refine Dv.kQ Q T Q (ab 0 Q) Q eb W9 c9 gab.1 gab.2<|Dv.oZ (j:=((1:Int).toNat)) (f:=0) (p:=vS (ta.getD ((1:Int).toNat) default)) Q T Q (ab 0 Q) hap W9 Q Q<|Dv.F0 Q T Q sP<|gq 1 ?_
  cases H.out; exact ek 1
 refine sh 14 ck ?_
 refine sh 15 ck ?_
 refine sh 16 ck ?_
 refine go 1<|gr H fun gac H=>?_
 have haq:(4:Int).toNat<ta.length:=bC gac
 refine Dv.kQ Q (gg Q) Q (ab 0 Q) Q eb W9 c9 gac.1 gac.2<|Dv.oZ (j:=((4:Int).toNat)) (f:=0) (p:=vS (ta.getD ((4:Int).toNat) default)) Q (gg Q) Q (ab 0 Q) haq W9 Q Q<|gp 2 ?_
 rcases bm H with ⟨cq,H⟩ | ⟨cq,H⟩
 rotate_left
 ·
  refine sh 20 cq ?_
  refine sh 21 cq ?_
  refine go 7<|WP.cond Q (fun _=>?_) nofun
  refine wd mX 16 0<|go 1<|gr H fun gad H=>?_
  have har:(1:Int).toNat<ta.length:=bC gad
  refine Dv.kQ Q T Q (ab 0 Q) Q eb W9 c9 gad.1 gad.2<|Dv.oZ (j:=((1:Int).toNat)) (f:=0) (p:=vS (ta.getD ((1:Int).toNat) default)) Q T Q (ab 0 Q) har W9 Q Q<|go 1<|gr H fun gae H=>?_
  have has:(2:Int).toNat<ta.length:=bC gae
  refine Dv.kQ Q T Q (ab 0 Q) Q eb W9 c9 gae.1 gae.2<|Dv.oZ (j:=((2:Int).toNat)) (f:=0) (p:=vS (ta.getD ((2:Int).toNat) default)) Q T Q (ab 0 Q) has W9 Q Q<|go 1<|gr H fun gaf H=>?_
  have hau:(3:Int).toNat<ta.length:=bC gaf
  refine Dv.kQ Q T Q (ab 0 Q) Q eb W9 c9 gaf.1 gaf.2<|Dv.oZ (j:=((3:Int).toNat)) (f:=0) (p:=vS (ta.getD ((3:Int).toNat) default)) Q T Q (ab 0 Q) hau W9 Q Q<|go 1<|gr H fun gag H=>?_
  have hav:(4:Int).toNat<ta.length:=bC gag
  refine Dv.kQ Q T Q (ab 0 Q) Q eb W9 c9 gag.1 gag.2<|Dv.oZ (j:=((4:Int).toNat)) (f:=0) (p:=vS (ta.getD ((4:Int).toNat) default)) Q T Q (ab 0 Q) hav W9 Q Q<|go 1<|Dv.lI (qs:=[vS (ta.getD ((1:Int).toNat) default),vS (ta.getD ((2:Int).toNat) default),vS (ta.getD ((3:Int).toNat) default),vB (decide ((ta.getD ((4:Int).toNat) default)=(⟨#[49]⟩:BA)))]) (css:=[[vS (ta.getD ((1:Int).toNat) default)],[vS (ta.getD ((2:Int).toNat) default)],[vS (ta.getD ((3:Int).toNat) default)],[vB (decide ((ta.getD ((4:Int).toNat) default)=(⟨#[49]⟩:BA)))]]) Q T FM Hy z89 Q ⟨(cells_one (ah Q)),⟨(cells_one (ah Q)),⟨(cells_one (ah Q)),⟨(cells_one (ah Q)),T⟩⟩⟩⟩ Q Q<|Dv.F0 Q T Q JO<|gq 1 ?_
  cases H.out; exact ek 1
 refine sh 20 cq ?_
 refine sh 21 cq ?_
 refine go 1<|gr H fun gah H=>?_
 have haw:(4:Int).toNat<ta.length:=bC gah
 refine Dv.kQ Q (gg Q) Q (ab 0 Q) Q eb W9 c9 gah.1 gah.2<|Dv.oZ (j:=((4:Int).toNat)) (f:=0) (p:=vS (ta.getD ((4:Int).toNat) default)) Q (gg Q) Q (ab 0 Q) haw W9 Q Q<|go 4<|ce H ?_ ?_ <;> intro H
 ·
  refine wd mX 16 0<|go 1<|gr H fun gai H=>?_
  have hax:(1:Int).toNat<ta.length:=bC gai
  refine Dv.kQ Q T Q (ab 0 Q) Q eb W9 c9 gai.1 gai.2<|Dv.oZ (j:=((1:Int).toNat)) (f:=0) (p:=vS (ta.getD ((1:Int).toNat) default)) Q T Q (ab 0 Q) hax W9 Q Q<|go 1<|gr H fun gaj H=>?_
  have hay:(2:Int).toNat<ta.length:=bC gaj
  refine Dv.kQ Q T Q (ab 0 Q) Q eb W9 c9 gaj.1 gaj.2<|Dv.oZ (j:=((2:Int).toNat)) (f:=0) (p:=vS (ta.getD ((2:Int).toNat) default)) Q T Q (ab 0 Q) hay W9 Q Q<|go 1<|gr H fun gak H=>?_
  have haz:(3:Int).toNat<ta.length:=bC gak
  refine Dv.kQ Q T Q (ab 0 Q) Q eb W9 c9 gak.1 gak.2<|Dv.oZ (j:=((3:Int).toNat)) (f:=0) (p:=vS (ta.getD ((3:Int).toNat) default)) Q T Q (ab 0 Q) haz W9 Q Q<|go 1<|gr H fun gal H=>?_
  have hbe:(4:Int).toNat<ta.length:=bC gal
  refine Dv.kQ Q T Q (ab 0 Q) Q eb W9 c9 gal.1 gal.2<|Dv.oZ (j:=((4:Int).toNat)) (f:=0) (p:=vS (ta.getD ((4:Int).toNat) default)) Q T Q (ab 0 Q) hbe W9 Q Q<|go 1<|Dv.lI (qs:=[vS (ta.getD ((1:Int).toNat) default),vS (ta.getD ((2:Int).toNat) default),vS (ta.getD ((3:Int).toNat) default),vB (decide ((ta.getD ((4:Int).toNat) default)=(⟨#[49]⟩:BA)))]) (css:=[[vS (ta.getD ((1:Int).toNat) default)],[vS (ta.getD ((2:Int).toNat) default)],[vS (ta.getD ((3:Int).toNat) default)],[vB (decide ((ta.getD ((4:Int).toNat) default)=(⟨#[49]⟩:BA)))]]) Q T FM Hy z89 Q ⟨(cells_one (ah Q)),⟨(cells_one (ah Q)),⟨(cells_one (ah Q)),⟨(cells_one (ah Q)),T⟩⟩⟩⟩ Q Q<|Dv.F0 Q T Q JO<|gq 1 ?_
  cases H.out; exact ek 1
 refine wr 10 0<|go 1<|Dv.kZ Q T Q (ab 0 Q) eb<|gp 2 ?_
 rcases bm H with ⟨cr,H⟩ | ⟨cr,H⟩
 ·
  refine sh 46 cr ?_
  refine sh 47 cr ?_
  refine go 6<|WP.cond Q nofun (fun _=>?_)
  refine wr 10 0<|go 1<|Dv.kZ Q T Q (ab 0 Q) eb<|gp 2 ?_
  rcases bm H with ⟨cu,H⟩ | ⟨cu,H⟩
  ·
   refine sh 60 cu ?_
   refine sh 61 cu ?_
   refine go 6<|WP.cond Q nofun (fun _=>?_)
   refine WP.skip<|sp ?_
   cases H.out; exact ek 1
  refine sh 60 cu ?_
  refine sh 61 cu ?_
  refine go 1<|gr H fun gam H=>?_
  have hbf:(0:Int).toNat<ta.length:=bC gam
  refine Dv.kQ Q (gg Q) Q (ab 0 Q) Q eb W9 c9 gam.1 gam.2<|Dv.oZ (j:=((0:Int).toNat)) (f:=0) (p:=vS (ta.getD ((0:Int).toNat) default)) Q (gg Q) Q (ab 0 Q) hbf W9 Q Q<|go 3<|cf H ?_ ?_ <;> intro H
  ·
   refine WP.skip<|sp ?_
   cases H.out; exact ek 1
  refine wr 5 0<|go 1<|gr H fun gan H=>?_
  have hbg:(1:Int).toNat<ta.length:=bC gan
  refine Dv.kQ Q T Q (ab 0 Q) Q eb W9 c9 gan.1 gan.2<|Dv.oZ (j:=((1:Int).toNat)) (f:=0) (p:=vS (ta.getD ((1:Int).toNat) default)) Q T Q (ab 0 Q) hbg W9 Q Q<|Dv.F0 Q T Q sP<|gq 1 ?_
  cases H.out; exact ek 1
 refine sh 46 cr ?_
 refine sh 47 cr ?_
 refine go 1<|gr H fun gao H=>?_
 have hbh:(0:Int).toNat<ta.length:=bC gao
 refine Dv.kQ Q (gg Q) Q (ab 0 Q) Q eb W9 c9 gao.1 gao.2<|Dv.oZ (j:=((0:Int).toNat)) (f:=0) (p:=vS (ta.getD ((0:Int).toNat) default)) Q (gg Q) Q (ab 0 Q) hbh W9 Q Q<|go 3<|ce H ?_ ?_ <;> intro H
 ·
  refine wr 5 0<|go 1<|gr H fun gap H=>?_
  have hbi:(1:Int).toNat<ta.length:=bC gap
  refine Dv.kQ Q T Q (ab 0 Q) Q eb W9 c9 gap.1 gap.2<|Dv.oZ (j:=((1:Int).toNat)) (f:=0) (p:=vS (ta.getD ((1:Int).toNat) default)) Q T Q (ab 0 Q) hbi W9 Q Q<|Dv.F0 Q T Q A2<|gq 1 ?_
  cases H.out; exact ek 1
 refine wr 10 0<|go 1<|Dv.kZ Q T Q (ab 0 Q) eb<|gp 2 ?_
 rcases bm H with ⟨cw,H⟩ | ⟨cw,H⟩
 ·
  refine sh 60 cw ?_
  refine sh 61 cw ?_
  refine go 6<|WP.cond Q nofun (fun _=>?_)
  refine WP.skip<|sp ?_
  cases H.out; exact ek 1
 refine sh 60 cw ?_
 refine sh 61 cw ?_
 refine go 1<|gr H fun gaq H=>?_
 have hbj:(0:Int).toNat<ta.length:=bC gaq
 refine Dv.kQ Q (gg Q) Q (ab 0 Q) Q eb W9 c9 gaq.1 gaq.2<|Dv.oZ (j:=((0:Int).toNat)) (f:=0) (p:=vS (ta.getD ((0:Int).toNat) default)) Q (gg Q) Q (ab 0 Q) hbj W9 Q Q<|go 3<|cf H ?_ ?_ <;> intro H
 ·
  refine WP.skip<|sp ?_
  cases H.out; exact ek 1
 refine wr 5 0<|go 1<|gr H fun gar H=>?_
 have hbl:(1:Int).toNat<ta.length:=bC gar
 refine Dv.kQ Q T Q (ab 0 Q) Q eb W9 c9 gar.1 gar.2<|Dv.oZ (j:=((1:Int).toNat)) (f:=0) (p:=vS (ta.getD ((1:Int).toNat) default)) Q T Q (ab 0 Q) hbl W9 Q Q<|Dv.F0 Q T Q sP<|gq 1 ?_
 cases H.out; exact ek 1
theorem fZ.c {p0_:OV} (h:fZ.f a0 a1=some r):Tr prog 120 [eq p0_.1,agg (bB.enc a1)] [jX.O p0_ a0] (γ:=Unit) (fun _=>True) (fun g=>lr [agg (Pos.enc r.1),vB r.2]) (fun g=>[jX.O p0_ a0]):=by
 refine tf func120 h fun R0 F H=>?_
 refine wr 3 3<|Dv.box Q T Q cA nofun fun ba=>al Q T tP nofun fun bc=>go 1<|WP.seq<|wg (jX.iU 2 Q) fun ga haa=>?_
 refine dg mX 12 1536<|go 1<|Dv.bW haa Q T Q<|fp haa Q T Q uo<|gl 2 [0,3]<|Dv.mlkq (⟨0,eE⟩:Pos) Q T Q (ab 1 Q) Q (bB.kq a1) E7 C3 HK (fun _=>⟨_,Q,Cs.eqz Q⟩)<|go 1<|eh Q T Q Q<|eh Q T Q Q<|al Q T tP pD fun bd=>sx 0 Q T Q Q cA Fm Q Q Q pD ?_
 refine go 1<|wr 4 4<|gl 2 [0]<|sy 3 ?_
 refine go 1<|wg (jX.shut (p:=p0_) (m:=a0) (ga.1,ga.2) haa (pm 5 [1,2,0,3,4])) fun _ _=>?_
 cases H.out; exact rt i2 Q () 4 [1,2,3,0] 3 (.cons (au Q tR Q xR (ab 2 Q) Q) (.cons (aF Q) .nil))
theorem gW.c {p0_0 p0_1 p0_2 p0_3 p0_4:OV} (h:gW.f k a0 a1 a2=some r):Tr prog 56 [agg [eq p0_0.1,eq p0_1.1,eq p0_2.1,eq p0_3.1,eq p0_4.1],agg (bB.enc a1),vS a2] [aO.O p0_0 a0.dx,kb.O p0_1 a0.aB,cC.O p0_2 a0.aw,cJ.O p0_3 a0.bq,cI.O p0_4 a0.jE] (γ:=Unit) (fun _=>True) (fun g=>lr [agg (eV.enc r.1),vB r.2]) (fun g=>[aO.O p0_0 a0.dx,kb.O p0_1 a0.aB,cC.O p0_2 a0.aw,cJ.O p0_3 a0.bq,cI.O p0_4 a0.jE]):=by
 refine tf func56 h fun R0 F H=>?_
 refine wr 4 7<|Dv.box Q T Q cA nofun fun ba=>Dv.box Q T Q cA nofun fun bc=>al Q T zc91 nofun fun bd=>go 1<|WP.seq<|wg (kb.iU 4 Q) fun ga haa=>?_
 refine WP.dgf (kf:=10) mX [(0,false),(1,false),(2,false),(3,false),(4,false),(5,false),(6,true),(7,false),(8,false),(9,false)] [(11,true),(12,false)] Q kr<|gl 2 [5]<|Dv.bW haa Q T Q<|fp haa Q T Q Dd<|gl 2 [0,4]<|Dv.float ?_ (fun hk_=>?_)
 ·
  refine qY Q T tP pU (fun be=>?_)
  refine el H fun ta hac H=>cx 11 [2,0,1,3,4,5,6,7,8,9,10] (cL 120) (fZ.c hac (p0_:=ga.2.1)) pC fun _ _=>?_
  refine go 1<|eh Q T Q Q<|eh Q T Q Q<|sx 1 Q T Q Q cA Fm Q Q Q pD ?_
  refine go 1<|WP.seq<|wg (aO.iU 7 Q) fun gb had=>?_
  refine dg mX 25 8388608<|gl 2 [7,3]<|Dv.lI (qs:=[vS a1.aa,vS a1.ai,vS a1.ae,vB a1.ao,vI ta.1.bp,vS ta.1.bS]) (css:=[bB.enc a1,Pos.enc ta.1]) Q T wK pl91 z91 Q ⟨(aZ (bB.K.one _)),⟨(aZ (Pos.K.one _)),T⟩⟩ Q Q<|gp 2 ?_
  cases cc:ta.2
  ·
   have H:=H.cf cc
   refine go 18<|sx 6 Q T Q Q cA zm Q Q Q pD ?_
   refine go 1<|wg (kb.shut (p:=p0_1) (m:=a0.aB) (ga.1,ga.2.1,ga.2.2) haa (pm 12 [4,2,5,0,1,3,6,7,8,9,10,11])) fun _ _=>?_
   refine wg (aO.shut (p:=p0_0) (m:=a0.dx) (gb.1,gb.2) had (pm 10 [1,2,0,3,4,5,6,7,8,9])) fun _ _=>?_
   cases H.out; exact rt i2 Q () 9 [2,3,4,5,0,1,6,7,8] 4 (.cons (au Q wK Q BI (ab 3 Q) Q) (.cons (aF Q) .nil))
  have H:=H.ct cc
  refine gl 5 [8,7]<|el H fun tc hae H=>oU 12 [0,1,2,3,4,5,6,7,8,9,10,11] (cL 57) (Tr.jZ (bN.c hae (b0_:=gb.1) (v0_0:=gb.2)) (.cons (iM had) (.cons cK (.cons cK .nil)))) ?_
  refine gp 2 ?_
  cases cg:tc
  ·
   have H:=H.cf cg
   refine go 10<|sx 6 Q T Q Q cA zm Q Q Q pD ?_
   refine go 1<|wg (kb.shut (p:=p0_1) (m:=a0.aB) (ga.1,ga.2.1,ga.2.2) haa (pm 12 [4,2,5,0,1,3,6,7,8,9,10,11])) fun _ _=>?_
   refine wg (aO.shut (p:=p0_0) (m:=a0.dx) (gb.1,gb.2) had (pm 10 [1,2,0,3,4,5,6,7,8,9])) fun _ _=>?_
   cases H.out; exact rt i2 Q () 9 [2,3,4,5,0,1,6,7,8] 4 (.cons (au Q wK Q BI (ab 3 Q) Q) (.cons (aF Q) .nil))
  have H:=H.ct cg
  refine lx 4 [7] ?_
  cases ci:!a1.ao
  rotate_left
  ·
   have H:=H.ct ci
   refine go 6<|sx 6 Q T Q Q cA zm Q Q Q pD ?_
   refine go 1<|wg (kb.shut (p:=p0_1) (m:=a0.aB) (ga.1,ga.2.1,ga.2.2) haa (pm 12 [4,2,5,0,1,3,6,7,8,9,10,11])) fun _ _=>?_
   refine wg (aO.shut (p:=p0_0) (m:=a0.dx) (gb.1,gb.2) had (pm 10 [1,2,0,3,4,5,6,7,8,9])) fun _ _=>?_
   cases H.out; exact rt i2 Q () 9 [2,3,4,5,0,1,6,7,8] 4 (.cons (au Q wK Q BI (ab 3 Q) Q) (.cons (aF Q) .nil))
  have H:=H.cf ci
  refine gl 6 [7]<|sx 6 Q T Q Q cA zm Q Q Q pD ?_
  refine go 1<|wg (kb.shut (p:=p0_1) (m:=a0.aB) (ga.1,ga.2.1,ga.2.2) haa (pm 12 [4,2,5,0,1,3,6,7,8,9,10,11])) fun _ _=>?_
  refine wg (aO.shut (p:=p0_0) (m:=a0.dx) (gb.1,gb.2) had (pm 10 [1,2,0,3,4,5,6,7,8,9])) fun _ _=>?_
  cases H.out; exact rt i2 Q () 9 [2,3,4,5,0,1,6,7,8] 4 (.cons (au Q wK Q BI (ab 3 Q) Q) (.cons (aF Q) .nil))
 refine el H fun te haf H=>cx 10 [1,0,2,3,4,5,6,7,8,9] (cL 120) (fZ.c haf (p0_:=ga.2.1)) pC fun _ _=>?_
 refine go 1<|eh Q T Q Q<|eh Q T Q Q<|.fin<|qY Q T tP pU (fun bg=>?_)
 refine sx 0 Q T Q Q cA Fm Q Q Q pD ?_
 refine go 1<|WP.seq<|wg (aO.iU 7 Q) fun gb had=>?_
 refine dg mX 25 8388608<|gl 2 [7,2]<|Dv.lI (qs:=[vS a1.aa,vS a1.ai,vS a1.ae,vB a1.ao,vI te.1.bp,vS te.1.bS]) (css:=[bB.enc a1,Pos.enc te.1]) Q T wK pl91 z91 Q ⟨(aZ (bB.K.one _)),⟨(aZ (Pos.K.one _)),T⟩⟩ Q Q<|gp 2 ?_
 cases cc:te.2
 ·
  have H:=H.cf cc
  refine go 18<|sx 6 Q T Q Q cA zm Q Q Q pD ?_
  refine go 1<|wg (kb.shut (p:=p0_1) (m:=a0.aB) (ga.1,ga.2.1,ga.2.2) haa (pm 12 [4,3,5,0,1,2,6,7,8,9,10,11])) fun _ _=>?_
  refine wg (aO.shut (p:=p0_0) (m:=a0.dx) (gb.1,gb.2) had (pm 10 [1,2,0,3,4,5,6,7,8,9])) fun _ _=>?_
  cases H.out; exact rt i2 Q () 9 [2,3,4,5,0,1,6,7,8] 4 (.cons (au Q wK Q BI (ab 3 Q) Q) (.cons (aF Q) .nil))
 have H:=H.ct cc
 refine gl 5 [8,7]<|el H fun tc hae H=>oU 12 [0,1,2,3,4,5,6,7,8,9,10,11] (cL 57) (Tr.jZ (bN.c hae (b0_:=gb.1) (v0_0:=gb.2)) (.cons (iM had) (.cons cK (.cons cK .nil)))) ?_
 refine gp 2 ?_
 cases cg:tc
 ·
  have H:=H.cf cg
  refine go 10<|sx 6 Q T Q Q cA zm Q Q Q pD ?_
  refine go 1<|wg (kb.shut (p:=p0_1) (m:=a0.aB) (ga.1,ga.2.1,ga.2.2) haa (pm 12 [4,3,5,0,1,2,6,7,8,9,10,11])) fun _ _=>?_
  refine wg (aO.shut (p:=p0_0) (m:=a0.dx) (gb.1,gb.2) had (pm 10 [1,2,0,3,4,5,6,7,8,9])) fun _ _=>?_
  cases H.out; exact rt i2 Q () 9 [2,3,4,5,0,1,6,7,8] 4 (.cons (au Q wK Q BI (ab 3 Q) Q) (.cons (aF Q) .nil))
 have H:=H.ct cg
 refine lx 4 [7] ?_
 cases ci:!a1.ao
 rotate_left
 ·
  have H:=H.ct ci
  refine go 6<|sx 6 Q T Q Q cA zm Q Q Q pD ?_
  refine go 1<|wg (kb.shut (p:=p0_1) (m:=a0.aB) (ga.1,ga.2.1,ga.2.2) haa (pm 12 [4,3,5,0,1,2,6,7,8,9,10,11])) fun _ _=>?_
  refine wg (aO.shut (p:=p0_0) (m:=a0.dx) (gb.1,gb.2) had (pm 10 [1,2,0,3,4,5,6,7,8,9])) fun _ _=>?_
  cases H.out; exact rt i2 Q () 9 [2,3,4,5,0,1,6,7,8] 4 (.cons (au Q wK Q BI (ab 3 Q) Q) (.cons (aF Q) .nil))
 have H:=H.cf ci
 refine gl 6 [7]<|sx 6 Q T Q Q cA zm Q Q Q pD ?_
 refine go 1<|wg (kb.shut (p:=p0_1) (m:=a0.aB) (ga.1,ga.2.1,ga.2.2) haa (pm 12 [4,3,5,0,1,2,6,7,8,9,10,11])) fun _ _=>?_
 refine wg (aO.shut (p:=p0_0) (m:=a0.dx) (gb.1,gb.2) had (pm 10 [1,2,0,3,4,5,6,7,8,9])) fun _ _=>?_
 cases H.out; exact rt i2 Q () 9 [2,3,4,5,0,1,6,7,8] 4 (.cons (au Q wK Q BI (ab 3 Q) Q) (.cons (aF Q) .nil))
theorem slices_Sort_string.c {p0_:OV} (h:slices_Sort_string.f a0=some r):Tr prog 242 [eq p0_.1] [own aE p0_.1 a0] (γ:=Unit) (fun _=>True) (fun g=>lr []) (fun g=>[own aE p0_.1 r]):=by
 unfold slices_Sort_string.f at h
 obtain ⟨h0,h5⟩:=(aW.of h).an
 obtain rfl:=aW.out h5
 exact HL (fun aJ off cap ss w=>Go.Proofs.Any.slices_Sort_string Tryz.lays190 aJ off cap ss w) (fun q cap w=>Go.Proofs.Any.slices_Sort_string_none Tryz.lays190 q cap w) h0
theorem gH.c {b0_:Nat} {v0_0:OV} (h:gH.f a0=some r):Tr prog 181 [eW b0_] [aJ b0_ 186 [eq v0_0.1],kK Value.string bn.O v0_0.1 a0.br] (γ:=OV) (fun _=>True) (fun g=>eq g.1) (fun g=>[aJ b0_ 186 [eq v0_0.1],kK Value.string bn.O v0_0.1 a0.br,own aE g.1 r]):=by
  unfold gH.f at h
  obtain ⟨h0,h5⟩:=(aW.of h).an
  obtain rfl:=aW.out h5
  clear h h5
  refine Tr.body func181 (c:=_) Q ntmps181 (Nat.le_of_ble_eq_true Q) fun R0 F=>?_
  refine so<|sp ?_
  refine WP.Ft (β:=List Nat×OV) (fun b=>b.1.Perm (List.range a0.br.length)) (fun b=>[(3,eq b.2.1)]) (fun b=>[own aE b.2.1 (kS a0.br (fun e=>some e.1) b.1),aJ b0_ 186 [eq v0_0.1],kK Value.string bn.O v0_0.1 a0.br]++F) (fun b hb=>?_) ?_
  rotate_left
  · refine wr 5 16<|lx 4 [0] ?_
    refine Dv.gh (l':=fun ps:List OV=>[mp Value.string (fun p:OV=>eq p.1) v0_0.1 (cW a0.br ps),q7 bn.O a0.br ps,aJ b0_ 186 [eq v0_0.1]]++F) (iZ (mI 1 Q)) (fun ps hps=>?_)
    refine Dv.rgb (jj:=0) Q T Q Q Ed nofun (fun q=>.fin ?_)
    refine WP.gh (l':=fun _:Unit=>[tO Value.string (fun p:OV=>eq p.1) v0_0.1 q.1 (cW a0.br ps) [],q7 bn.O a0.br ps,aJ b0_ 186 [eq v0_0.1]]++F) (iZ (ok:=fun _=>True) fun R w k=>⟨(),T,k⟩) (fun _ _=>?_)
    refine WP.gh (l':=fun _:Unit=>[own aE lM.1 [],tO Value.string (fun p:OV=>eq p.1) v0_0.1 q.1 (cW a0.br ps) [],q7 bn.O a0.br ps,aJ b0_ 186 [eq v0_0.1]]++F) (iZ (eK aE none)) (fun _ _=>?_)
    refine WP.block ?_
    refine WP.jZ (E':=(fun b:List Nat×OV=>[(3,eq b.2.1),(9,eq q.1)]) ([],lM)) (cU Q (cU Q jN)) (WP.loop (β:=List Nat×OV) (fun k b=>b.1.length+k=a0.br.length) (fun b=>[(3,eq b.2.1),(9,eq q.1)]) (fun b=>[own aE b.2.1 (kS a0.br (fun e=>some e.1) b.1),tO Value.string (fun p:OV=>eq p.1) v0_0.1 q.1 (cW a0.br ps) b.1,q7 bn.O a0.br ps,aJ b0_ 186 [eq v0_0.1]]++F) ?_ (k:=a0.br.length) (b:=([],lM)) (Nat.zero_add _))
    rintro k ⟨is,v⟩ hk
    replace hk:is.length+k=a0.br.length:=hk
    refine wr 2 1<|Dv.rgn (jj:=1) Q T Q Q nofun (fun z hz=>?_)
    rcases z with _ | j
    · have hz:is.Perm (List.range (cW a0.br ps).length):=hz
      rw [qq hps.1] at hz
      refine eh Q T Q Q<|.fin<|WP.seq<|WP.cond Q nofun (fun _=>WP.exit ?_)
      refine Dn.gh (l':=fun _:Unit=>[own aE v.1 (kS a0.br (fun e=>some e.1) is),tO Value.string (fun p:OV=>eq p.1) v0_0.1 q.1 (cW a0.br ps) is,q7 bn.O a0.br ps,aJ b0_ 186 [eq v0_0.1]]++F) (iZ (ok:=fun _=>True) fun R w k=>⟨(),T,k⟩) (fun _ _=>?_)
      refine Dn.gh (l':=fun _:Unit=>[mp Value.string (fun p:OV=>eq p.1) v0_0.1 (cW a0.br ps),own aE v.1 (kS a0.br (fun e=>some e.1) is),q7 bn.O a0.br ps,aJ b0_ 186 [eq v0_0.1]]++F) (iZ (FO (pm 4 [1,0,2,3]))) (fun _ _=>?_)
      refine Dn.gh (l':=fun _:Unit=>[kK Value.string bn.O v0_0.1 a0.br,own aE v.1 (kS a0.br (fun e=>some e.1) is),aJ b0_ 186 [eq v0_0.1]]++F) (iZ (iA hps Q (pm 4 [0,2,1,3]))) (fun _ _=>?_)
      exact Jn.mk (is,v) hz (cU Q jN) (oJ 3 [1,2,0] kr Q Q)
    have hz:j<(cW a0.br ps).length∧j ∉ is∧is.length<(cW a0.br ps).length:=hz
    obtain ⟨e,p,he,hp,hep⟩:=zQ hps hz.1
    have hlt:is.length<a0.br.length:=by rw [← qq hps.1]; exact hz.2.2
    have hsl:=Nat.le_trans (zH (m:=a0.br) (f:=(fun e=>some e.1)) (is:=is)) (Nat.le_of_lt hlt)
    have e1:nxV Value.string (fun p:OV=>eq p.1) (cW a0.br ps) (some j)=lr [vB true,vS e.1,eq p.1]:=by simp only [nxV,hep]
    rw [e1]
    refine eh Q T Q Q<|.fin<|WP.seq<|WP.cond Q (fun _=>WP.skip ?_) nofun
    refine WP.gh (l':=fun _:Unit=>[own aE v.1 (kS a0.br (fun e=>some e.1) is),tO Value.string (fun p:OV=>eq p.1) v0_0.1 q.1 (cW a0.br ps) (is++[j]),q7 bn.O a0.br ps,aJ b0_ 186 [eq v0_0.1]]++F) (iZ (ok:=fun _=>True) fun R w k=>⟨(),T,k⟩) (fun _ _=>?_)
    refine WP.block<|wr 3 0<|Dv.rge 1 Q T Q Q hep ?_
    refine eh Q T Q Q<|gq 1 ?_
    have e6:=wW (f:=(fun e=>some e.1)) (is:=is) he rfl
    have hbd:(kS a0.br (fun e=>some e.1) is).length+([e.1]:List BA).length≤9223372036854775807∧((kS a0.br (fun e=>some e.1) is).length+([e.1]:List BA).length)*16≤140737488355328:=by rw [List.length_singleton]; omega
    refine rg 5 8<|go 2<|Dv.lit aE ([e.1]:List BA) (css:=[[vS e.1]]) Q T eb W9 c9 z9 Q dc dc Q ⟨(cells_one (ah Q)),T⟩ Q Q Q<|ap aE 0 ([e.1]:List BA) bQ eb (.inr ⟨_,eb⟩) zE hbd nofun fun v9=>go 1 ?_
    rw [e6]
    exact wu.mk (k-1) (is++[j],v9) om (by show (is++[j]).length+(k-1)=_; rw [List.length_append,List.length_singleton]; omega) (cU Q (cU Q jN)) (List.Perm.refl _)
  obtain ⟨is,v3⟩:=b
  replace hb:is.Perm (List.range a0.br.length):=hb
  have hp:=wL (f:=(fun e=>some e.1)) hb
  have hs:slices_Sort_string.f (kS a0.br (fun e=>some e.1) is)=some (o0 (a0.br.map (·.1))):=by
    have e7:a0.br.filterMap (fun e=>some e.1)=a0.br.map (·.1):=by rw [← List.filterMap_eq_map]; rfl
    rw [e7] at hp
    unfold slices_Sort_string.f Sp.an
    rw [if_pos (by rw [hp.length_eq,List.length_map]; omega),I0 hp]
  refine wr 2 2<|go 1<|cx 3 [0,1,2] (cL 242) (slices_Sort_string.c hs (p0_:=v3)) nofun fun _ _=>.fin ?_
  refine so<|rt i2 Q v3 3 [1,2,0] 0 (.cons (aF Q) .nil)
theorem dM.c {cb0_ cd0_:Nat} {cq0_ cv0_0:OV} {ch0_:cq0_.1 = .pointer (some ⟨cd0_,0,none⟩)} {c0:aO} {c1:BA} (h:dM.f k a0 c0 c1=some r):Tr prog 182 [vS a0,eW cb0_,rp [vS c1]] [aJ cb0_ 24 [eq cq0_.1],aJ cd0_ 186 [eq cv0_0.1],kK Value.string bn.O cv0_0.1 c0.br] (γ:=Unit) (fun _=>True) (fun g=>vB r) (fun g=>[aJ cb0_ 24 [eq cq0_.1],aJ cd0_ 186 [eq cv0_0.1],kK Value.string bn.O cv0_0.1 c0.br]):=by
 refine tf func182 h fun R0 F H=>?_
 refine so<|wr 6 0<|gl 2 [0]<|mL Q T Q qN Q<|el H fun ta haa H=>oU 3 [1,2,0] (cL 57) (Tr.jZ (bN.c haa (b0_:=cd0_) (v0_0:=cv0_0)) (.cons (iM ch0_) (.cons cK (.cons cK .nil)))) ?_
 refine gq 2 ?_
 cases H.out; exact et () 3 [0,1,2] 0
theorem fX.c {p0_:OV} (h:fX.f k a0 a1=some r):Tr prog 123 [eq p0_.1,vS a1] [aO.O p0_ a0] (γ:=OV) (fun _=>True) (fun g=>eq g.1) (fun g=>[aO.O p0_ a0,own aE g.1 r]):=by
 refine tf func123 h fun R0 F H=>?_
 refine wr 3 3<|Dv.box Q T Q (cells_one bL) nofun fun ba=>Dv.box Q T Q cE nofun fun bc=>go 1<|wr 5 10<|gl 1 [1]<|vg (aO.iU 2 Q) fun ga haa=>?_
 refine el H fun ta hac H=>cx 4 [0,1,2,3] (cL 181) (Tr.jZ (gH.c hac (b0_:=ga.1) (v0_0:=ga.2)) (.cons (iM haa) .nil)) nofun fun gb _=>?_
 refine Dv.gh (r9 (E':=[(0,eq p0_.1),(1,vS a1),(2,eW ba),(3,rp [vS a1]),(4,eU),(6,eq gb.1)]) (l':=[aJ ga.1 186 [eq ga.2.1],kK Value.string bn.O ga.2.1 a0.br,own aE gb.1 ta,aJ ba 24 [eq p0_.1]]++F) 3 Q (ar Q ay (ar Q ay (ar Q ay (ar Q kJ (ar Q ay (ar Q ay jG)))))) (gL (.cons bU (.cons bU (.cons bU (.cons bU .nil)))) fun _=>bU)) (fun _ _=>?_)
 refine Dv.mkx (Q:=jL (fun a0_=>dM.f k a0_ a0 a1)) (L:=[aJ ba 24 [eq p0_.1],aJ ga.1 186 [eq ga.2.1],kK Value.string bn.O ga.2.1 a0.br]) (cL 182) (by rintro _ _ ⟨a0_,r_,h_,rfl,rfl⟩; exact dM.c h_ (cb0_:=ba) (cq0_:=p0_) (cd0_:=ga.1) (ch0_:=haa) (cv0_0:=ga.2)) Q T Q Q<|el H fun tc had H=>cx 4 [2,3,0,1] (cL 71) (Tr.JA (A:=[own aE gb.1 ta]) (L:=[aJ ba 24 [eq p0_.1],aJ ga.1 186 [eq ga.2.1],kK Value.string bn.O ga.2.1 a0.br]) (B:=fun gi:OV=>[own aE gi.1 tc]) (slices_DeleteFunc_string_xo.c had (p0_:=gb) (X1_:=(pk [aJ ba 24 [eq p0_.1],aJ ga.1 186 [eq ga.2.1],kK Value.string bn.O ga.2.1 a0.br])))) nofun fun gi _=>?_
 refine go 1<|wg (aO.shut (p:=p0_) (m:=a0) (ga.1,ga.2) haa (pm 4 [1,2,0,3])) fun _ _=>?_
 cases H.out; exact et gi 3 [1,0,2] 1
theorem dN.c {cb0_ cd0_:Nat} {cq0_ cv0_0:OV} {ch0_:cq0_.1 = .pointer (some ⟨cd0_,0,none⟩)} {c0:aO} {c1:BA} (h:dN.f k a0 c0 c1=some r):Tr prog 124 [vS a0,eW cb0_,rp [vS c1]] [aJ cb0_ 24 [eq cq0_.1],aJ cd0_ 186 [eq cv0_0.1],kK Value.string bn.O cv0_0.1 c0.br] (γ:=Unit) (fun _=>True) (fun g=>vB r) (fun g=>[aJ cb0_ 24 [eq cq0_.1],aJ cd0_ 186 [eq cv0_0.1],kK Value.string bn.O cv0_0.1 c0.br]):=by
 refine tf func124 h fun R0 F H=>?_
 refine so<|wr 5 0<|gl 2 [0]<|mL Q T Q qN Q<|el H fun ta haa H=>oU 3 [1,2,0] (cL 57) (Tr.jZ (bN.c haa (b0_:=cd0_) (v0_0:=cv0_0)) (.cons (iM ch0_) (.cons cK (.cons cK .nil)))) ?_
 refine gq 1 ?_
 cases H.out; exact et () 3 [0,1,2] 0
theorem fi.c {p0_:OV} (h:fi.f k a0 a1 a2=some r):Tr prog 58 [eq p0_.1,vS a1,vS a2] [aO.O p0_ a0] (γ:=Unit) (fun _=>True) (fun g=>vB r) (fun g=>[aO.O p0_ a0]):=by
 refine tf func58 h fun R0 F H=>?_
 refine wr 3 3<|Dv.box Q T Q (cells_one bL) nofun fun ba=>Dv.box Q T Q cE nofun fun bc=>go 1<|wr 6 4<|gl 2 [1]<|el H fun ta haa H=>cx 3 [2,0,1] (cL 123) (fX.c haa (p0_:=p0_)) nofun fun ga _=>?_
 refine vg (aO.iU 0 Q) fun gb hac=>?_
 refine Dv.gh (r9 (E':=[(0,eq p0_.1),(1,vS a1),(2,vS a2),(3,eW ba),(5,rp [vS a2]),(6,vB false),(9,eq ga.1)]) (l':=[aJ gb.1 186 [eq gb.2.1],kK Value.string bn.O gb.2.1 a0.br,own aE ga.1 ta,aJ ba 24 [eq p0_.1]]++F) 3 Q (ar Q ay (ar Q ay (ar Q ay (ar Q ay (ar Q kJ (ar Q ay (ar Q ay jG))))))) (gL (.cons bU (.cons bU (.cons bU (.cons bU .nil)))) fun _=>bU)) (fun _ _=>?_)
 refine Dv.mkx (Q:=jL (fun a0_=>dN.f k a0_ a0 a2)) (L:=[aJ ba 24 [eq p0_.1],aJ gb.1 186 [eq gb.2.1],kK Value.string bn.O gb.2.1 a0.br]) (cL 124) (by rintro _ _ ⟨a0_,r_,h_,rfl,rfl⟩; exact dN.c h_ (cb0_:=ba) (cq0_:=p0_) (cd0_:=gb.1) (ch0_:=hac) (cv0_0:=gb.2)) Q T Q Q<|el H fun tc had H=>oU 4 [2,3,0,1] (cL 122) (Tr.J9 (A:=[own aE ga.1 ta]) (L:=[aJ ba 24 [eq p0_.1],aJ gb.1 186 [eq gb.2.1],kK Value.string bn.O gb.2.1 a0.br]) (cN.c had (p0_:=ga) (X1_:=(pk [aJ ba 24 [eq p0_.1],aJ gb.1 186 [eq gb.2.1],kK Value.string bn.O gb.2.1 a0.br])))) ?_
 refine go 1<|wg (aO.shut (p:=p0_) (m:=a0) (gb.1,gb.2) hac (pm 4 [0,1,2,3])) fun _ _=>?_
 cases H.out; exact et () 3 [1,2,0] 2
theorem bZ.c {v0_0 v0_1:OV} {b0_:Nat} (h:bZ.f k a0 a1 a2=some r):Tr prog 59 [eW b0_,vS a1,vI a2] [aJ b0_ 192 [eq v0_0.1,eq v0_1.1],own ak.K v0_0.1 a0.fl] (γ:=Unit) (fun _=>True) (fun g=>vI r) (fun g=>[aJ b0_ 192 [eq v0_0.1,eq v0_1.1],own ak.K v0_0.1 a0.fl]):=by
 refine tf func59 h fun R0 F H=>?_
 refine so<|wr 8 0<|go 2<|el H fun ta haa H=>oU 2 [0,1] (cL 112) (dz.c haa (b0_:=b0_) (v0_0:=v0_0) (v0_1:=v0_1)) ?_
 refine go 1<|eh Q T Q Q<|eh Q T Q Q<|go 2<|WP.seq<|so<|ce H ?_ ?_ <;> intro H
 ·
  refine sp ?_
  cases H.out; exact et () 2 [0,1] 0
 refine WP.skip<|wr 10 0<|gl 5 [0]<|gr H fun ga H=>?_
 have hac:ta.1.toNat<a0.fl.length:=bC ga
 refine Dv.kQ Q T Q (ab 1 Q) Q fS iB jh ga.1 ga.2<|Dv.pM (j:=ta.1.toNat) (f:=0) Q T Q (ab 1 Q) hac iB Q jh (Nat.le_of_ble_eq_true Q)<|go 1<|el H fun tc had H=>cl Q (cL 125) Q (dW.c had)<|gq 1 ?_
 cases H.out; exact et () 2 [0,1] 0
theorem hJ.c (h:hJ.f a0=some r):Pt prog 130 [vB a0] (vI r):=by
 refine pf func130 h fun R0 F H=>?_
 refine so<|WP.seq<|so<|ce H ?_ ?_ <;> intro H
 ·
  refine sp ?_
  cases H.out; exact ek 0
 refine WP.skip<|sp ?_
 cases H.out; exact ek 0
theorem iq.c (h:iq.f k a0 a1=some r):Pt prog 62 [agg (bB.enc a0),agg (bB.enc a1)] (vI r):=by
 refine pf func62 h fun R0 F H=>?_
 refine wr 3 3<|Dv.box Q T Q cA nofun fun ba=>Dv.box Q T Q cA nofun fun bc=>go 1<|wd mX 25 0<|gl 4 [1,0]<|el H fun ta haa H=>cl Q (cL 65) Q (aC.c haa)<|gl 4 [1,0]<|el H fun tc hac H=>cl Q (cL 65) Q (aC.c hac)<|gl 4 [1,0]<|el H fun te had H=>cl Q (cL 65) Q (aC.c had)<|gl 2 [1]<|el H fun tg hae H=>cl Q (cL 130) Q (hJ.c hae)<|gl 2 [0]<|el H fun tj haf H=>cl Q (cL 130) Q (hJ.c haf)<|el H fun tm hag H=>cl Q (cL 129) Q (cB.c hag)<|Dv.lit (bG .i64) ([ta,tc,te,tm]:List Int) (css:=[[vI ta],[vI tc],[vI te],[vI tm]]) Q T ry W3 c3 z3 Q dc dc Q ⟨(cells_one (ah Q)),⟨(cells_one (ah Q)),⟨(cells_one (ah Q)),⟨(cells_one (ah Q)),T⟩⟩⟩⟩ Q Q Q<|el H fun tn hah H=>cl Q (cL 128) Q (bD.c hah)<|gq 1 ?_
 cases H.out; exact ek 2
theorem mQ.c (h:mQ.f k a0 a1=some r):Pt prog 61 [agg (eV.enc a0),agg (eV.enc a1)] (vI r):=by
 refine pf func61 h fun R0 F H=>?_
 refine wr 3 3<|Dv.box Q T Q cA nofun fun ba=>Dv.box Q T Q cA nofun fun bc=>go 1<|wr 6 0<|gl 4 [1,0]<|el H fun ta haa H=>cl Q (cL 62) Q (iq.c haa)<|gq 1 ?_
 cases H.out; exact ek 2
theorem qC (x y:BA):aC.f x y=some (jV x y):=by
 unfold aC.f cmp_isNaN_string.f jV
 simp only [Option.bind_some,bne_self_eq_false,decide_true,Bool.not_true,cond_false]
 cases dI x y <;> cases dI y x <;> rfl
theorem BO:AZ mR:=(sf.uL (fun x:bB=>x.aa)).or ((sf.uL (fun x:bB=>x.ai)).or ((sf.uL (fun x:bB=>x.ae)).or (IS.uL (fun x:bB=>if x.ao then 1 else 0))))
theorem ED (x y:Int):cB.f x y=some (nq x y):=by
 unfold cB.f cmp_isNaN_int.f nq
 simp only [Option.bind_some,bne_self_eq_false,cond_false]
 by_cases h:x<y
 ·
  simp [h]
 by_cases k:y<x <;> simp [h,k]
theorem or4_f (a b c d:Int):bD.f 8 [a,b,c,d]=some (Eo a (Eo b (Eo c d))):=by
 unfold Eo
 have e1:IntKind.i64.wrap 1=1:=dc
 have e2:IntKind.i64.wrap 2=2:=dc
 have e3:IntKind.i64.wrap 3=3:=dc
 have e4:IntKind.i64.wrap 4=4:=dc
 by_cases h1:a=0 <;> by_cases h2:b=0 <;> by_cases h3:c=0 <;> by_cases h4:d=0 <;> simp [bD.f,bD.l0,Kd.at,bG,an,fall,h1,h2,h3,h4,av,e1,e2,e3,e4,bne_iff_ne,show ∀ x:Int,(x != 0)=decide (x≠0) from fun x=>by by_cases h:x=0 <;> simp [h]]
theorem KC (x y:bB):iq.f 8 x y=some (mR x y):=by
 unfold iq.f hJ.f
 rw [qC,qC,qC]
 have e:∀ b:Bool,(cond b (some 1) (some 0):Option Int)=some (if b then 1 else 0):=fun b=>by cases b <;> rfl
 simp only [Option.bind_some,e,ED,or4_f]
 rfl
theorem aU.G5 (x y:eV):mQ.f 8 x y=some (aU.cf x y):=by
 unfold mQ.f
 rw [KC]
 rfl
theorem aU.AL:AZ aU.cf:=BO.uL (fun x:eV=>x.bY)
theorem aU.c {p0_:OV} (h:aU.f a0=some r):Tr prog 60 [eq p0_.1,eq (.func (.func 61) #[] #[])] [own eV.K p0_.1 a0] (γ:=Unit) (fun _=>True) (fun g=>lr []) (fun g=>[own eV.K p0_.1 r]):=by
 unfold aU.f at h
 obtain ⟨⟨h0,hT⟩,h5⟩:=(aW.of h).an
 obtain rfl:=aW.out h5
 exact sY (K:=eV.K) (fun _=>(bP gS (bP gS (bP gS (bP gS (bP gS (bP gS mE))))))) dc aU.AL.swo hT (fun x y=>mQ.c (aU.G5 x y)) (fun ev hk h1 cf hO aJ off cap d w hc hH hb hs=>AnyQ.slices_SortFunc Tryz.lays6f60 6 Tryz.isAgg91 Tryz.sizeOf91 ev hk h1 cf hO 61 #[] aJ off cap d w (enters_of func61 kr Q) hc hH hb hs) (fun q cap w=>AnyF.slices_SortFunc_none Tryz.lays6f60 q cap _ w) om
theorem mV.c (h:mV.f a0 a1=some r):Pt prog 64 [agg (eC.enc a0),agg (eC.enc a1)] (vI r):=by
 refine pf func64 h fun R0 F H=>?_
 refine wr 3 3<|Dv.box Q T Q cA nofun fun ba=>Dv.box Q T Q cA nofun fun bc=>go 1<|wr 6 0<|gl 4 [1,0]<|el H fun ta haa H=>cl Q (cL 65) Q (aC.c haa)<|gq 1 ?_
 cases H.out; exact ek 2
theorem aL.G5 (x y:eC):mV.f x y=some (aL.cf x y):=by
 unfold mV.f
 rw [qC]
 rfl
theorem aL.AL:AZ aL.cf:=sf.uL (fun x:eC=>x.aa)
theorem aL.c {p0_:OV} (h:aL.f a0=some r):Tr prog 63 [eq p0_.1,eq (.func (.func 64) #[] #[])] [own eC.K p0_.1 a0] (γ:=Unit) (fun _=>True) (fun g=>lr []) (fun g=>[own eC.K p0_.1 r]):=by
 unfold aL.f at h
 obtain ⟨⟨h0,hT⟩,h5⟩:=(aW.of h).an
 obtain rfl:=aW.out h5
 exact sY (K:=eC.K) (fun _=>(bP gS (bP (wY (fun _=>(bP gS mE))) mE))) dc aL.AL.swo hT (fun x y=>mV.c (aL.G5 x y)) (fun ev hk h1 cf hO aJ off cap d w hc hH hb hs=>AnyQ.slices_SortFunc Tryz.lays6f63 2 Tryz.isAgg94 Tryz.sizeOf94 ev hk h1 cf hO 64 #[] aJ off cap d w (enters_of func64 kr Q) hc hH hb hs) (fun q cap w=>AnyF.slices_SortFunc_none Tryz.lays6f63 q cap _ w) om
theorem mS.c (h:mS.f a0 a1=some r):Pt prog 67 [agg (eS.enc a0),agg (eS.enc a1)] (vI r):=by
 refine pf func67 h fun R0 F H=>?_
 refine wr 3 3<|Dv.box Q T Q cA nofun fun ba=>Dv.box Q T Q cA nofun fun bc=>go 1<|wr 6 0<|gl 4 [1,0]<|el H fun ta haa H=>cl Q (cL 65) Q (aC.c haa)<|gq 1 ?_
 cases H.out; exact ek 2
theorem aK.G5 (x y:eS):mS.f x y=some (aK.cf x y):=by
 unfold mS.f
 rw [qC]
 rfl
theorem aK.AL:AZ aK.cf:=sf.uL (fun x:eS=>x.ai)
theorem aK.c {p0_:OV} (h:aK.f a0=some r):Tr prog 66 [eq p0_.1,eq (.func (.func 67) #[] #[])] [own eS.K p0_.1 a0] (γ:=Unit) (fun _=>True) (fun g=>lr []) (fun g=>[own eS.K p0_.1 r]):=by
 unfold aK.f at h
 obtain ⟨⟨h0,hT⟩,h5⟩:=(aW.of h).an
 obtain rfl:=aW.out h5
 exact sY (K:=eS.K) (fun _=>(bP gS (bP gS mE))) dc aK.AL.swo hT (fun x y=>mS.c (aK.G5 x y)) (fun ev hk h1 cf hO aJ off cap d w hc hH hb hs=>AnyQ.slices_SortFunc Tryz.lays6f66 2 Tryz.isAgg96 Tryz.sizeOf96 ev hk h1 cf hO 67 #[] aJ off cap d w (enters_of func67 kr Q) hc hH hb hs) (fun q cap w=>AnyF.slices_SortFunc_none Tryz.lays6f66 q cap _ w) om
theorem sync_Make.c {p0_0 p0_1 p0_2 p0_3 p0_4:OV} (h:sync_Make.f k a0 a1 a2 a3=some r):Tr prog 14 [agg [eq p0_0.1,eq p0_1.1,eq p0_2.1,eq p0_3.1,eq p0_4.1],vS a1,vI a2,vI a3] [aO.O p0_0 a0.dx,kb.O p0_1 a0.aB,cC.O p0_2 a0.aw,cJ.O p0_3 a0.bq,cI.O p0_4 a0.jE] (γ:=Unit) (fun _=>True) (fun g=>lr [agg (tC.enc r.1),vI r.2]) (fun g=>[aO.O p0_0 a0.dx,kb.O p0_1 a0.aB,cC.O p0_2 a0.aw,cJ.O p0_3 a0.bq,cI.O p0_4 a0.jE]):=by
 refine tf func14 h fun R0 F H=>?_
 refine wr 3 3<|Dv.box Q T Q cA nofun fun ba=>al Q T Av nofun fun bc=>go 1<|WP.seq<|wr 9 64<|gp 3 ?_
 rcases bm H with ⟨cc,H⟩ | ⟨cc,H⟩
 rotate_left
 ·
  refine sh 21 cc ?_
  refine sh 22 cc ?_
  refine go 3<|Dv.CX Q ⟨_,_,Q,Q,.inl Q⟩ nofun<|go 2<|WP.cond Q (fun _=>?_) nofun
  refine wr 3 2<|Dv.lI (qs:=[vI 0,eU,eU,eU]) (css:=[]) Q T KS Ky z59 Q T Q Q<|sy 0 ?_
  refine gq 1 ?_
  cases H.out; exact rt i2 Q () 7 [0,1,2,3,4,5,6] 2 (.cons (qw (au Q KS Q c59 (ab 0 Q) Q) (pq (.cons cK (.cons dE (.cons dE (.cons dE .nil)))))) (.cons (aF Q) .nil))
 refine sh 21 cc ?_
 refine sh 22 cc ?_
 refine gl 3 [1]<|el H fun ta haa H=>cx 7 [6,0,1,2,3,4,5] (cL 53) (iD.c haa (p0_:=p0_4)) nofun fun _ _=>?_
 refine go 2<|ce H ?_ ?_ <;> intro H
 ·
  refine wr 3 2<|Dv.lI (qs:=[vI 0,eU,eU,eU]) (css:=[]) Q T KS Ky z59 Q T Q Q<|sy 1 ?_
  refine gq 1 ?_
  cases H.out; exact rt i2 Q () 7 [1,2,3,4,5,6,0] 2 (.cons (qw (au Q KS Q c59 (ab 1 Q) Q) (pq (.cons cK (.cons dE (.cons dE (.cons dE .nil)))))) (.cons (aF Q) .nil))
 refine WP.skip<|wr 6 52<|gl 2 [2]<|el H fun tc hac H=>cx 7 [0,1,2,3,4,5,6] (cL 53) (iD.c hac (p0_:=p0_4)) nofun fun _ _=>?_
 refine Dv.lI (qs:=[vI tc,eU,eU,eU]) (css:=[[vI tc]]) Q T KS Ky z59 Q ⟨(cells_one (ah Q)),T⟩ Q Q<|al Q T Av nofun fun bd=>sy 0 ?_
 refine .fin<|WP.lG H (fun qh:(Int×Int×Bool×(List BA)×(List eV)×(List eC)×(List eS))×OV×OV×OV×OV=>qh.1) (fun qh=>[(8,eW bc),(10,eW bd)]) (fun qh=>[aJ bd 59 [vI tc,eq qh.2.2.1.1,eq qh.2.2.2.1.1,eq qh.2.2.2.2.1],aJ bc 59 [vI 0,eU,eU,eU],aJ ba 30 [eq p0_0.1,eq p0_1.1,eq p0_2.1,eq p0_3.1,eq p0_4.1],cI.O p0_4 a0.jE,aO.O p0_0 a0.dx,kb.O p0_1 a0.aB,cC.O p0_2 a0.aw,cJ.O p0_3 a0.bq,own aE qh.2.1.1 qh.1.2.2.2.1,own eV.K qh.2.2.1.1 qh.1.2.2.2.2.1,own eC.K qh.2.2.2.1.1 qh.1.2.2.2.2.2.1,own eS.K qh.2.2.2.2.1 qh.1.2.2.2.2.2.2]++F) (fun qh H=>?_) (fun H=>?_)
 ·
  obtain ⟨pa,va,vb,vd,ve⟩:=qh
  refine wr 3 4<|gl 2 [0]<|el H fun te had H=>cx 12 [9,0,1,2,3,4,5,6,7,8,10,11] (cL 60) (aU.c had (p0_:=vb)) nofun fun _ _=>?_
  refine .fin<|wr 3 4<|gl 2 [1]<|el H fun tg hae H=>cx 12 [10,0,1,2,3,4,5,6,7,8,9,11] (cL 63) (aL.c hae (p0_:=vd)) nofun fun _ _=>?_
  refine .fin<|wr 3 4<|gl 2 [2]<|el H fun tj haf H=>cx 12 [11,0,1,2,3,4,5,6,7,8,9,10] (cL 66) (aK.c haf (p0_:=ve)) nofun fun _ _=>?_
  refine .fin<|wr 3 2<|gl 1 [3]<|sy 4 ?_
  refine go 1<|fz 2 [8,9] [0,0,1,1] ?_
  refine fz 1 [8,9] [0,1,1] ?_
  refine fz 0 [8,9] [1,1] ?_
  cases H.out; exact rt i2 Q () 9 [0,1,2,8,4,5,6,7,3] 4 (.cons (au Q KS Q c59 (ab 1 Q) Q) (.cons (aF Q) .nil))
 refine wr 6 8<|gl 3 [3]<|el H fun tm hag H=>cx 8 [1,0,2,3,4,5,6,7] (cL 54) (cD.c hag (p0_:=p0_4)) nofun fun ga _=>?_
 refine Dv.kZ Q T Q (ab 1 Q) eb<|go 1<|WP.block<|wg (eK eV.K none) fun _ _=>?_
 refine wg (eK eC.K none) fun _ _=>?_
 refine wg (eK eS.K none) fun _ _=>?_
 refine ws 12 [5,6,7,3,4,8,9,10,11,2,1,0] 0 ?_
 refine lq (fun j_ (pc:Int×(List eV)×(List eC)×(List eS)×OV×OV×OV)=>sync_Make.l0 k a0 a1 a3 tm j_ pc.1 pc.2.1 pc.2.2.1 pc.2.2.2.1) (0,([]:List eV),([]:List eC),([]:List eS),lM,FU,nilV2) H [1,3,4,8,10,37,38] (fun pc=>[(39,vI pc.1)]) (fun pc=>[(0,aJ bd 59 [vI tc,eq pc.2.2.2.2.1.1,eq pc.2.2.2.2.2.1.1,eq pc.2.2.2.2.2.2.1]),(9,own eV.K pc.2.2.2.2.1.1 pc.2.1),(10,own eC.K pc.2.2.2.2.2.1.1 pc.2.2.1),(11,own eS.K pc.2.2.2.2.2.2.1 pc.2.2.2.1)]) ?_
 rintro j_ ⟨xc,xd,xe,xf,vh,vi,vj⟩ H
 rcases j_ with _ | ja
 ·
  exact (aW.no H).elim
 try dsimp only at H
 rw [sync_Make.l0] at H
 refine so<|WP.seq<|cf H ?_ ?_ <;> intro H
 ·
  refine WP.exit ?_
  have H:=H.out
  refine ns 12 [0,1,2,3,5,6,7,8,4,9,10,11] 0 ?_
  exact jn (((tm.length:Int),xc,decide (xc<(tm.length:Int)),tm,xd,xe,xf),ga,vh,vi,vj) H
 refine WP.skip<|WP.seq<|WP.block<|wr 3 0<|gr H fun gb H=>?_
 have hah:xc.toNat<tm.length:=bC gb
 refine Dv.kQ Q T Q (ab 4 Q) Q eb W9 c9 gb.1 gb.2<|Dv.oZ (j:=xc.toNat) (f:=0) (p:=vS (tm.getD xc.toNat default)) Q T Q (ab 4 Q) hah W9 Q Q<|go 1<|wr 3 0<|go 1<|el H fun tn hai H=>cl Q (cL 55) Q (nv.c hai)<|go 1<|WP.lG H (fun qi:((List eV)×(List eC))×OV×OV=>qi.1) (fun qi=>[(1,vS a1),(3,vI a3),(4,eW ba),(8,eW bc),(10,eW bd),(13,jH.p tn),(37,eq ga.1),(38,vI (tm.length:Int)),(39,vI xc)]) (fun qi=>[aJ bd 59 [vI tc,eq qi.2.1.1,eq qi.2.2.1,eq vj.1],aJ bc 59 [vI 0,eU,eU,eU],aJ ba 30 [eq p0_0.1,eq p0_1.1,eq p0_2.1,eq p0_3.1,eq p0_4.1],aO.O p0_0 a0.dx,kb.O p0_1 a0.aB,cC.O p0_2 a0.aw,cJ.O p0_3 a0.bq,cI.O p0_4 a0.jE,own aE ga.1 tm,own eS.K vj.1 xf,own eV.K qi.2.1.1 qi.1.1,own eC.K qi.2.2.1 qi.1.2]++F) (fun qi H=>?_) (fun H=>?_)
 ·
  obtain ⟨pe,vk,vl⟩:=qi
  refine wr 7 0<|go 1<|Dv.tas (jH.EW tn) Q T Q<|go 1<|eh Q T Q Q<|eh Q T Q Q<|go 2<|wr 8 64<|gp 2 ?_
  rcases bm H with ⟨cg,H⟩ | ⟨cg,H⟩
  ·
   refine sh 86 cg ?_
   refine sh 19 cg ?_
   refine sh 87 cg ?_
   refine sh 88 cg ?_
   refine go 4<|Dv.CX Q ⟨_,_,Q,Q,.inl Q⟩ nofun<|go 1<|WP.cond Q nofun (fun _=>?_)
   refine WP.skip<|rg 2 0<|go 2<|ns 12 [0,1,2,7,8,3,4,5,6,10,11,9] 0 ?_
   exact bk ja (av (xc+1),pe.1,pe.2,xf,vk,vl,vj) H
  refine sh 86 cg ?_
  refine sh 19 cg ?_
  refine sh 87 cg ?_
  refine sh 88 cg ?_
  refine gl 4 [2]<|el H fun tp haj H=>cx 12 [3,0,1,2,4,5,6,7,8,9,10,11] (cL 58) (fi.c haj (p0_:=p0_0)) nofun fun _ _=>?_
  refine go 1<|cf H ?_ ?_ <;> intro H
  ·
   refine WP.skip<|rg 2 0<|go 2<|ns 12 [1,2,3,7,8,0,4,5,6,10,11,9] 0 ?_
   exact bk ja (av (xc+1),pe.1,pe.2,xf,vk,vl,vj) H
  refine wg (cJ.iU 6 Q) fun gi hak=>?_
  refine dg mX 13 5120<|gl 7 [4,6]<|el H fun tq ham H=>oU 14 [0,1,2,3,4,5,6,7,8,9,10,11,12,13] (cL 59) (Tr.jZ (bZ.c ham (b0_:=gi.1) (v0_0:=gi.2.1) (v0_1:=gi.2.2)) (.cons (iM hak) (.cons cK (.cons cK .nil)))) ?_
  refine Dv.lI (qs:=[vS ((jH.rX tn).getD eE),vI tq]) (css:=[[vS ((jH.rX tn).getD eE)],[vI tq]]) Q T Ko pl96 z96 Q ⟨(cells_one (ah Q)),⟨(cells_one (ah Q)),T⟩⟩ Q Q<|Dv.lit eS.K ([(⟨(jH.rX tn).getD eE,tq⟩:eS)]:List eS) (css:=[[vS ((jH.rX tn).getD eE),vI tq]]) Q T Fb Ko c96 z96 Q dc dc Q ⟨(aZ (aj (ah Q) (aj (ah Q) bX))),T⟩ Q Q Q<|gr H fun gj H=>ap eS.K 11 ([(⟨(jH.rX tn).getD eE,tq⟩:eS)]:List eS) bQ Fb (.inr ⟨_,Fb⟩) inf96 gj pB fun vm=>?_
  refine go 1<|sx 4 Q T Q Q (cells_one bL) sz57 Q Q Q pB ?_
  refine .fin<|rg 2 0<|go 2<|ng (cJ.shut (p:=p0_3) (m:=a0.bq) (gi.1,gi.2.1,gi.2.2) hak (pm 14 [0,1,2,3,4,5,6,7,8,9,10,11,12,13])) fun _ _=>?_
  refine ns 12 [2,3,4,7,8,1,5,6,0,10,11,9] 0 ?_
  exact bk ja (av (xc+1),pe.1,pe.2,xf++([(⟨(jH.rX tn).getD eE,tq⟩:eS)]:List eS),vk,vl,vm) H
 refine so<|WP.block<|wr 3 0<|Dv.tas (jH.HN tn) Q T Q<|eh Q T Q Q<|eh Q T Q Q<|.fin<|ce H ?_ ?_ <;> intro H
 ·
  refine wr 2 3<|al Q T zc89 nofun fun be=>sy 0 ?_
  refine .fin<|wr 10 392<|gl 3 [3,0]<|el H fun tu han H=>cx 13 [6,7,8,9,4,0,1,2,3,5,10,11,12] (cL 56) (gW.c han (p0_0:=p0_0) (p0_1:=p0_1) (p0_2:=p0_2) (p0_3:=p0_3) (p0_4:=p0_4)) nofun fun _ _=>?_
  refine go 1<|eh Q T Q Q<|eh Q T Q Q<|al Q T zc91 nofun fun bg=>sy 0 ?_
  refine go 1<|so<|cf H ?_ ?_ <;> intro H
  ·
   refine WP.skip ?_
   have H:=H.out
   refine ns 14 [0,6,7,8,9,1,2,3,4,5,10,13,11,12] 2 ?_
   exact jn ((xd,xe),vh,vi) H
  refine rg 7 80<|gl 3 [7,0]<|Dv.lit eV.K ([(⟨tu.1.bY,tu.1.gF⟩:eV)]:List eV) (css:=[[vS tu.1.bY.aa,vS tu.1.bY.ai,vS tu.1.bY.ae,vB tu.1.bY.ao,vI tu.1.gF.bp,vS tu.1.gF.bS]]) Q T Et wK BI z91 Q dc dc Q ⟨(aZ (aj (ah Q) (aj (ah Q) (aj (ah Q) (aj (ah Q) (aj (ah Q) (aj (ah Q) bX))))))),T⟩ Q Q Q<|gr H fun gk H=>ap eV.K 11 ([(⟨tu.1.bY,tu.1.gF⟩:eV)]:List eV) bQ Et (.inr ⟨_,Et⟩) inf91 gk nofun fun vn=>?_
  refine go 1<|sx 7 Q T Q Q (cells_one bL) sz55 Q Q Q nofun ?_
  refine .fin ?_
  have H:=H.out
  refine ns 14 [0,6,7,8,9,1,2,3,4,5,10,13,11,12] 2 ?_
  exact jn ((xd++([(⟨tu.1.bY,tu.1.gF⟩:eV)]:List eV),xe),vn,vi) H
 refine wr 3 0<|Dv.tas (jH.FZ tn) Q T Q<|eh Q T Q Q<|eh Q T Q Q<|.fin<|cf H ?_ ?_ <;> intro H
 ·
  refine WP.skip ?_
  have H:=H.out
  refine ns 12 [0,1,2,5,6,7,8,3,4,11,9,10] 0 ?_
  exact jn ((xd,xe),vh,vi) H
 refine so<|wr 5 0<|gl 4 [2]<|vg (aO.iU 5 Q) fun gm hao=>?_
 refine el H fun tw hap H=>oU 13 [0,1,2,3,4,5,6,7,8,9,10,11,12] (cL 57) (Tr.jZ (bN.c hap (b0_:=gm.1) (v0_0:=gm.2)) (.cons (iM hao) (.cons cK (.cons cK .nil)))) ?_
 refine .fin<|cf H ?_ ?_ <;> intro H
 ·
  refine WP.skip ?_
  have H:=H.out
  refine ng (aO.shut (p:=p0_0) (m:=a0.dx) (gm.1,gm.2) hao (pm 13 [0,1,2,3,4,5,6,7,8,9,10,11,12])) fun _ _=>?_
  refine ns 12 [1,2,3,0,6,7,8,4,5,11,9,10] 0 ?_
  exact jn ((xd,xe),vh,vi) H
 refine wg (aO.shut (p:=p0_0) (m:=a0.dx) (gm.1,gm.2) hao (pm 13 [0,1,2,3,4,5,6,7,8,9,10,11,12])) fun _ _=>?_
 refine dg mX 12 2624<|gl 6 [1,3]<|el H fun tx haq H=>Dv.zh (pre:=[aO.O p0_0 a0.dx,kb.O p0_1 a0.aB,cC.O p0_2 a0.aw,cJ.O p0_3 a0.bq,cI.O p0_4 a0.jE]) (F:=[aJ bd 59 [vI tc,eq vh.1,eq vi.1,eq vj.1],aJ bc 59 [vI 0,eU,eU,eU],aJ ba 30 [eq p0_0.1,eq p0_1.1,eq p0_2.1,eq p0_3.1,eq p0_4.1],own aE ga.1 tm,own eV.K vh.1 xd,own eC.K vi.1 xe,own eS.K vj.1 xf]++F) (fun _:Unit=>[aO.O p0_0 a0.dx,kb.O p0_1 a0.aB,cC.O p0_2 a0.aw,cJ.O p0_3 a0.bq,cI.O p0_4 a0.jE,aJ bd 59 [vI tc,eq vh.1,eq vi.1,eq vj.1],aJ bc 59 [vI 0,eU,eU,eU],aJ ba 30 [eq p0_0.1,eq p0_1.1,eq p0_2.1,eq p0_3.1,eq p0_4.1],own aE ga.1 tm,own eV.K vh.1 xd,own eC.K vi.1 xe,own eS.K vj.1 xf]++F) Q T (cL 20) Q (lv.c haq (p0_0:=p0_0) (p0_1:=p0_1) (p0_2:=p0_2) (p0_3:=p0_3) (p0_4:=p0_4)) (my (L:=[aO.O p0_0 a0.dx,aJ bd 59 [vI tc,eq vh.1,eq vi.1,eq vj.1],aJ bc 59 [vI 0,eU,eU,eU],aJ ba 30 [eq p0_0.1,eq p0_1.1,eq p0_2.1,eq p0_3.1,eq p0_4.1],cI.O p0_4 a0.jE,own aE ga.1 tm,kb.O p0_1 a0.aB,cC.O p0_2 a0.aw,cJ.O p0_3 a0.bq,own eV.K vh.1 xd,own eC.K vi.1 xe,own eS.K vj.1 xf]) (F:=F) [0,6,7,8,4,1,2,3,5,9,10,11] kr Q Q) Q pE (fun _ _=>?_)
 refine Dv.lI (qs:=[vS ((jH.sw tn).getD eE),sl aE tx]) (css:=[[vS ((jH.sw tn).getD eE)],[sl aE tx]]) Q T Lx pl94 z94 Q ⟨(cells_one (ah Q)),⟨(cells_one dP),T⟩⟩ Q Q<|Dv.lit eC.K ([(⟨(jH.sw tn).getD eE,tx⟩:eC)]:List eC) (css:=[[vS ((jH.sw tn).getD eE),sl aE tx]]) Q T Fv Lx c94 z94 Q dc dc Q ⟨(aZ (aj (ah Q) (aj dP bX))),T⟩ Q Q Q<|gr H fun gn H=>ap eC.K 10 ([(⟨(jH.sw tn).getD eE,tx⟩:eC)]:List eC) bQ Fv (.inr ⟨_,Fv⟩) inf94 gn pB fun vo=>?_
 refine go 1<|sx 5 Q T Q Q (cells_one bL) sz56 Q Q Q pB ?_
 refine .fin ?_
 have H:=H.out
 refine ns 12 [5,6,7,0,1,2,3,4,8,11,9,10] 0 ?_
 exact jn ((xd,xe++([(⟨(jH.sw tn).getD eE,tx⟩:eC)]:List eC)),vh,vo) H
end Go.Proofs.YtfknmdelgepbjaaGreatDoor
