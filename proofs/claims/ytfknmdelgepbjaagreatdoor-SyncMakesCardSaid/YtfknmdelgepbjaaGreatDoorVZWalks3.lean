import Derived.Test.YtfknmdelgepbjaaGreatDoorVZWalks2
set_option linter.all false
set_option autoImplicit true
set_option maxRecDepth 10000
set_option maxHeartbeats 20000000
namespace Go.Proofs.YtfknmdelgepbjaaGreatDoor
open Go Go.Sp Tryz
theorem nm.c {p0_0 p0_1 p0_2 p0_3 p0_4:OV} (h:nm.f k a0 a1 a2=some r):Tr prog 11 [agg [eq p0_0.1,eq p0_1.1,eq p0_2.1,eq p0_3.1,eq p0_4.1],agg (dU.enc a1),agg (ak.enc a2)] [lax,aN.O p0_0 a0.dB,j7.O p0_1 a0.aJ,bX.O p0_2 a0.az,cD.O p0_3 a0.bu,cC.O p0_4 a0.jy] (γ:=Unit) (fun _=>True) (fun g=>lu [agg (dU.enc r.1),vB r.2.1]) (fun g=>[lax,aN.O p0_0 r.2.2.dB,j7.O p0_1 r.2.2.aJ,bX.O p0_2 r.2.2.az,cD.O p0_3 r.2.2.bu,cC.O p0_4 r.2.2.jy]):=by
 refine tf func11 h fun R0 F H=>?_
 refine wr 5 15<|Dv.box Q T Q cA nofun fun ba=>Dv.box Q T Q cA nofun fun bc=>Dv.box Q T Q cA nofun fun bd=>al Q T G7 nofun fun be=>go 1<|wr 1 1<|al Q T zc116 nofun fun bg=>.fin<|so<|WP.yL H id (fun pa=>[(3,ey ba),(4,ey bc),(6,ey be),(8,ey bg),(9,vS pa.1)]) (fun pa=>[aE bg 116 [vI pa.2.1.aI,vS pa.2.1.fK.ab,vS pa.2.1.fK.aj,vS pa.2.1.fK.ae,vB pa.2.1.fK.aq,vS pa.2.1.mT],aE be 43 [dJ,dJ,dJ,dJ,dJ,dJ,dJ,vI 0],aE bd 52 (ak.enc a2),aE bc 43 [sl aM.K pa.2.2.1.fV.fD,sl MK.K pa.2.2.1.fM,sl ak.K pa.2.2.1.fT.fL,sl cG pa.2.2.1.fT.db,sl ak.K pa.2.2.1.fP.fL,sl (bq .i64) pa.2.2.1.fP.db,sl kb.K pa.2.2.1.fL,vI pa.2.2.1.aC],aE ba 30 [eq p0_0.1,eq p0_1.1,eq p0_2.1,eq p0_3.1,eq p0_4.1],j7.O p0_1 pa.2.2.2.1,aN.O p0_0 a0.dB,lax,bX.O p0_2 pa.2.2.2.2.1,cD.O p0_3 pa.2.2.2.2.2,cC.O p0_4 a0.jy]++F) (fun pa H=>?_) (fun H=>?_)
 ·
  refine so<|wr 5 8<|gl 3 [3]<|vg (dy kb.K none) fun _ _=>?_
  refine gr H fun ga H=>ap kb.K 0 pa.2.2.1.fL bD Bc (.inr ⟨_,Bc⟩) GC ga nofun fun va=>?_
  refine go 1<|wr 6 40<|gl 2 [1]<|Dv.lit kb.K ([(⟨pa.2.1.aI,pa.2.1.fK,pa.2.1.mT⟩:kb)]:List kb) (css:=[[vI pa.2.1.aI,vS pa.2.1.fK.ab,vS pa.2.1.fK.aj,vS pa.2.1.fK.ae,vB pa.2.1.fK.aq,vS pa.2.1.mT]]) Q T Bc rf xq z116 Q dc dc Q ⟨(aR (ai (ah Q) (ai (ah Q) (ai (ah Q) (ai (ah Q) (ai (ah Q) (ai (ah Q) bM))))))),T⟩ Q Q Q<|gr H fun gb H=>ap kb.K 0 ([(⟨pa.2.1.aI,pa.2.1.fK,pa.2.1.mT⟩:kb)]:List kb) bD Bc (.inr ⟨_,Bc⟩) GC gb nofun fun vb=>?_
  refine go 1<|sx 4 Q T Q Q (cells_one bG) sz41 Q Q Q nofun ?_
  refine .fin<|wr 9 8<|gl 3 [5]<|el H fun ta haa H=>cx 12 [11,0,1,2,3,4,5,6,7,8,9,10] (cL 48) (iC.c haa (p0_:=p0_4)) nofun fun _ _=>?_
  refine go 1<|eF Q T Q Q<|eF Q T Q Q<|go 2<|wd mX 11 512<|kU 4 [5] ?_
  cases cc:(ta.2.1==0)
  ·
   have H:=H.cf cc
   refine go 5<|sx 3 Q T Q Q cA HL Q Q Q pD ?_
   refine go 1<|fz 1 [6,7] [0,0,1,0,1] ?_
   cases H.out; exact rt i2 Q () 11 [1,2,3,4,5,8,7,6,9,10,0] 5 (.cons (au Q B5 Q G9 (aa 2 Q) Q) (.cons (aB Q) .nil))
  have H:=H.ct cc
  refine gl 2 [2]<|el H fun tc hac H=>Dv.call Q (gg Q) (cL 49) Q (iL.c hac)<|go 2<|sx 3 Q T Q Q cA HL Q Q Q pD ?_
  refine go 1<|fz 1 [6,7] [0,0,1,0,1] ?_
  cases H.out; exact rt i2 Q () 11 [1,2,3,4,5,8,7,6,9,10,0] 5 (.cons (au Q B5 Q G9 (aa 2 Q) Q) (.cons (aB Q) .nil))
 refine su [2]<|WP.block<|so<|ce H ?_ ?_ <;> intro H
 ·
  refine wr 16 12288<|gl 2 [3]<|Dv.kL (qs:=[vI 8,dJ,vI 0]) (css:=[[vI 8]]) Q T Bw G8 HC Q ⟨(cells_one (ah Q)),T⟩ Q Q<|Dv.kL (qs:=[sl MK.K a1.fM,vI 8,dJ,vI 0]) (css:=[[sl MK.K a1.fM],[vI 8,dJ,vI 0]]) Q T A9 GA IC Q ⟨(cells_one dL),⟨(aR (ai (ah Q) (ai (ah Q) (ai (ah Q) bM)))),T⟩⟩ Q Q<|gl 3 [3,2]<|el H fun te had H=>cl Q (cL 38) Q (Pt.kn (qH.c had) (.cons (mZ (.cons bV (.cons bV (.cons cU (.cons bV .nil))))) (.cons bV (.cons bV .nil))))<|go 1<|eF Q T Q Q<|eF Q T Q Q<|eF Q T Q Q<|al Q T Ka nofun fun bh=>sy 0 ?_
  refine go 2<|wr 4 8<|gl 3 [0]<|sx 4 Q T Q Q (cells_one dL) Jm Q Q Q nofun ?_
  refine .fin<|wr 11 32<|gl 5 [5,5,3]<|el H fun tg hae H=>cx 12 [8,7,0,1,2,3,4,5,6,9,10,11] (cL 39) (iF.c hae (p0_:=p0_1) (p1_:=p0_0)) nofun fun _ _=>?_
  refine go 1<|eF Q T Q Q<|eF Q T Q Q<|go 2<|WP.seq<|wr 8 0<|go 2<|oh Q Q Q (zK U4)<|gp 1 ?_
  rcases bm H with ⟨cg,H⟩ | ⟨cg,H⟩
  rotate_left
  ·
   refine sh 85 cg ?_
   refine sh 86 cg ?_
   refine go 4<|WP.cond Q (fun _=>?_) nofun
   refine wr 3 2<|gl 1 [6]<|sy 4 ?_
   refine gq 1 ?_
   have H:=H.fg
   cases H.out; exact rt i2 Q () 12 [2,3,4,5,6,7,8,1,0,9,10,11] 6 (.cons (au Q B5 Q G9 (aa 4 Q) Q) (.cons (aB Q) .nil))
  refine sh 85 cg ?_
  refine sh 86 cg ?_
  refine go 4<|ce H ?_ ?_ <;> intro H
  ·
   refine wr 3 2<|gl 1 [6]<|sy 4 ?_
   refine gq 1 ?_
   have H:=H.fg
   cases H.out; exact rt i2 Q () 12 [2,3,4,5,6,7,8,1,0,9,10,11] 6 (.cons (au Q B5 Q G9 (aa 4 Q) Q) (.cons (aB Q) .nil))
  refine WP.skip<|wr 4 8<|gl 1 [5]<|el H fun tj haf H=>cl Q (cL 40) Q (qw.c haf)<|Dv.kL (qs:=[vI 1,vS tj.ab,vS tj.aj,vS tj.ae,vB tj.aq,vS eE]) (css:=[[vI 1],bB.enc tj]) Q T rf xV z116 Q ⟨(cells_one (ah Q)),⟨(aR (bB.K.one _)),T⟩⟩ Q Q<|sy 3 ?_
  refine .fin<|rg 4 0<|gl 2 [3]<|el H fun tm hag H=>pJ 12 [8,0,1,2,3,4,5,6,7,9,10,11] (cL 41) (iK.c hag) ?_
  refine gq 1 ?_
  have H:=H.out
  refine ns 12 [2,3,4,5,6,7,0,1,8,9,10,11] 1 ?_
  exact jn (tm,(⟨1,tj,eE⟩:kb),(⟨a1.fV,te.1.fL,a1.fT,a1.fP,a1.fL,a1.aC⟩:dU),tg.2.2,a0.az,a0.bu) H
 refine so<|ce H ?_ ?_ <;> intro H
 ·
  refine wr 12 768<|gl 3 [3,2]<|el H fun tn hah H=>cl Q (cL 42) Q (cT.c hah)<|go 1<|eF Q T Q Q<|eF Q T Q Q<|eF Q T Q Q<|al Q T Ky nofun fun bi=>sy 0 ?_
  refine go 2<|wr 3 4<|gl 2 [0]<|sy 4 ?_
  refine .fin<|wr 9 8<|gl 3 [5,3]<|el H fun tp hai H=>cx 12 [9,0,1,2,3,4,5,6,7,8,10,11] (cL 43) (fJ.c hai (p0_:=p0_2)) nofun fun _ _=>?_
  refine go 1<|eF Q T Q Q<|eF Q T Q Q<|go 2<|WP.seq<|wr 3 0<|go 2<|oh Q Q Q (zK U4)<|.fin<|ce H ?_ ?_ <;> intro H
  ·
   refine wr 3 2<|gl 1 [5]<|sy 3 ?_
   refine gq 1 ?_
   have H:=H.fg
   cases H.out; exact rt i2 Q () 12 [1,2,3,4,5,6,7,8,9,0,10,11] 6 (.cons (au Q B5 Q G9 (aa 3 Q) Q) (.cons (aB Q) .nil))
  refine WP.skip<|wr 4 8<|gl 2 [4]<|Dv.kL (qs:=[vI 2,vS eE,vS eE,vS eE,vB false,vS a2.ab]) (css:=[[vI 2],[vS a2.ab]]) Q T rf xV z116 Q ⟨(cells_one (ah Q)),⟨(cells_one (ah Q)),T⟩⟩ Q Q<|sy 2 ?_
  refine .fin<|rg 4 0<|gl 2 [4]<|el H fun tq haj H=>cl Q (cL 44) Q (jF.c haj)<|gq 1 ?_
  have H:=H.out
  refine ns 12 [1,2,3,4,5,6,9,8,7,0,10,11] 1 ?_
  exact jn (tq,(⟨2,(⟨eE,eE,eE,false⟩:bB),a2.ab⟩:kb),(⟨a1.fV,a1.fM,tn.1,a1.fP,a1.fL,a1.aC⟩:dU),a0.aJ,tp.2.2,a0.bu) H
 refine wr 12 768<|gl 3 [3,2]<|el H fun tu hak H=>cl Q (cL 45) Q (di.c hak)<|go 1<|eF Q T Q Q<|eF Q T Q Q<|eF Q T Q Q<|al Q T Lv nofun fun bj=>sy 0 ?_
 refine go 2<|wr 3 4<|gl 2 [0]<|sy 4 ?_
 refine .fin<|wr 9 8<|gl 3 [5,3]<|el H fun tw ham H=>cx 12 [10,0,1,2,3,4,5,6,7,8,9,11] (cL 46) (eN.c ham (p0_:=p0_3)) nofun fun _ _=>?_
 refine go 1<|eF Q T Q Q<|eF Q T Q Q<|go 2<|WP.seq<|wr 3 0<|go 2<|oh Q Q Q (zK U4)<|.fin<|ce H ?_ ?_ <;> intro H
 ·
  refine wr 3 2<|gl 1 [5]<|sy 3 ?_
  refine gq 1 ?_
  have H:=H.fg
  cases H.out; exact rt i2 Q () 12 [1,2,3,4,5,6,7,8,9,10,0,11] 6 (.cons (au Q B5 Q G9 (aa 3 Q) Q) (.cons (aB Q) .nil))
 refine WP.skip<|wr 4 8<|gl 2 [4]<|Dv.kL (qs:=[vI 3,vS eE,vS eE,vS eE,vB false,vS a2.aj]) (css:=[[vI 3],[vS a2.aj]]) Q T rf xV z116 Q ⟨(cells_one (ah Q)),⟨(cells_one (ah Q)),T⟩⟩ Q Q<|sy 2 ?_
 refine .fin<|rg 4 0<|gl 2 [4]<|el H fun tx han H=>cl Q (cL 47) Q (jN.c han)<|gq 1 ?_
 have H:=H.out
 refine ns 12 [1,2,3,4,5,6,9,8,7,10,0,11] 1 ?_
 exact jn (tx,(⟨3,(⟨eE,eE,eE,false⟩:bB),a2.aj⟩:kb),(⟨a1.fV,a1.fM,a1.fT,tu.1,a1.fL,a1.aC⟩:dU),a0.aJ,a0.az,tw.2.2) H
theorem gR.c (h:gR.f k a0=some r):Pt prog 51 [vI a0] (vS r):=by
 refine pf func51 h fun R0 F H=>?_
 refine so<|wr 3 0<|go 1<|el H fun ta haa H=>cl Q (cL 10) Q (aW.c haa)<|go 1<|WP.seq<|so<|ce H ?_ ?_ <;> intro H
 ·
  refine sp ?_
  cases H.out; exact ek 0
 refine WP.skip<|WP.seq<|so<|ce H ?_ ?_ <;> intro H
 ·
  refine sp ?_
  cases H.out; exact ek 0
 refine WP.skip<|wr 3 0<|go 1<|el H fun tc hac H=>cl Q (cL 50) Q (dm.c hac)<|gq 1 ?_
 cases H.out; exact ek 0
theorem lO.c (h:lO.f k a0=some r):Pt prog 12 [agg (ak.enc a0)] (agg (ak.enc r)):=by
 refine pf func12 h fun R0 F H=>?_
 refine wr 2 3<|Dv.box Q T Q cA nofun fun ba=>al Q T wa nofun fun bc=>.fin<|wd mX 16 49152<|gl 2 [1]<|el H fun ta haa H=>cl Q (cL 10) Q (aW.c haa)<|gl 3 [1]<|el H fun tc hac H=>cl Q (cL 13) Q (im.c hac)<|gl 2 [1]<|el H fun te had H=>cl Q (cL 10) Q (aW.c had)<|gl 2 [1]<|el H fun tg hae H=>cl Q (cL 10) Q (aW.c hae)<|Dv.kL (qs:=[vI (av (1+ta)),vS eE,vS tc,vS eE,vS eE,vB false,vB false,vI 0,vI 0,vI te,vI tg]) (css:=[[vI (av (1+ta))],[vS tc],[vI te],[vI tg]]) Q T gJ Cc wm Q ⟨(cells_one (ah Q)),⟨(cells_one (ah Q)),⟨(cells_one (ah Q)),⟨(cells_one (ah Q)),T⟩⟩⟩⟩ Q Q<|al Q T wa pD fun bd=>sv 0 ?_
 refine .fin<|WP.seq<|su [0]<|WP.block<|so<|ce H ?_ ?_ <;> intro H
 ·
  refine wr 5 16<|gl 2 [2]<|el H fun tj haf H=>cl Q (cL 18) Q (en.c haf)<|go 1<|sy 0 ?_
  refine .fin<|wd mX 10 512<|gl 2 [2]<|Dv.lens Q T Q U9<|gl 2 [2]<|el H fun tm hag H=>cl Q (cL 10) Q (aW.c hag)<|go 1<|el H fun tn hah H=>cl Q (cL 50) Q (dm.c hah)<|go 1<|sv 0 ?_
  refine .fin<|wr 6 32<|gl 2 [2]<|Dv.lens Q T Q U9<|el H fun tp hai H=>cl Q (cL 51) Q (gR.c hai)<|go 1<|sy 0 ?_
  refine .fin<|rg 4 8<|gl 3 [2]<|sy 0 ?_
  refine .fin<|wr 2 2<|gl 1 [0]<|sy 1 ?_
  refine .fin ?_
  cases H.out; exact r3 i2 Q (.cons (au Q gJ Q iy (aa 1 Q) Q) .nil)
 refine so<|cf H ?_ ?_ <;> intro H
 ·
  refine rg 5 16<|gl 2 [2]<|el H fun tq haj H=>cl Q (cL 10) Q (aW.c haj)<|go 1<|sy 0 ?_
  refine .fin<|wr 2 2<|gl 1 [0]<|sy 1 ?_
  refine .fin ?_
  cases H.out; exact r3 i2 Q (.cons (au Q gJ Q iy (aa 1 Q) Q) .nil)
 refine wr 5 16<|gl 2 [2]<|el H fun tu hak H=>cl Q (cL 18) Q (en.c hak)<|go 1<|sy 0 ?_
 refine .fin<|wr 4 8<|gl 3 [2]<|sy 0 ?_
 refine .fin<|su [2]<|cf H ?_ ?_ <;> intro H
 ·
  refine WP.skip<|wr 2 2<|gl 1 [0]<|sy 1 ?_
  refine .fin ?_
  cases H.out; exact r3 i2 Q (.cons (au Q gJ Q iy (aa 1 Q) Q) .nil)
 refine rg 6 32<|gl 2 [2]<|el H fun tw ham H=>cl Q (cL 10) Q (aW.c ham)<|go 2<|sy 0 ?_
 refine .fin<|wr 2 2<|gl 1 [0]<|sy 1 ?_
 refine .fin ?_
 cases H.out; exact r3 i2 Q (.cons (au Q gJ Q iy (aa 1 Q) Q) .nil)
theorem slices_DeleteFunc_string_xo.c {X1_:As} {p0_:OV} (h:slices_DeleteFunc_string_xo.f k a0 a1=some r):Tr prog 71 [eq p0_.1,kC X1_ a1] [own aw p0_.1 a0,X1_] (γ:=OV) (fun _=>True) (fun g=>eq g.1) (fun g=>[X1_,own aw g.1 r]):=by
 refine tf func71 h fun R0 F H=>?_
 refine so<|wr 4 0<|go 2<|el H fun ta haa H=>pJ 2 [0,1] (cL 137) (aA.c haa (p0_:=p0_) (X1_:=X1_)) ?_
 refine go 1<|WP.seq<|so<|ce H ?_ ?_ <;> intro H
 ·
  refine sp ?_
  cases H.out; exact et p0_ 2 [1,0] 0
 refine WP.skip<|sq H id [0] (fun pa=>[(5,vI pa.1)]) (fun pa=>[(0,own aw p0_.1 pa.2.2.2)]) (fun pa H=>?_) (fun H=>?_)
 ·
  refine wr 4 8<|go 2<|gr H fun ga H=>vg (Au 0 Q (List.length_pos_iff.1 (Nat.lt_of_le_of_lt (Nat.zero_le _) ga.2))) fun gb hac=>?_
  refine Dv.wD (o':=gb.2.1+pa.1.toNat*aw.sz) (m':=pa.2.2.2.length-pa.1.toNat) (c':=gb.2.2-pa.1.toNat) Q T ((show opv _ _=some (eq p0_.1) from Q).trans (congrArg (fun z=>some (eq z)) hac.1)) de U9 c9 (eY Q ga.1) dM (Nat.le_of_lt ga.2) hac.2 (.inl (Nat.lt_of_lt_of_le ga.2 hac.2)) Q Q Q<|Dv.clrw (jj:=0) eE Q T Q de z9 Q Q (fun u hu=>by simp [Value.cells] at hu; subst hu; rfl) hac.1 Q ga.2 Q nofun<|.fin<|wr 4 4<|go 2<|gr H fun gi H=>Dv.slo (jj:=0) Q T Q Q de U9 c9 dM (eY Q gi.1) (.inl Q) gi.2.1 gi.2.2 nofun (fun va=>?_)
  refine gq 1 ?_
  cases H.out; exact et va 2 [1,0] 0
 refine so<|WP.block<|ws 2 [0,1] 0 ?_
 refine lq (fun j_ (pc:Int×Int×(List BA))=>slices_DeleteFunc_string_xo.l0 k a1 j_ pc.1 pc.2.1 pc.2.2) (ta,av (ta+1),a0) H [0,1] (fun pc=>[(5,vI pc.1),(6,vI pc.2.1)]) (fun pc=>[(0,own aw p0_.1 pc.2.2)]) ?_
 rintro j_ ⟨xc,xd,xe⟩ H
 rcases j_ with _ | ja
 ·
  exact (aS.no H).elim
 try dsimp only at H
 rw [slices_DeleteFunc_string_xo.l0] at H
 refine WP.seq<|wr 4 0<|go 2<|Dv.ko Q T Q (aa 0 Q) de<|go 1<|cf H ?_ ?_ <;> intro H
 ·
  refine WP.exit ?_
  have H:=H.out
  exact jn (xc,xd,decide (xd<(xe.length:Int)),xe) H
 refine WP.skip<|WP.seq<|WP.block<|wr 5 0<|go 2<|gr H fun gj H=>?_
 have had:xd.toNat<xe.length:=bp gj
 refine Dv.jX Q T Q (aa 0 Q) Q de U9 c9 gj.1 gj.2<|Dv.na (j:=xd.toNat) (f:=0) (p:=vS (xe.getD xd.toNat default)) Q T Q (aa 0 Q) had U9 Q Q<|go 1<|wr 4 0<|go 2<|el H fun tc hae H=>Dv.Ch (ret:=vB tc) (X:=X1_) (F:=[own aw p0_.1 xe]++F) Q T Q Q ⟨_,_,hae,Q,Q⟩ (ly (L:=[own aw p0_.1 xe,X1_]) (F:=F) [1,0] Q Q Q)<|go 1<|cf H ?_ ?_ <;> intro H
 ·
  exact WP.skip<|rg 3 0<|go 3<|bk ja (xc,av (xd+1),xe) H
 refine wr 5 16<|go 3<|gr H fun gk H=>?_
 have haf:xc.toNat<xe.length:=bp gk
 exact Dv.jX Q T Q (aa 0 Q) Q de U9 c9 gk.1 gk.2<|Dv.IK (j:=xc.toNat) (f:=0) (jj:=0) (xe.getD xd.toNat default) Q T Q Q (cells_one (ah Q)) U9 c9 Q Q haf (Nat.le_of_ble_eq_true Q) Q nofun<|.fin<|rg 3 0<|go 3<|rg 3 0<|go 3<|bk ja (av (xc+1),av (xd+1),xe.set xc.toNat (xe.getD xd.toNat default)) H
theorem eM.c {v0_0 v0_1:OV} {b0_:Nat} (h:eM.f k a0 a1 a2 a3=some r):Tr prog 138 [ey b0_,vS a1,vS a2,vI a3] [aE b0_ 190 [eq v0_0.1,eq v0_1.1],own ak.K v0_0.1 a0.fl] (γ:=Unit) (fun _=>True) (fun g=>vB r) (fun g=>[aE b0_ 190 [eq v0_0.1,eq v0_1.1],own ak.K v0_0.1 a0.fl]):=by
 refine tf func138 h fun R0 F H=>?_
 refine so<|wr 10 0<|go 3<|Dv.kL (qs:=[vI 0,vS a1,vS a2,vS eE,vS eE,vB false,vB false,vI 0,vI 0,vI 0,vI 0]) (css:=[[vS a1],[vS a2]]) Q T gJ Cc wm Q ⟨(cells_one (ah Q)),⟨(cells_one (ah Q)),T⟩⟩ Q Q<|el H fun ta haa H=>pJ 2 [0,1] (cL 106) (dW.c haa (b0_:=b0_) (v0_0:=v0_0) (v0_1:=v0_1)) ?_
 refine go 1<|eF Q T Q Q<|eF Q T Q Q<|go 2<|wr 24 0<|gp 2 ?_
 cases cc:ta.2
 ·
  have H:=H.cf cc
  refine gq 22 ?_
  cases H.out; exact et () 2 [0,1] 0
 have H:=H.ct cc
 refine gl 5 [0]<|gr H fun ga H=>?_
 have hac:ta.1.toNat<a0.fl.length:=bp ga
 refine Dv.jX Q (gg Q) Q (aa 1 Q) Q eX gJ iy ga.1 ga.2<|fw Q (gg Q) Q Fg<|Dv.na (j:=ta.1.toNat) (f:=6) (p:=vB ((a0.fl.getD ta.1.toNat default).kl)) Q (gg Q) Q (aa 1 Q) hac U4 Q Q<|gp 2 ?_
 cases cg:(a0.fl.getD ta.1.toNat default).kl
 ·
  have H:=H.cf cg
  refine gq 12 ?_
  cases H.out; exact et () 2 [0,1] 0
 have H:=H.ct cg
 refine gl 6 [0]<|gr H fun gb H=>?_
 have had:ta.1.toNat<a0.fl.length:=bp gb
 refine Dv.jX Q (gg Q) Q (aa 1 Q) Q eX gJ iy gb.1 gb.2<|Dv.pM (j:=ta.1.toNat) (f:=0) Q (gg Q) Q (aa 1 Q) had gJ Q iy (Nat.le_of_ble_eq_true Q)<|el H fun tc hae H=>Dv.call Q (gg Q) (cL 111) Q (jB.c hae)<|gq 3 ?_
 cases H.out; exact et () 2 [0,1] 0
theorem aT.c {v0_0 v0_1:OV} {b0_:Nat} (h:aT.f k a0 a1 a2=some r):Tr prog 72 [ey b0_,vS a1,vI a2] [aE b0_ 190 [eq v0_0.1,eq v0_1.1],own ak.K v0_0.1 a0.fl] (γ:=OV) (fun _=>True) (fun g=>eq g.1) (fun g=>[aE b0_ 190 [eq v0_0.1,eq v0_1.1],own ak.K v0_0.1 a0.fl,own aw g.1 r]):=by
 refine tf func72 h fun R0 F H=>?_
 refine so<|so<|wr 3 0<|go 1<|Dv.mkc (fst:=#[.pointer (some ⟨b0_,0,none⟩)]) Q T Q<|go 1<|WP.jh H (fun qh:(Int×Bool×(List BA))×OV=>qh.1) (fun qh=>[(7,eq qh.2.1)]) (fun qh=>[aE b0_ 190 [eq v0_0.1,eq v0_1.1],own ak.K v0_0.1 a0.fl,own aw qh.2.1 qh.1.2.2]++F) (fun qh H=>?_) (fun H=>?_)
 ·
  obtain ⟨pa,va⟩:=qh
  refine sp ?_
  cases H.out; exact et va 3 [0,1,2] 0
 refine wr 6 0<|gl 4 [0]<|Dv.ko Q T Q (aa 1 Q) eX<|go 1<|WP.block<|wg (dy aw none) fun _ _=>?_
 refine ws 3 [1,2,0] 0 ?_
 refine lq (fun j_ (pc:Int×(List BA)×OV)=>aT.l0 k a0 a1 a2 j_ pc.1 pc.2.1) (0,([]:List BA),jR) H [1,2,8,16,17] (fun pc=>[(7,eq pc.2.2.1),(18,vI pc.1)]) (fun pc=>[(2,own aw pc.2.2.1 pc.2.1)]) ?_
 rintro j_ ⟨xc,xd,vb⟩ H
 rcases j_ with _ | ja
 ·
  exact (aS.no H).elim
 try dsimp only at H
 rw [aT.l0] at H
 refine so<|WP.seq<|cf H ?_ ?_ <;> intro H
 ·
  refine WP.exit ?_
  have H:=H.out
  exact jn ((xc,decide (xc<(a0.fl.length:Int)),xd),vb) H
 refine WP.skip<|WP.seq<|WP.block<|wr 4 12<|gr H fun ga H=>?_
 have haa:xc.toNat<a0.fl.length:=bp ga
 refine Dv.jX Q T Q (aa 1 Q) Q eX gJ iy ga.1 ga.2<|Dv.pM (j:=xc.toNat) (f:=0) Q T Q (aa 1 Q) haa gJ Q iy (Nat.le_of_ble_eq_true Q)<|al Q T wa nofun fun ba=>sy 0 ?_
 refine .fin<|wr 12 0<|kU 5 [0] ?_
 cases cc:decide (((a0.fl.getD xc.toNat default).ab)=a1)
 ·
  have H:=H.cf cc
  refine go 7<|WP.cond Q nofun (fun _=>?_)
  refine WP.skip<|rg 2 0<|go 2<|ns 4 [0,1,2,3] 1 ?_
  exact bk ja (av (xc+1),xd,vb) H
 have H:=H.ct cc
 refine gl 5 [0]<|el H fun ta hac H=>Dv.GX (fst:=#[.pointer (some ⟨b0_,0,none⟩)]) (B:=[aE b0_ 190 [eq v0_0.1,eq v0_1.1],own ak.K v0_0.1 a0.fl]) (F:=[aE ba 52 (ak.enc (a0.fl.getD xc.toNat default)),own aw vb.1 xd]++F) Q (gg Q) Q (cL 138) Q (eM.c hac (b0_:=b0_) (v0_0:=v0_0) (v0_1:=v0_1)) (ly (L:=[aE ba 52 (ak.enc (a0.fl.getD xc.toNat default)),aE b0_ 190 [eq v0_0.1,eq v0_1.1],own ak.K v0_0.1 a0.fl,own aw vb.1 xd]) (F:=F) [1,2,0,3] Q Q Q)<|go 1<|cf H ?_ ?_ <;> intro H
 ·
  refine WP.skip<|rg 2 0<|go 2<|ns 4 [0,1,2,3] 1 ?_
  exact bk ja (av (xc+1),xd,vb) H
 refine rg 6 16<|gl 3 [0]<|Dv.lit aw ([(a0.fl.getD xc.toNat default).aj]:List BA) (css:=[[vS ((a0.fl.getD xc.toNat default).aj)]]) Q T de U9 c9 z9 Q dc dc Q ⟨(cells_one (ah Q)),T⟩ Q Q Q<|gr H fun gb H=>ap aw 3 ([(a0.fl.getD xc.toNat default).aj]:List BA) bD de (.inr ⟨_,de⟩) rA gb nofun fun vd=>?_
 refine go 1<|rg 2 0<|go 2<|ns 4 [0,1,2,3] 1 ?_
 exact bk ja (av (xc+1),xd++([(a0.fl.getD xc.toNat default).aj]:List BA),vd) H
theorem KH (x y:Pos):iO.f 8 x y=some (gY x y):=by
 unfold iO.f b7.f aD.f cmp_isNaN_int.f cmp_isNaN_string.f bE.f gY kc
 simp only [Option.bind_some,bne_self_eq_false,decide_true,Bool.not_true,cond_false]
 rcases Int.lt_trichotomy x.br y.br with h | h | h
 ·
  have h2:¬ y.br<x.br:=om
  simp only [h,decide_true,cond_true,Option.bind_some,if_true]
  cases dK x.bQ y.bQ <;> cases dK y.bQ x.bQ <;> rfl
 rotate_left
 ·
  have h1:¬ x.br<y.br:=om
  simp only [h,h1,decide_true,decide_false,cond_true,cond_false,Option.bind_some,if_true,if_false]
  cases dK x.bQ y.bQ <;> cases dK y.bQ x.bQ <;> rfl
 have h1:¬ x.br<y.br:=om
 have h2:¬ y.br<x.br:=om
 simp only [h1,h2,decide_false,cond_false,Option.bind_some,if_false]
 cases dK x.bQ y.bQ <;> cases dK y.bQ x.bQ <;> rfl
theorem zJ (x y:Pos):ltOf gY x y=true↔x.br<y.br∨(x.br=y.br∧dK x.bQ y.bQ=true):=by
 unfold ltOf gY
 rw [decide_eq_true_eq]
 by_cases h:x.br<y.br
 ·
  simp [h]
 by_cases h2:y.br<x.br
 ·
  rw [if_neg h,if_pos h2]; constructor
  ·
   intro k; omega
  rintro (k | ⟨k,_⟩) <;> omega
 rw [if_neg h,if_neg h2,nq]; constructor
 ·
  intro k; exact .inr ⟨om,k⟩
 rintro (k | ⟨_,k⟩)
 ·
  omega
 exact k
theorem vR (x y:Pos):ltOf gY x y=false↔y.br<x.br∨(x.br=y.br∧dK x.bQ y.bQ=false):=by
  have h:=zJ x y
  cases e:ltOf gY x y with
  | true=>
    have h:=h.1 e
    refine ⟨fun k=>(by cases k),fun k=>?_⟩
    rcases h with h | ⟨h1,h2⟩ <;> rcases k with k | ⟨k1,k2⟩
    · omega
    · omega
    · omega
    · rw [h2] at k2; cases k2
  | false=>
    refine ⟨fun _=>?_,fun _=>Q⟩
    rw [e] at h
    have h:¬ _:=fun k=>by have:=h.2 k; cases this
    rcases Int.lt_trichotomy x.br y.br with k | k | k
    · exact (h (.inl k)).elim
    · cases e2:dK x.bQ y.bQ with
      | true=>exact (h (.inr ⟨k,e2⟩)).elim
      | false=>exact .inr ⟨k,rfl⟩
    · exact .inl k
theorem qo:Go.Sort.SWO (ltOf gY) where
  irrefl x:=by rw [vR]; exact .inr ⟨rfl,iZ _⟩
  trans x y z h1 h2:=by
    rw [zJ] at *
    rcases h1 with h1 | ⟨h1,k1⟩ <;> rcases h2 with h2 | ⟨h2,k2⟩
    · exact .inl om
    · exact .inl om
    · exact .inl om
    · exact .inr ⟨om,mj k1 k2⟩
  ntrans x y z h1 h2:=by
    rw [vR] at *
    rcases h1 with h1 | ⟨h1,k1⟩ <;> rcases h2 with h2 | ⟨h2,k2⟩
    · exact .inl om
    · exact .inl om
    · exact .inl om
    · exact .inr ⟨om,o0 k2 k1⟩
theorem rQ (x y:Pos) (h1:ltOf gY x y=false) (h2:ltOf gY y x=false):x=y:=by
 rw [vR] at *
 rcases h1 with h1 | ⟨h1,k1⟩ <;> rcases h2 with h2 | ⟨h2,k2⟩
 ·
  omega
 ·
  omega
 ·
  omega
 obtain ⟨a,b⟩:=x; obtain ⟨c,d⟩:=y
 simp only at h1 k1 k2
 rw [h1,lx k1 k2]
theorem dN.c {p0_:OV} (h:dN.f a0=some r):Tr prog 285 [eq p0_.1,eq (.func (.func 161) #[] #[])] [own Pos.K p0_.1 a0] (γ:=Unit) (fun _=>True) (fun g=>lu []) (fun g=>[own Pos.K p0_.1 r]):=by
 unfold dN.f at h
 obtain ⟨h0,h5⟩:=(aS.of h).an
 obtain rfl:=aS.out h5
 exact FD (K:=Pos.K) (ev:=fun x=>[.int .i64 x.br,.string x.bQ]) (fun _=>Q) dc (fun x y=>iO.c (KH x y)) (fun aE off cap d w hc hH hb hs=>AnyQ.slices_SortFunc_total Tryz.lays6 2 Tryz.isAgg81 Tryz.sizeOf81 _ (fun _=>Q) (fun x v hv=>by simp at hv; rcases hv with rfl | rfl <;> rfl) gY qo 161 #[] aE off cap d w (enters_of func161 kr Q) hc hH hb hs rQ) (fun q cap w=>AnyF.slices_SortFunc_none Tryz.lays6 q cap _ w) om
theorem ot.c {b0_:Nat} (h:ot.f a0=some r):Tr prog 271 [ey b0_] [aE b0_ 268 [vS a0.fe.bQ,vS a0.fe.ab,sl aw a0.fe.ag,vS a0.fe.ae,vS a0.fe.aj,vI a0.fe.bO,vI a0.cI,vB a0.kT]] (γ:=Unit) (fun _=>True) (fun g=>vB r) (fun g=>[aE b0_ 268 [vS a0.fe.bQ,vS a0.fe.ab,sl aw a0.fe.ag,vS a0.fe.ae,vS a0.fe.aj,vI a0.fe.bO,vI a0.cI,vB a0.kT]]):=by
 refine tf func271 h fun R0 F H=>?_
 refine so<|sp ?_
 cases H.out; exact et () 1 [0] 0
theorem aH.c {b0_:Nat} {v0_0:OV} (h:aH.f a0=some r):Tr prog 270 [ey b0_,eq (.func (.func 271) #[] #[])] [aE b0_ 265 [vS a0.cM,eq v0_0.1],kW Value.string aX.O v0_0.1 a0.ao] (γ:=OV) (fun _=>True) (fun g=>eq g.1) (fun g=>[aE b0_ 265 [vS a0.cM,eq v0_0.1],kW Value.string aX.O v0_0.1 a0.ao,own aw g.1 r]):=by
  unfold aH.f at h
  obtain ⟨h0,h5⟩:=(aS.of h).an
  obtain rfl:=aS.out h5
  clear h h5
  refine Tr.body func270 (c:=_) Q ntmps270 (Nat.le_of_ble_eq_true Q) fun R0 F=>?_
  refine so<|sp ?_
  refine WP.F4 (β:=List Nat×OV) (fun b=>b.1.Perm (List.range a0.ao.length)) (fun b=>[(5,eq b.2.1),(1,eq (.func (.func 271) #[] #[]))]) (fun b=>[own Pos.K b.2.1 (lp a0.ao aH.g b.1),kW Value.string aX.O v0_0.1 a0.ao,aE b0_ 265 [vS a0.cM,eq v0_0.1]]++F) (fun b hb=>?_) ?_
  rotate_left
  · refine wr 5 16<|kU 4 [0] ?_
    refine Dv.gh (l':=fun ps:List OV=>[mp Value.string (fun p:OV=>eq p.1) v0_0.1 (cY a0.ao ps),q9 aX.O a0.ao ps,aE b0_ 265 [vS a0.cM,eq v0_0.1]]++F) (jk (mH 1 Q)) (fun ps hps=>?_)
    refine Dv.rgb (jj:=0) Q T Q Q wO nofun (fun q=>.fin ?_)
    refine WP.gh (l':=fun _:Unit=>[tZ Value.string (fun p:OV=>eq p.1) v0_0.1 q.1 (cY a0.ao ps) [],q9 aX.O a0.ao ps,aE b0_ 265 [vS a0.cM,eq v0_0.1]]++F) (jk (ok:=fun _=>True) fun R w k=>⟨(),T,k⟩) (fun _ _=>?_)
    refine WP.gh (l':=fun _:Unit=>[own Pos.K jR.1 [],tZ Value.string (fun p:OV=>eq p.1) v0_0.1 q.1 (cY a0.ao ps) [],q9 aX.O a0.ao ps,aE b0_ 265 [vS a0.cM,eq v0_0.1]]++F) (jk (dy Pos.K none)) (fun _ _=>?_)
    refine WP.block ?_
    refine WP.kn (E':=(fun b:List Nat×OV=>[(5,eq b.2.1),(15,eq q.1),(1,eq (.func (.func 271) #[] #[]))]) ([],jR)) (cW Q (cW Q (cW Q jV))) (WP.loop (β:=List Nat×OV) (fun k b=>b.1.length+k=a0.ao.length) (fun b=>[(5,eq b.2.1),(15,eq q.1),(1,eq (.func (.func 271) #[] #[]))]) (fun b=>[own Pos.K b.2.1 (lp a0.ao aH.g b.1),tZ Value.string (fun p:OV=>eq p.1) v0_0.1 q.1 (cY a0.ao ps) b.1,q9 aX.O a0.ao ps,aE b0_ 265 [vS a0.cM,eq v0_0.1]]++F) ?_ (k:=a0.ao.length) (b:=([],jR)) (Nat.zero_add _))
    rintro k ⟨is,v⟩ hk
    replace hk:is.length+k=a0.ao.length:=hk
    refine wr 2 1<|Dv.rgn (jj:=1) Q T Q Q nofun (fun z hz=>?_)
    rcases z with _ | j
    · have hz:is.Perm (List.range (cY a0.ao ps).length):=hz
      rw [pY hps.1] at hz
      refine eF Q T Q Q<|.fin<|WP.seq<|WP.cond Q nofun (fun _=>WP.exit ?_)
      refine Dn.gh (l':=fun _:Unit=>[own Pos.K v.1 (lp a0.ao aH.g is),tZ Value.string (fun p:OV=>eq p.1) v0_0.1 q.1 (cY a0.ao ps) is,q9 aX.O a0.ao ps,aE b0_ 265 [vS a0.cM,eq v0_0.1]]++F) (jk (ok:=fun _=>True) fun R w k=>⟨(),T,k⟩) (fun _ _=>?_)
      refine Dn.gh (l':=fun _:Unit=>[mp Value.string (fun p:OV=>eq p.1) v0_0.1 (cY a0.ao ps),own Pos.K v.1 (lp a0.ao aH.g is),q9 aX.O a0.ao ps,aE b0_ 265 [vS a0.cM,eq v0_0.1]]++F) (jk (F1 (pm 4 [1,0,2,3]))) (fun _ _=>?_)
      refine Dn.gh (l':=fun _:Unit=>[kW Value.string aX.O v0_0.1 a0.ao,own Pos.K v.1 (lp a0.ao aH.g is),aE b0_ 265 [vS a0.cM,eq v0_0.1]]++F) (jk (iP hps Q (pm 4 [0,2,1,3]))) (fun _ _=>?_)
      exact Jn.mk (is,v) hz (cW Q (cW Q jV)) (oE 3 [1,0,2] kr Q Q)
    have hz:j<(cY a0.ao ps).length∧j ∉ is∧is.length<(cY a0.ao ps).length:=hz
    obtain ⟨e,p,he,hp,hep⟩:=Ag hps hz.1
    have hlt:is.length<a0.ao.length:=by rw [← pY hps.1]; exact hz.2.2
    have hsl:=Nat.le_trans (AO (m:=a0.ao) (f:=aH.g) (is:=is)) (Nat.le_of_lt hlt)
    have e1:nxV Value.string (fun p:OV=>eq p.1) (cY a0.ao ps) (some j)=lu [vB true,vS e.1,eq p.1]:=by simp only [nxV,hep]
    rw [e1]
    refine eF Q T Q Q<|.fin<|WP.seq<|WP.cond Q (fun _=>WP.skip ?_) nofun
    refine WP.gh (l':=fun _:Unit=>[own Pos.K v.1 (lp a0.ao aH.g is),tZ Value.string (fun p:OV=>eq p.1) v0_0.1 q.1 (cY a0.ao ps) (is++[j]),q9 aX.O a0.ao ps,aE b0_ 265 [vS a0.cM,eq v0_0.1]]++F) (jk (ok:=fun _=>True) fun R w k=>⟨(),T,k⟩) (fun _ _=>?_)
    refine WP.block<|wr 5 0<|Dv.rge 1 Q T Q Q hep ?_
    refine eF Q T Q Q<|eF Q T Q Q<|gq 2 ?_
    refine WP.gh (l':=fun _:Unit=>[aX.O p e.2,Ei aX.O a0.ao ps j,own Pos.K v.1 (lp a0.ao aH.g is),tZ Value.string (fun p:OV=>eq p.1) v0_0.1 q.1 (cY a0.ao ps) (is++[j]),aE b0_ 265 [vS a0.cM,eq v0_0.1]]++F) (jk (Jv he hp (pm 4 [2,0,1,3]))) (fun _ _=>?_)
    refine WP.gh (l':=fun b:Nat=>[aE b 268 [vS e.2.fe.bQ,vS e.2.fe.ab,sl aw e.2.fe.ag,vS e.2.fe.ae,vS e.2.fe.aj,vI e.2.fe.bO,vI e.2.cI,vB e.2.kT],Ei aX.O a0.ao ps j,own Pos.K v.1 (lp a0.ao aH.g is),tZ Value.string (fun p:OV=>eq p.1) v0_0.1 q.1 (cY a0.ao ps) (is++[j]),aE b0_ 265 [vS a0.cM,eq v0_0.1]]++F) (jk (aX.jf 0 Q)) (fun b hb=>?_)
    refine wr 3 0<|go 2<|Dv.GX (fst:=#[]) (B:=[aE b 268 [vS e.2.fe.bQ,vS e.2.fe.ab,sl aw e.2.fe.ag,vS e.2.fe.ae,vS e.2.fe.aj,vI e.2.fe.bO,vI e.2.cI,vB e.2.kT]]) (F:=[Ei aX.O a0.ao ps j,own Pos.K v.1 (lp a0.ao aH.g is),tZ Value.string (fun p:OV=>eq p.1) v0_0.1 q.1 (cY a0.ao ps) (is++[j]),aE b0_ 265 [vS a0.cM,eq v0_0.1]]++F) Q T Q (cL 271) Q (Tr.kn (ot.c (a0:=e.2) (b0_:=b) (r:=true) Q) (.cons (iX hb) .nil)) (List.Perm.refl _)<|.fin ?_
    refine WP.cond Q (fun c1=>?_) (fun c1=>?_)
    · have hg:aH.g e=some ⟨e.2.cI,e.1⟩:=by unfold aH.g; rw [c1]; rfl
      have e6:=yg (f:=aH.g) (is:=is) he hg
      have hbd:(lp a0.ao aH.g is).length+([⟨e.2.cI,e.1⟩]:List Pos).length≤9223372036854775807∧((lp a0.ao aH.g is).length+([⟨e.2.cI,e.1⟩]:List Pos).length)*24≤140737488355328:=by rw [List.length_singleton]; omega
      refine rg 10 256<|go 2<|Dv.bU hb Q T Q<|fp hb Q T Q zB<|gl 2 [0]<|Dv.kL (css:=[[vI e.2.cI],[vS e.1]]) Q T uB FR IA Q ⟨(cells_one (ah Q)),⟨(cells_one (ah Q)),T⟩⟩ Q Q<|Dv.lit Pos.K ([⟨e.2.cI,e.1⟩]:List Pos) (css:=[[vI e.2.cI,vS e.1]]) Q T E6 uB Az IA Q dc dc Q ⟨cA,T⟩ Q Q Q<|ap Pos.K 2 ([⟨e.2.cI,e.1⟩]:List Pos) bD E6 (.inr ⟨_,E6⟩) inf81 hbd nofun fun v9=>go 1 ?_
      refine Dn.gh (l':=fun _:Unit=>[aX.O p e.2,Ei aX.O a0.ao ps j,own Pos.K v9.1 ((lp a0.ao aH.g is)++([⟨e.2.cI,e.1⟩]:List Pos)),tZ Value.string (fun p:OV=>eq p.1) v0_0.1 q.1 (cY a0.ao ps) (is++[j]),aE b0_ 265 [vS a0.cM,eq v0_0.1]]++F) (jk (aX.shut (p:=p) (m:=e.2) b hb (List.Perm.refl _))) (fun _ _=>?_)
      refine Dn.gh (l':=fun _:Unit=>[q9 aX.O a0.ao ps,own Pos.K v9.1 ((lp a0.ao aH.g is)++([⟨e.2.cI,e.1⟩]:List Pos)),tZ Value.string (fun p:OV=>eq p.1) v0_0.1 q.1 (cY a0.ao ps) (is++[j]),aE b0_ 265 [vS a0.cM,eq v0_0.1]]++F) (jk (Jh he hp (List.Perm.refl _))) (fun _ _=>?_)
      rw [e6]
      exact wB.mk (k-1) (is++[j],v9) om (by show (is++[j]).length+(k-1)=_; rw [List.length_append,List.length_singleton]; omega) (cW Q (cW Q (cW Q jV))) (oE 4 [1,2,0,3] kr Q Q)
    cases c1
  obtain ⟨is,v5⟩:=b
  replace hb:is.Perm (List.range a0.ao.length):=hb
  have hp:=xE (f:=aH.g) hb
  have hs:dN.f (lp a0.ao aH.g is)=some (lv gY (a0.ao.filterMap aH.g)):=by
    unfold dN.f Sp.an
    rw [if_pos (by rw [hp.length_eq]; exact Nat.le_trans (List.length_filterMap_le _ _) h0),DK qo rQ hp]
  have hS:(lv gY (a0.ao.filterMap aH.g)).length≤1000000:=by unfold lv; rw [List.length_mergeSort]; exact Nat.le_trans (List.length_filterMap_le _ _) h0
  refine wr 2 2<|go 1<|cx 3 [0,1,2] (cL 285) (dN.c hs (p0_:=v5)) nofun fun _ _=>.fin ?_
  generalize lv gY (a0.ao.filterMap aH.g)=S at hS
  refine sp ?_
  refine WP.F4 (β:=OV) (fun _=>True) (fun v=>[(8,eq v.1)]) (fun v=>[own aw v.1 (S.map (·.bQ)),own Pos.K v5.1 S,kW Value.string aX.O v0_0.1 a0.ao,aE b0_ 265 [vS a0.cM,eq v0_0.1]]++F) (fun v _=>?_) ?_
  · refine so<|rt i2 Q v 4 [1,3,2,0] 1 (.cons (aB Q) .nil)
  refine wr 3 0<|go 1<|Dv.ko (Kd:=Pos.K) (xs:=S) (v:=v5.1) Q T Q (aa 0 Q) E6<|gq 1 ?_
  refine WP.gh (l':=fun _:Unit=>[own aw jR.1 [],own Pos.K v5.1 S,kW Value.string aX.O v0_0.1 a0.ao,aE b0_ 265 [vS a0.cM,eq v0_0.1]]++F) (jk (dy aw none)) (fun _ _=>?_)
  refine WP.block ?_
  refine WP.kn (E':=(fun b:Nat×OV=>[(8,eq b.2.1),(35,eq v5.1),(36,vI (S.length:Int)),(37,vI (b.1:Int))]) (0,jR)) (cW Q (cW Q (cW Q (cW Q jV)))) (WP.loop (β:=Nat×OV) (fun k b=>b.1+k=S.length) (fun b=>[(8,eq b.2.1),(35,eq v5.1),(36,vI (S.length:Int)),(37,vI (b.1:Int))]) (fun b=>[own aw b.2.1 ((S.take b.1).map (·.bQ)),own Pos.K v5.1 S,kW Value.string aX.O v0_0.1 a0.ao,aE b0_ 265 [vS a0.cM,eq v0_0.1]]++F) ?_ (k:=S.length) (b:=(0,jR)) (Nat.zero_add _))
  rintro k ⟨j,v8⟩ hk
  replace hk:j+k=S.length:=hk
  refine so<|WP.seq<|WP.cond Q (fun c2=>WP.skip ?_) (fun c2=>WP.exit ?_)
  rotate_left
  · have c3:¬ ((j:Int)<(S.length:Int)):=of_decide_eq_false c2
    have e3:S.take j=S:=List.take_of_length_le om
    change ∀ R a w,R0.le R→nh _ R a _→St R ([own aw v8.1 ((S.take j).map (·.bQ)),own Pos.K v5.1 S,kW Value.string aX.O v0_0.1 a0.ao,aE b0_ 265 [vS a0.cM,eq v0_0.1]]++F) w→_
    rw [e3]
    exact Jn.mk v8 T (cW Q jV) (List.Perm.refl _)
  have c3:(j:Int)<(S.length:Int):=of_decide_eq_true c2
  have hj:j<S.length:=om
  refine WP.seq<|WP.block<|wr 4 12<|Dv.jX Q T Q (aa 1 Q) Q E6 uB Az om c3<|Dv.pM (j:=j) (f:=0) Q T Q (aa 1 Q) hj uB Q Az (Nat.le_of_ble_eq_true Q)<|al Q T tY nofun fun b=>sx 0 Q T Q Q cA Hg Q Q Q nofun<|.fin ?_
  have hbd:((S.take j).map (·.bQ)).length+([(S.getD j default).bQ]:List BA).length≤9223372036854775807∧(((S.take j).map (·.bQ)).length+([(S.getD j default).bQ]:List BA).length)*16≤140737488355328:=by rw [List.length_singleton,List.length_map,List.length_take]; omega
  refine rg 6 16<|gl 3 [0]<|Dv.lit aw ([(S.getD j default).bQ]:List BA) (css:=[[vS ((S.getD j default).bQ)]]) Q T de U9 c9 z9 Q dc dc Q ⟨(cells_one (ah Q)),T⟩ Q Q Q<|ap aw 1 ([(S.getD j default).bQ]:List BA) bD de (.inr ⟨_,de⟩) rA hbd nofun fun v9=>go 1 ?_
  refine WP.gh (l':=fun _:Unit=>[own aw v9.1 ((S.take j).map (·.bQ)++([(S.getD j default).bQ]:List BA)),own Pos.K v5.1 S,kW Value.string aX.O v0_0.1 a0.ao,aE b0_ 265 [vS a0.cM,eq v0_0.1]]++F) (jk (vQ 5 [0,1,2,3,4] 1 kr Q Q)) (fun _ _=>?_)
  have e4:(S.take j).map (·.bQ)++([(S.getD j default).bQ]:List BA)=(S.take (j+1)).map (·.bQ):=by rw [List.take_add_one,List.map_append,gD,gE hj]; rfl
  rw [e4]
  refine rg 2 0<|oh Q Q Q (nM (a:=j) (b:=1) om)<|gq 1 ?_
  exact wB.mk (k-1) (j+1,v9) om (by show j+1+(k-1)=S.length; omega) (cW Q (cW Q (cW Q (cW Q jV)))) (List.Perm.refl _)
theorem dag_Dag_All.c {v0_0:OV} {b0_:Nat} (h:dag_Dag_All.f k a0=some r):Tr prog 241 [ey b0_] [aE b0_ 265 [vS a0.cM,eq v0_0.1],kW Value.string aX.O v0_0.1 a0.ao] (γ:=OV) (fun _=>True) (fun g=>eq g.1) (fun g=>[aE b0_ 265 [vS a0.cM,eq v0_0.1],kW Value.string aX.O v0_0.1 a0.ao,own Event.K g.1 r]):=by
 refine tf func241 h fun R0 F H=>?_
 refine so<|so<|WP.jh H (fun qh:(Int×Int×Bool×(List Event)×(List BA))×OV×OV=>qh.1) (fun qh=>[(3,eq qh.2.1.1)]) (fun qh=>[aE b0_ 265 [vS a0.cM,eq v0_0.1],kW Value.string aX.O v0_0.1 a0.ao,own Event.K qh.2.1.1 qh.1.2.2.2.1,own aw qh.2.2.1 qh.1.2.2.2.2]++F) (fun qh H=>?_) (fun H=>?_)
 ·
  obtain ⟨pa,va,vb⟩:=qh
  refine sp ?_
  cases H.out; exact et va 4 [3,0,1,2] 1
 refine wr 4 2<|go 1<|el H fun ta haa H=>cx 2 [0,1] (cL 270) (aH.c haa (b0_:=b0_) (v0_0:=v0_0)) nofun fun ga _=>?_
 refine Dv.ko Q T Q (aa 2 Q) de<|go 1<|WP.block<|wg (dy Event.K none) fun _ _=>?_
 refine ws 4 [1,2,3,0] 0 ?_
 refine lq (fun j_ (pc:Int×(List Event)×OV)=>dag_Dag_All.l0 k a0 ta j_ pc.1 pc.2.1) (0,([]:List Event),jR) H [0,7,8] (fun pc=>[(3,eq pc.2.2.1),(9,vI pc.1)]) (fun pc=>[(3,own Event.K pc.2.2.1 pc.2.1)]) ?_
 rintro j_ ⟨xc,xd,vd⟩ H
 rcases j_ with _ | ja
 ·
  exact (aS.no H).elim
 try dsimp only at H
 rw [dag_Dag_All.l0] at H
 refine so<|WP.seq<|cf H ?_ ?_ <;> intro H
 ·
  refine WP.exit ?_
  have H:=H.out
  refine ns 4 [0,1,3,2] 0 ?_
  exact jn (((ta.length:Int),xc,decide (xc<(ta.length:Int)),xd,ta),vd,ga) H
 refine WP.skip<|WP.seq<|WP.block<|wr 3 0<|gr H fun gb H=>?_
 have hac:xc.toNat<ta.length:=bp gb
 refine Dv.jX Q T Q (aa 2 Q) Q de U9 c9 gb.1 gb.2<|Dv.na (j:=xc.toNat) (f:=0) (p:=vS (ta.getD xc.toNat default)) Q T Q (aa 2 Q) hac U9 Q Q<|go 1<|rg 14 4096<|gl 6 [0]<|vg (mH 1 Q) fun za had=>?_
 refine Dv.GJ jx Q T Q (aa 0 Q) Q wO (dV U9) Bj (fun _=>Q)<|gr H fun gi H=>vg (qK had Q gi (pm 5 [1,0,2,3,4])) fun _ _=>?_
 refine Dv.qx aX.nn Q T Q (aa 0 Q)<|vg (aX.jf 0 Q) fun gj hae=>?_
 refine fp hae Q T Q uv<|gl 1 [0]<|el H fun tc haf H=>cl Q (cL 146) Q (iG.c haf)<|Dv.lit Event.K ([tc]:List Event) (css:=[Event.enc tc]) Q T qn kM mL Es Q dc dc Q ⟨(aR (Event.K.one _)),T⟩ Q Q Q<|gr H fun gk H=>ap Event.K 5 ([tc]:List Event) bD qn (.inr ⟨_,qn⟩) vU gk nofun fun ve=>?_
 refine go 1<|rg 2 0<|go 2<|ng (aX.shut (p:=((mget (cY a0.ao za) (ta.getD xc.toNat default)).getD jx)) (m:=(mget a0.ao (ta.getD xc.toNat default)).getD default) gj hae (pm 6 [0,1,2,3,4,5])) fun _ _=>?_
 refine ng (oK had Q gi (pm 6 [0,1,2,3,4,5])) fun _ _=>?_
 refine ng (iP had Q (pm 5 [1,0,2,3,4])) fun _ _=>?_
 refine ns 4 [1,0,2,3] 0 ?_
 exact bk ja (av (xc+1),xd++([tc]:List Event),ve) H
theorem member_joined.c {v0_0:OV} {b0_:Nat} (h:member_joined.f k a0=some r):Tr prog 180 [ey b0_] [aE b0_ 265 [vS a0.cM,eq v0_0.1],kW Value.string aX.O v0_0.1 a0.ao] (γ:=OV) (fun _=>True) (fun g=>eq g.1) (fun g=>[aE b0_ 265 [vS a0.cM,eq v0_0.1],kW Value.string aX.O v0_0.1 a0.ao,mp Value.string (fun x:Int=>vI x) g.1 r]):=by
 refine tf func180 h fun R0 F H=>?_
 refine so<|wr 2 1<|Dv.LN Value.string (fun x:Int=>vI x) Q T nofun (fun va=>?_)
 refine go 1<|WP.jh H (fun qh:(Int×Int×Bool×(List (BA×Int))×(List Event))×OV=>qh.1) (fun qh=>[(3,eq va.1)]) (fun qh=>[aE b0_ 265 [vS a0.cM,eq v0_0.1],kW Value.string aX.O v0_0.1 a0.ao,mp Value.string (fun x:Int=>vI x) va.1 qh.1.2.2.2.1,own Event.K qh.2.1 qh.1.2.2.2.2]++F) (fun qh H=>?_) (fun H=>?_)
 ·
  obtain ⟨pa,vb⟩:=qh
  refine sp ?_
  cases H.out; exact et va 4 [3,0,1,2] 1
 refine wr 4 2<|go 1<|el H fun ta haa H=>cx 3 [1,2,0] (cL 241) (dag_Dag_All.c haa (b0_:=b0_) (v0_0:=v0_0)) nofun fun ga _=>?_
 refine Dv.ko Q T Q (aa 2 Q) qn<|go 1<|WP.block<|ws 4 [0,1,2,3] 0 ?_
 refine lq (fun j_ (pc:Int×(List (BA×Int)))=>member_joined.l0 k ta j_ pc.1 pc.2) (0,([]:List (BA×Int))) H [3,8,9] (fun pc=>[(10,vI pc.1)]) (fun pc=>[(3,mp Value.string (fun x:Int=>vI x) va.1 pc.2)]) ?_
 rintro j_ ⟨xc,xd⟩ H
 rcases j_ with _ | ja
 ·
  exact (aS.no H).elim
 try dsimp only at H
 rw [member_joined.l0] at H
 refine so<|WP.seq<|cf H ?_ ?_ <;> intro H
 ·
  refine WP.exit ?_
  have H:=H.out
  refine ns 4 [0,1,3,2] 0 ?_
  exact jn (((ta.length:Int),xc,decide (xc<(ta.length:Int)),xd,ta),ga) H
 refine WP.skip<|WP.seq<|WP.block<|wr 4 12<|gr H fun gb H=>?_
 have hac:xc.toNat<ta.length:=bp gb
 refine Dv.jX Q T Q (aa 2 Q) Q qn kM mL gb.1 gb.2<|Dv.pM (j:=xc.toNat) (f:=0) Q T Q (aa 2 Q) hac kM Q mL (Nat.le_of_ble_eq_true Q)<|al Q T vM nofun fun ba=>sy 0 ?_
 refine .fin<|su [0]<|WP.block<|so<|ce H ?_ ?_ <;> intro H
 ·
  refine rg 4 8<|gl 3 [0]<|Dv.mup (jj:=4) 1 Q T Q Q Q Q tW (dV U9) nofun<|.fin<|rg 2 0<|go 2<|ns 5 [0,1,2,3,4] 1 ?_
  exact bk ja (av (xc+1),mput xd ((ta.getD xc.toNat default).aj) 1) H
 refine so<|cf H ?_ ?_ <;> intro H
 ·
  refine WP.skip<|rg 2 0<|go 2<|ns 5 [0,1,2,3,4] 1 ?_
  exact bk ja (av (xc+1),xd) H
 refine rg 4 8<|gl 3 [0]<|Dv.mdl (jj:=4) Q T Q Q Q tW (dV U9) nofun<|.fin<|rg 2 0<|go 2<|ns 5 [0,1,2,3,4] 1 ?_
 exact bk ja (av (xc+1),l6 xd ((ta.getD xc.toNat default).aj)) H
theorem j5.c {v0_0:OV} {b0_:Nat} (h:j5.f k a0 a1=some r):Tr prog 121 [ey b0_,vS a1] [aE b0_ 265 [vS a0.cM,eq v0_0.1],kW Value.string aX.O v0_0.1 a0.ao] (γ:=Unit) (fun _=>True) (fun g=>vB r) (fun g=>[aE b0_ 265 [vS a0.cM,eq v0_0.1],kW Value.string aX.O v0_0.1 a0.ao]):=by
 refine tf func121 h fun R0 F H=>?_
 refine so<|wr 6 2<|go 1<|el H fun ta haa H=>cx 2 [0,1] (cL 180) (member_joined.c haa (b0_:=b0_) (v0_0:=v0_0)) nofun fun ga _=>?_
 refine go 1<|Dv.GJ 0 Q T Q (aa 2 Q) Q tW (dV U9) z3 (fun _=>Q)<|gq 2 ?_
 cases H.out; exact et () 3 [2,0,1] 1
theorem bN.c {v0_0:OV} {b0_:Nat} (h:bN.f k a0 a1 a2=some r):Tr prog 57 [ey b0_,vS a1,vS a2] [aE b0_ 186 [eq v0_0.1],kW Value.string bn.O v0_0.1 a0.bx] (γ:=Unit) (fun _=>True) (fun g=>vB r) (fun g=>[aE b0_ 186 [eq v0_0.1],kW Value.string bn.O v0_0.1 a0.bx]):=by
 refine tf func57 h fun R0 F H=>?_
 refine so<|wr 6 4<|go 2<|el H fun ta haa H=>cx 2 [0,1] (cL 88) (aO.c haa (b0_:=b0_) (v0_0:=v0_0)) nofun fun va _=>?_
 refine go 1<|vg (bn.jf 2 Q) fun ga hac=>?_
 refine el H fun tc had H=>pJ 4 [0,1,2,3] (cL 121) (Tr.kn (j5.c had (b0_:=ga.1) (v0_0:=ga.2)) (.cons (iX hac) (.cons bV .nil))) ?_
 refine go 1<|wg (bn.shut (p:=va) (m:=ta) (ga.1,ga.2) hac (pm 4 [0,1,2,3])) fun _ _=>?_
 refine wg (fH (aO.r haa) (pm 3 [2,0,1])) fun _ _=>?_
 cases H.out; exact et () 2 [1,0] 0
theorem iI.c {cb0_:Nat} {cq0_0 cq0_1 cq0_2 cq0_3 cq0_4:OV} {c0:Src} {c1:BA} (h:iI.f k a0 c0 c1=some r):Tr prog 73 [vS a0,ey cb0_,rp [vS c1]] [aE cb0_ 30 [eq cq0_0.1,eq cq0_1.1,eq cq0_2.1,eq cq0_3.1,eq cq0_4.1],aN.O cq0_0 c0.dB,j7.O cq0_1 c0.aJ,bX.O cq0_2 c0.az,cD.O cq0_3 c0.bu,cC.O cq0_4 c0.jy] (γ:=Unit) (fun _=>True) (fun g=>vB r) (fun g=>[aE cb0_ 30 [eq cq0_0.1,eq cq0_1.1,eq cq0_2.1,eq cq0_3.1,eq cq0_4.1],aN.O cq0_0 c0.dB,j7.O cq0_1 c0.aJ,bX.O cq0_2 c0.az,cD.O cq0_3 c0.bu,cC.O cq0_4 c0.jy]):=by
 refine tf func73 h fun R0 F H=>?_
 refine so<|wr 7 0<|gl 2 [0]<|jw Q T Q nu Q<|go 1<|vg (aN.jf 1 Q) fun ga haa=>?_
 refine el H fun ta hac H=>pJ 7 [0,1,2,3,4,5,6] (cL 57) (Tr.kn (bN.c hac (b0_:=ga.1) (v0_0:=ga.2)) (.cons (iX haa) (.cons bV (.cons bV .nil)))) ?_
 refine go 2<|wg (aN.shut (p:=cq0_0) (m:=c0.dB) (ga.1,ga.2) haa (pm 7 [0,1,2,3,4,5,6])) fun _ _=>?_
 cases H.out; exact et () 6 [1,0,2,3,4,5] 0
theorem jP.c {p0_0 p0_1 p0_2 p0_3 p0_4:OV} (h:jP.f k a0 a1 a2=some r):Tr prog 20 [agg [eq p0_0.1,eq p0_1.1,eq p0_2.1,eq p0_3.1,eq p0_4.1],vS a1,vI a2] [aN.O p0_0 a0.dB,j7.O p0_1 a0.aJ,bX.O p0_2 a0.az,cD.O p0_3 a0.bu,cC.O p0_4 a0.jy] (γ:=Unit) (fun _=>True) (fun g=>sl aw r) (fun g=>[aN.O p0_0 a0.dB,j7.O p0_1 a0.aJ,bX.O p0_2 a0.az,cD.O p0_3 a0.bu,cC.O p0_4 a0.jy]):=by
 refine tf func20 h fun R0 F H=>?_
 refine wr 3 3<|Dv.box Q T Q cA nofun fun ba=>Dv.box Q T Q cE nofun fun bc=>go 1<|wr 8 80<|gl 4 [1,0]<|vg (bX.jf 4 Q) fun ga haa=>?_
 refine el H fun ta hac H=>cx 9 [0,1,2,3,4,5,6,7,8] (cL 72) (Tr.kn (aT.c hac (b0_:=ga.1) (v0_0:=ga.2.1) (v0_1:=ga.2.2)) (.cons (iX haa) (.cons bV (.cons bV .nil)))) nofun fun gb _=>?_
 refine vg (bX.shut (p:=p0_2) (m:=a0.az) (ga.1,ga.2.1,ga.2.2) haa (pm 10 [0,1,3,2,4,5,6,7,8,9])) fun _ _=>?_
 refine Dv.gh (rO (E':=[(0,agg [eq p0_0.1,eq p0_1.1,eq p0_2.1,eq p0_3.1,eq p0_4.1]),(1,vS a1),(2,vI a2),(3,ey ba),(4,rp [vS a1]),(6,dJ),(11,eq gb.1)]) (l':=[bX.O p0_2 a0.az,own aw gb.1 ta,aE ba 30 [eq p0_0.1,eq p0_1.1,eq p0_2.1,eq p0_3.1,eq p0_4.1],aN.O p0_0 a0.dB,j7.O p0_1 a0.aJ,cD.O p0_3 a0.bu,cC.O p0_4 a0.jy]++F) 2 Q (ar Q ay (ar Q ay (ar Q ay (ar Q ay (ar Q kV (ar Q ay (ar Q ay jK))))))) (gK (.cons bP (.cons bP (.cons bP (.cons bP (.cons bP (.cons bP (.cons bP .nil))))))) fun _=>bP)) (fun _ _=>?_)
 refine Dv.mkx (Q:=jS (fun a0_=>iI.f k a0_ a0 a1)) (L:=[aE ba 30 [eq p0_0.1,eq p0_1.1,eq p0_2.1,eq p0_3.1,eq p0_4.1],aN.O p0_0 a0.dB,j7.O p0_1 a0.aJ,bX.O p0_2 a0.az,cD.O p0_3 a0.bu,cC.O p0_4 a0.jy]) (cL 73) (by rintro _ _ ⟨a0_,r_,h_,rfl,rfl⟩; exact iI.c h_ (cb0_:=ba) (cq0_0:=p0_0) (cq0_1:=p0_1) (cq0_2:=p0_2) (cq0_3:=p0_3) (cq0_4:=p0_4)) Q T Q Q<|el H fun tc had H=>cx 7 [1,2,3,4,0,5,6] (cL 71) (Tr.JN (A:=[own aw gb.1 ta]) (L:=[aE ba 30 [eq p0_0.1,eq p0_1.1,eq p0_2.1,eq p0_3.1,eq p0_4.1],aN.O p0_0 a0.dB,j7.O p0_1 a0.aJ,bX.O p0_2 a0.az,cD.O p0_3 a0.bu,cC.O p0_4 a0.jy]) (B:=fun gi:OV=>[own aw gi.1 tc]) (slices_DeleteFunc_string_xo.c had (p0_:=gb) (X1_:=(pk [aE ba 30 [eq p0_0.1,eq p0_1.1,eq p0_2.1,eq p0_3.1,eq p0_4.1],aN.O p0_0 a0.dB,j7.O p0_1 a0.aJ,bX.O p0_2 a0.az,cD.O p0_3 a0.bu,cC.O p0_4 a0.jy])))) nofun fun gi _=>?_
 refine go 1<|fz 6 [6] [] ?_
 cases H.out; exact et () 6 [0,1,2,3,4,5] 1
theorem gW.c {b0_:Nat} (h:gW.f a0=some r):Tr prog 118 [ey b0_] [aE b0_ 257 [vI a0.fn.fv,vI a0.eb]] (γ:=Unit) (fun _=>True) (fun g=>vI r) (fun g=>[aE b0_ 257 [vI a0.fn.fv,vI a0.eb]]):=by
 refine tf func118 h fun R0 F H=>?_
 refine so<|wr 5 0<|go 3<|pJ 1 [0] (cL 178) (od.c (b:=b0_) (off:=0) (bT:=257) (qs:=[vI a0.fn.fv,vI a0.eb]) (n:=a0.fn.fv) Q) ?_
 refine gq 1 ?_
 cases H.out; exact et () 1 [0] 0
theorem fQ.c {p0_:OV} (h:fQ.f a0=some r):Tr prog 53 [eq p0_.1] [cC.O p0_ a0] (γ:=Unit) (fun _=>True) (fun g=>vI r) (fun g=>[cC.O p0_ a0]):=by
 refine tf func53 h fun R0 F H=>?_
 refine so<|wr 6 0<|go 1<|Dv.qx cC.nn Q T Q (aa 0 Q)<|vg (cC.jf 0 Q) fun ga haa=>?_
 refine fp haa Q T Q Dp<|gl 1 [0]<|vg (lz.jf 1 Q) fun gb hac=>?_
 refine el H fun ta had H=>pJ 4 [0,1,2,3] (cL 118) (Tr.kn (gW.c had (b0_:=gb)) (.cons (iX hac) .nil)) ?_
 refine go 1<|wg (lz.shut (p:=ga.2.1) (m:=a0.iU) gb hac (pm 4 [0,1,2,3])) fun _ _=>?_
 refine wg (cC.shut (p:=p0_) (m:=a0) (ga.1,ga.2.1,ga.2.2.1,ga.2.2.2) haa (pm 4 [1,0,2,3])) fun _ _=>?_
 cases H.out; exact et () 1 [0] 0
theorem b8.c {p0_:OV} (h:b8.f k a0 a1=some r):Tr prog 54 [eq p0_.1,vI a1] [cC.O p0_ a0] (γ:=OV) (fun _=>True) (fun g=>eq g.1) (fun g=>[cC.O p0_ a0,own aw g.1 r]):=by
 refine tf func54 h fun R0 F H=>?_
 refine so<|wr 6 0<|go 1<|Dv.qx cC.nn Q T Q (aa 0 Q)<|vg (cC.jf 0 Q) fun ga haa=>?_
 refine fp haa Q T Q nf<|gl 1 [0]<|Dv.ko Q T Q (aa 2 Q) de<|go 1<|WP.jh H id (fun pa=>[(0,eq p0_.1),(5,vI pa.1)]) (fun pa=>[cC.O p0_ a0]++F) (fun pa H=>?_) (fun H=>?_)
 ·
  refine wr 9 128<|go 1<|Dv.qx cC.nn Q T Q (aa 0 Q)<|vg (cC.jf 0 Q) fun gb hac=>?_
  refine fp hac Q T Q nf<|gl 1 [0]<|Dv.ko Q T Q (aa 2 Q) de<|go 2<|gr H fun gi H=>?_
  obtain ⟨ti1955,ti1955a,ti1955b,ti1955c,ti1955d⟩:=rA
  refine Dv.Hl (Kd:=aw) (eE:BA) Q T Q Q de ti1955a ti1955b ti1955c ti1955d Q dc Q gi nofun (fun va=>?_)
  refine go 1<|wr 8 128<|go 2<|Dv.bU hac Q T Q<|fp hac Q T Q nf<|gl 2 [1]<|gr H fun gj H=>Dv.slt (Kd:=aw) Q T Q (aa 3 Q) de U9 c9 (eY Q gj.1) gj.2<|Dv.cpt (Kd:=aw) (jj:=0) Q T Q Q (aa 3 Q) Q de U9 c9 gj.2 nofun<|.fin<|so<|wg (cC.shut (p:=p0_) (m:=a0) (gb.1,gb.2.1,gb.2.2.1,gb.2.2.2) hac (pm 5 [1,2,3,4,0])) fun _ _=>?_
  cases H.out; exact et va 2 [0,1] 0
 refine WP.block<|wg (cC.shut (p:=p0_) (m:=a0) (ga.1,ga.2.1,ga.2.2.1,ga.2.2.2) haa (pm 4 [0,1,2,3])) fun _ _=>?_
 refine ws 1 [0] 0 ?_
 refine lq (fun j_ (pc:Int)=>b8.l0 k a0 a1 j_ pc) (a0.eU.length:Int) H [0,1] (fun pc=>[(5,vI pc)]) (fun _=>[]) ?_
 rintro j_ xc H
 rcases j_ with _ | ja
 ·
  exact (aS.no H).elim
 try dsimp only at H
 rw [b8.l0] at H
 refine WP.seq<|WP.seq<|wg (cC.jf 0 Q) fun gk had=>?_
 refine dg mX 19 0<|gp 3 ?_
 cases cc:decide (0<xc)
 ·
  have H:=H.cf cc
  refine go 16<|WP.cond Q nofun (fun _=>?_)
  refine WP.exit ?_
  have H:=H.out
  refine ng (cC.shut (p:=p0_) (m:=a0) (gk.1,gk.2.1,gk.2.2.1,gk.2.2.2) had (pm 4 [0,1,2,3])) fun _ _=>?_
  exact jn (xc,false) H
 have H:=H.ct cc
 refine go 1<|Dv.bU had Q (gg Q) Q<|fp had Q (gg Q) Q zE<|gl 2 [0]<|Dv.bU had Q (gg Q) Q<|fp had Q (gg Q) Q nf<|gl 3 [0]<|gr H fun gm H=>?_
 have hae:(av (xc-1)).toNat<a0.eU.length:=bp gm
 refine Dv.jX Q (gg Q) Q (aa 2 Q) Q de U9 c9 gm.1 gm.2<|Dv.na (j:=((av (xc-1)).toNat)) (f:=0) (p:=vS (a0.eU.getD ((av (xc-1)).toNat) default)) Q (gg Q) Q (aa 2 Q) hae U9 Q Q<|Dv.GJ 0 Q (gg Q) Q (aa 3 Q) Q tW (dV U9) z3 (fun _=>Q)<|go 3<|ce H ?_ ?_ <;> intro H
 ·
  refine WP.skip<|WP.block<|rg 3 0<|go 3<|ng (cC.shut (p:=p0_) (m:=a0) (gk.1,gk.2.1,gk.2.2.1,gk.2.2.2) had (pm 4 [0,1,2,3])) fun _ _=>?_
  exact bk ja (av (xc-1)) H
 refine WP.exit ?_
 have H:=H.out
 refine ng (cC.shut (p:=p0_) (m:=a0) (gk.1,gk.2.1,gk.2.2.1,gk.2.2.2) had (pm 4 [0,1,2,3])) fun _ _=>?_
 exact jn (xc,decide (a1<((mget a0.ou (a0.eU.getD ((av (xc-1)).toNat) default)).getD 0))) H
theorem gT.c (h:gT.f a0 a1=some r):Pt prog 240 [vS a0,vS a1] (vI r):=by
 refine pf func240 h fun R0 F H=>?_
 refine so<|wr 4 0<|go 2<|el H fun ta haa H=>cl Q (cL 269) Q (eH.c haa)<|gq 1 ?_
 cases H.out; exact ek 0
theorem strings_Count.c (h:strings_Count.f k a0 a1=some r):Pt prog 239 [vS a0,vS a1] (vI r):=by
 refine pf func239 h fun R0 F H=>?_
 refine so<|WP.seq<|wr 3 0<|go 1<|Dv.lens Q T Q U9<|go 1<|ce H ?_ ?_ <;> intro H
 ·
  exact (aS.no H).elim
 refine WP.skip<|WP.seq<|wr 3 0<|go 1<|Dv.lens Q T Q U9<|go 1<|ce H ?_ ?_ <;> intro H
 ·
  refine wr 5 0<|go 2<|gr H fun ga H=>Dv.qM Q T Q Q U9 ga.1 ga.2<|Dv.Km Q T Q (FZ func268 kr Q xf268 xg268)<|gq 1 ?_
  cases H.out; exact ek 0
 refine WP.skip<|so<|WP.block<|ws 0 [] 0 ?_
 refine lq (fun j_ (pa:BA×Int)=>strings_Count.l0 k a1 j_ pa.1 pa.2) (a0,0) H [1] (fun pa=>[(0,vS pa.1),(5,vI pa.2)]) (fun _=>[]) ?_
 rintro j_ ⟨xc,xd⟩ H
 rcases j_ with _ | ja
 ·
  exact (aS.no H).elim
 try dsimp only at H
 rw [strings_Count.l0] at H
 refine WP.block<|wr 4 0<|go 2<|el H fun ta haa H=>cl Q (cL 240) Q (gT.c haa)<|go 1<|WP.seq<|so<|ce H ?_ ?_ <;> intro H
 ·
  refine sp ?_
  cases H.out; exact ek 0
 exact WP.skip<|so<|rg 7 0<|go 3<|Dv.lens Q T Q U9<|go 1<|gr H fun gb H=>Dv.JB Q T Q U9 (eY Q gb.1) dM gb.2.1 gb.2.2<|go 1<|bk ja (xc.extract (av (ta+(a1.size:Int))).toNat xc.size,av (xd+1)) H
theorem strings_genSplit.c (h:strings_genSplit.f k a0 a1 a2 a3=some r):Tr prog 179 [vS a0,vS a1,vI a2,vI a3] [] (γ:=OV) (fun _=>True) (fun g=>eq g.1) (fun g=>[own aw g.1 r]):=by
 refine tf func179 h fun R0 F H=>?_
 refine so<|WP.seq<|so<|ce H ?_ ?_ <;> intro H
 ·
  refine so<|wg (dy aw none) fun _ _=>?_
  cases H.out; exact et jR 1 [0] 0
 refine WP.skip<|WP.seq<|so<|ce H ?_ ?_ <;> intro H
 ·
  exact (aS.no H).elim
 refine WP.skip<|sq H id [0,1,2] (fun pa=>[(3,vI pa)]) (fun _=>[]) (fun pa H=>?_) (fun H=>?_)
 rotate_left
 ·
  refine so<|cf H ?_ ?_ <;> intro H
  ·
   refine WP.skip ?_
   have H:=H.out
   exact jn a3 H
  refine rg 5 0<|go 2<|el H fun ta haa H=>cl Q (cL 239) Q (strings_Count.c haa)<|gq 2 ?_
  have H:=H.out
  exact jn (av (ta+1)) H
 refine wr 6 0<|go 2<|Dv.lens Q T Q U9<|go 1<|Dv.mini Q T Q Q<|go 1<|wr 3 2<|go 1<|gr H fun ga H=>?_
 obtain ⟨ti1985,ti1985a,ti1985b,ti1985c,ti1985d⟩:=rA
 refine Dv.Hl (Kd:=aw) (eE:BA) Q T Q Q de ti1985a ti1985b ti1985c ti1985d Q dc Q ga nofun (fun va=>?_)
 refine go 1<|so<|so<|sq H id [9] (fun pc=>[(0,vS pc.1),(10,vI pc.2.1)]) (fun pc=>[(0,own aw va.1 pc.2.2.2)]) (fun pc H=>?_) (fun H=>?_)
 ·
  refine wr 5 16<|go 3<|gr H fun gb H=>?_
  have hac:pc.2.1.toNat<pc.2.2.2.length:=bp gb
  refine Dv.jX Q T Q (aa 0 Q) Q de U9 c9 gb.1 gb.2<|Dv.IK (j:=pc.2.1.toNat) (f:=0) (jj:=0) pc.1 Q T Q Q (cells_one (ah Q)) U9 c9 Q Q hac (Nat.le_of_ble_eq_true Q) Q nofun<|.fin<|wr 5 8<|go 3<|gr H fun gi H=>Dv.slo (jj:=0) Q T Q Q de U9 c9 dM (eY Q gi.1) (.inl Q) gi.2.1 gi.2.2 nofun (fun vb=>?_)
  refine gq 1 ?_
  cases H.out; exact et vb 1 [0] 0
 refine WP.block<|ws 1 [0] 0 ?_
 refine lq (fun j_ (pe:BA×Int×(List BA))=>strings_genSplit.l0 k a0 a1 a2 pa j_ pe.1 pe.2.1 pe.2.2) (a0,0,List.replicate (min pa (av ((a0.size:Int)+1))).toNat (eE:BA)) H [1,2,3,9] (fun pe=>[(0,vS pe.1),(10,vI pe.2.1)]) (fun pe=>[(0,own aw va.1 pe.2.2)]) ?_
 rintro j_ ⟨xc,xd,xe⟩ H
 rcases j_ with _ | ja
 ·
  exact (aS.no H).elim
 try dsimp only at H
 rw [strings_genSplit.l0] at H
 refine WP.seq<|so<|cf H ?_ ?_ <;> intro H
 ·
  refine WP.exit ?_
  have H:=H.out
  exact jn (xc,xd,decide (xd<(av ((min pa (av ((a0.size:Int)+1)))-1))),xe) H
 refine WP.skip<|WP.block<|wr 4 0<|go 2<|el H fun tc had H=>cl Q (cL 240) Q (gT.c had)<|go 1<|WP.seq<|so<|ce H ?_ ?_ <;> intro H
 ·
  refine WP.exit ?_
  have H:=H.out
  exact jn (xc,xd,decide (xd<(av ((min pa (av ((a0.size:Int)+1)))-1))),xe) H
 refine WP.skip<|wr 9 256<|go 6<|gr H fun gj H=>Dv.JB Q T Q U9 dM (eY Q gj.1) gj.2.1 gj.2.2<|gr H fun gk H=>?_
 have hae:xd.toNat<xe.length:=bp gk
 exact Dv.jX Q T Q (aa 0 Q) Q de U9 c9 gk.1 gk.2<|Dv.IK (j:=xd.toNat) (f:=0) (jj:=0) (xc.extract 0 ((av (tc+a2)).toNat)) Q T Q Q (cells_one (ah Q)) U9 c9 Q Q hae (Nat.le_of_ble_eq_true Q) Q nofun<|.fin<|wr 7 0<|go 3<|Dv.lens Q T Q U9<|go 1<|gr H fun gm H=>Dv.JB Q T Q U9 (eY Q gm.1) dM gm.2.1 gm.2.2<|go 1<|rg 3 0<|go 3<|bk ja (xc.extract (av (tc+(a1.size:Int))).toNat xc.size,av (xd+1),xe.set xd.toNat (xc.extract 0 ((av (tc+a2)).toNat))) H
theorem lf.c (h:lf.f k a0 a1=some r):Tr prog 119 [vS a0,vS a1] [] (γ:=OV) (fun _=>True) (fun g=>eq g.1) (fun g=>[own aw g.1 r]):=by
 refine tf func119 h fun R0 F H=>?_
 refine so<|wr 4 4<|go 2<|el H fun ta haa H=>cx 0 [] (cL 179) (strings_genSplit.c haa) nofun fun ga _=>?_
 refine gq 1 ?_
 cases H.out; exact et ga 1 [0] 0
theorem nj.c (h:nj.f k a0=some r):Pt prog 55 [vS a0] (jW.p r):=by
 refine pf func55 h fun R0 F H=>?_
 refine so<|wr 3 2<|go 1<|el H fun ta haa H=>cx 0 [] (cL 119) (lf.c haa) nofun fun ga _=>?_
 refine go 1<|WP.seq<|WP.block<|wr 22 0<|go 1<|Dv.ko Q T Q (aa 0 Q) de<|gp 2 ?_
 rcases bm H with ⟨cc,H⟩ | ⟨cc,H⟩
 ·
  refine sh 9 cc ?_
  refine sh 10 cc ?_
  refine go 18<|WP.cond Q nofun (fun _=>?_)
  refine wr 10 0<|go 1<|Dv.ko Q T Q (aa 0 Q) de<|gp 2 ?_
  rcases bm H with ⟨cg,H⟩ | ⟨cg,H⟩
  ·
   refine sh 46 cg ?_
   refine sh 47 cg ?_
   refine go 6<|WP.cond Q nofun (fun _=>?_)
   refine wr 10 0<|go 1<|Dv.ko Q T Q (aa 0 Q) de<|gp 2 ?_
   rcases bm H with ⟨ci,H⟩ | ⟨ci,H⟩
   ·
    refine sh 60 ci ?_
    refine sh 61 ci ?_
    refine go 6<|WP.cond Q nofun (fun _=>?_)
    refine WP.skip<|sp ?_
    cases H.out; exact ek 1
   refine sh 60 ci ?_
   refine sh 61 ci ?_
   refine go 1<|gr H fun gb H=>?_
   have hac:(0:Int).toNat<ta.length:=bp gb
   refine Dv.jX Q (gg Q) Q (aa 0 Q) Q de U9 c9 gb.1 gb.2<|Dv.na (j:=((0:Int).toNat)) (f:=0) (p:=vS (ta.getD ((0:Int).toNat) default)) Q (gg Q) Q (aa 0 Q) hac U9 Q Q<|go 3<|cf H ?_ ?_ <;> intro H
   ·
    refine WP.skip<|sp ?_
    cases H.out; exact ek 1
   refine wr 5 0<|go 1<|gr H fun gi H=>?_
   have had:(1:Int).toNat<ta.length:=bp gi
   refine Dv.jX Q T Q (aa 0 Q) Q de U9 c9 gi.1 gi.2<|Dv.na (j:=((1:Int).toNat)) (f:=0) (p:=vS (ta.getD ((1:Int).toNat) default)) Q T Q (aa 0 Q) had U9 Q Q<|Dv.EP Q T Q s7<|gq 1 ?_
   cases H.out; exact ek 1
  refine sh 46 cg ?_
  refine sh 47 cg ?_
  refine go 1<|gr H fun gj H=>?_
  have hae:(0:Int).toNat<ta.length:=bp gj
  refine Dv.jX Q (gg Q) Q (aa 0 Q) Q de U9 c9 gj.1 gj.2<|Dv.na (j:=((0:Int).toNat)) (f:=0) (p:=vS (ta.getD ((0:Int).toNat) default)) Q (gg Q) Q (aa 0 Q) hae U9 Q Q<|go 3<|ce H ?_ ?_ <;> intro H
  ·
   refine wr 5 0<|go 1<|gr H fun gk H=>?_
   have haf:(1:Int).toNat<ta.length:=bp gk
   refine Dv.jX Q T Q (aa 0 Q) Q de U9 c9 gk.1 gk.2<|Dv.na (j:=((1:Int).toNat)) (f:=0) (p:=vS (ta.getD ((1:Int).toNat) default)) Q T Q (aa 0 Q) haf U9 Q Q<|Dv.EP Q T Q BF<|gq 1 ?_
   cases H.out; exact ek 1
  refine wr 10 0<|go 1<|Dv.ko Q T Q (aa 0 Q) de<|gp 2 ?_
  rcases bm H with ⟨cj,H⟩ | ⟨cj,H⟩
  ·
   refine sh 60 cj ?_
   refine sh 61 cj ?_
   refine go 6<|WP.cond Q nofun (fun _=>?_)
   refine WP.skip<|sp ?_
   cases H.out; exact ek 1
  refine sh 60 cj ?_
  refine sh 61 cj ?_
  refine go 1<|gr H fun gm H=>?_
  have hag:(0:Int).toNat<ta.length:=bp gm
  refine Dv.jX Q (gg Q) Q (aa 0 Q) Q de U9 c9 gm.1 gm.2<|Dv.na (j:=((0:Int).toNat)) (f:=0) (p:=vS (ta.getD ((0:Int).toNat) default)) Q (gg Q) Q (aa 0 Q) hag U9 Q Q<|go 3<|cf H ?_ ?_ <;> intro H
  ·
   refine WP.skip<|sp ?_
   cases H.out; exact ek 1
  refine wr 5 0<|go 1<|gr H fun gn H=>?_
  have hah:(1:Int).toNat<ta.length:=bp gn
  refine Dv.jX Q T Q (aa 0 Q) Q de U9 c9 gn.1 gn.2<|Dv.na (j:=((1:Int).toNat)) (f:=0) (p:=vS (ta.getD ((1:Int).toNat) default)) Q T Q (aa 0 Q) hah U9 Q Q<|Dv.EP Q T Q s7<|gq 1 ?_
  cases H.out; exact ek 1
 refine sh 9 cc ?_
 refine sh 10 cc ?_
 refine go 1<|gr H fun gu H=>?_
 have hai:(0:Int).toNat<ta.length:=bp gu
 refine Dv.jX Q (gg Q) Q (aa 0 Q) Q de U9 c9 gu.1 gu.2<|Dv.na (j:=((0:Int).toNat)) (f:=0) (p:=vS (ta.getD ((0:Int).toNat) default)) Q (gg Q) Q (aa 0 Q) hai U9 Q Q<|gp 3 ?_
 rcases bm H with ⟨ck,H⟩ | ⟨ck,H⟩
 ·
  refine sh 14 ck ?_
  refine sh 15 ck ?_
  refine sh 16 ck ?_
  refine go 12<|WP.cond Q nofun (fun _=>?_)
  refine wr 10 0<|go 1<|Dv.ko Q T Q (aa 0 Q) de<|gp 2 ?_
  rcases bm H with ⟨cn,H⟩ | ⟨cn,H⟩
  ·
   refine sh 46 cn ?_
   refine sh 47 cn ?_
   refine go 6<|WP.cond Q nofun (fun _=>?_)
   refine wr 10 0<|go 1<|Dv.ko Q T Q (aa 0 Q) de<|gp 2 ?_
   rcases bm H with ⟨co,H⟩ | ⟨co,H⟩
   ·
    refine sh 60 co ?_
    refine sh 61 co ?_
    refine go 6<|WP.cond Q nofun (fun _=>?_)
    refine WP.skip<|sp ?_
    cases H.out; exact ek 1
   refine sh 60 co ?_
   refine sh 61 co ?_
   refine go 1<|gr H fun gv H=>?_
   have haj:(0:Int).toNat<ta.length:=bp gv
   refine Dv.jX Q (gg Q) Q (aa 0 Q) Q de U9 c9 gv.1 gv.2<|Dv.na (j:=((0:Int).toNat)) (f:=0) (p:=vS (ta.getD ((0:Int).toNat) default)) Q (gg Q) Q (aa 0 Q) haj U9 Q Q<|go 3<|cf H ?_ ?_ <;> intro H
   ·
    refine WP.skip<|sp ?_
    cases H.out; exact ek 1
   refine wr 5 0<|go 1<|gr H fun gw H=>?_
   have hak:(1:Int).toNat<ta.length:=bp gw
   refine Dv.jX Q T Q (aa 0 Q) Q de U9 c9 gw.1 gw.2<|Dv.na (j:=((1:Int).toNat)) (f:=0) (p:=vS (ta.getD ((1:Int).toNat) default)) Q T Q (aa 0 Q) hak U9 Q Q<|Dv.EP Q T Q s7<|gq 1 ?_
   cases H.out; exact ek 1
  refine sh 46 cn ?_
  refine sh 47 cn ?_
  refine go 1<|gr H fun gy H=>?_
  have ham:(0:Int).toNat<ta.length:=bp gy
  refine Dv.jX Q (gg Q) Q (aa 0 Q) Q de U9 c9 gy.1 gy.2<|Dv.na (j:=((0:Int).toNat)) (f:=0) (p:=vS (ta.getD ((0:Int).toNat) default)) Q (gg Q) Q (aa 0 Q) ham U9 Q Q<|go 3<|ce H ?_ ?_ <;> intro H
  ·
   refine wr 5 0<|go 1<|gr H fun gz H=>?_
   have han:(1:Int).toNat<ta.length:=bp gz
   refine Dv.jX Q T Q (aa 0 Q) Q de U9 c9 gz.1 gz.2<|Dv.na (j:=((1:Int).toNat)) (f:=0) (p:=vS (ta.getD ((1:Int).toNat) default)) Q T Q (aa 0 Q) han U9 Q Q<|Dv.EP Q T Q BF<|gq 1 ?_
   cases H.out; exact ek 1
  refine wr 10 0<|go 1<|Dv.ko Q T Q (aa 0 Q) de<|gp 2 ?_
  rcases bm H with ⟨cp,H⟩ | ⟨cp,H⟩
  ·
   refine sh 60 cp ?_
   refine sh 61 cp ?_
   refine go 6<|WP.cond Q nofun (fun _=>?_)
   refine WP.skip<|sp ?_
   cases H.out; exact ek 1
  refine sh 60 cp ?_
  refine sh 61 cp ?_
  refine go 1<|gr H fun gaa H=>?_
  have hao:(0:Int).toNat<ta.length:=bp gaa
  refine Dv.jX Q (gg Q) Q (aa 0 Q) Q de U9 c9 gaa.1 gaa.2<|Dv.na (j:=((0:Int).toNat)) (f:=0) (p:=vS (ta.getD ((0:Int).toNat) default)) Q (gg Q) Q (aa 0 Q) hao U9 Q Q<|go 3<|cf H ?_ ?_ <;> intro H
  ·
   refine WP.skip<|sp ?_
   cases H.out; exact ek 1
  refine wr 5 0<|go 1<|gr H fun gab H=>?_
  have hap:(1:Int).toNat<ta.length:=bp gab
  refine Dv.jX Q T Q (aa 0 Q) Q de U9 c9 gab.1 gab.2<|Dv.na (j:=((1:Int).toNat)) (f:=0) (p:=vS (ta.getD ((1:Int).toNat) default)) Q T Q (aa 0 Q) hap U9 Q Q<|Dv.EP Q T Q s7<|gq 1 ?_
  cases H.out; exact ek 1
 refine sh 14 ck ?_
 refine sh 15 ck ?_
 refine sh 16 ck ?_
 refine go 1<|gr H fun gac H=>?_
 have haq:(4:Int).toNat<ta.length:=bp gac
 refine Dv.jX Q (gg Q) Q (aa 0 Q) Q de U9 c9 gac.1 gac.2<|Dv.na (j:=((4:Int).toNat)) (f:=0) (p:=vS (ta.getD ((4:Int).toNat) default)) Q (gg Q) Q (aa 0 Q) haq U9 Q Q<|gp 2 ?_
 rcases bm H with ⟨cq,H⟩ | ⟨cq,H⟩
 rotate_left
 ·
  refine sh 20 cq ?_
  refine sh 21 cq ?_
  refine go 7<|WP.cond Q (fun _=>?_) nofun
  refine wd mX 16 0<|go 1<|gr H fun gad H=>?_
  have har:(1:Int).toNat<ta.length:=bp gad
  refine Dv.jX Q T Q (aa 0 Q) Q de U9 c9 gad.1 gad.2<|Dv.na (j:=((1:Int).toNat)) (f:=0) (p:=vS (ta.getD ((1:Int).toNat) default)) Q T Q (aa 0 Q) har U9 Q Q<|go 1<|gr H fun gae H=>?_
  have has:(2:Int).toNat<ta.length:=bp gae
  refine Dv.jX Q T Q (aa 0 Q) Q de U9 c9 gae.1 gae.2<|Dv.na (j:=((2:Int).toNat)) (f:=0) (p:=vS (ta.getD ((2:Int).toNat) default)) Q T Q (aa 0 Q) has U9 Q Q<|go 1<|gr H fun gaf H=>?_
  have hau:(3:Int).toNat<ta.length:=bp gaf
  refine Dv.jX Q T Q (aa 0 Q) Q de U9 c9 gaf.1 gaf.2<|Dv.na (j:=((3:Int).toNat)) (f:=0) (p:=vS (ta.getD ((3:Int).toNat) default)) Q T Q (aa 0 Q) hau U9 Q Q<|go 1<|gr H fun gag H=>?_
  have hav:(4:Int).toNat<ta.length:=bp gag
  refine Dv.jX Q T Q (aa 0 Q) Q de U9 c9 gag.1 gag.2<|Dv.na (j:=((4:Int).toNat)) (f:=0) (p:=vS (ta.getD ((4:Int).toNat) default)) Q T Q (aa 0 Q) hav U9 Q Q<|go 1<|Dv.kL (qs:=[vS (ta.getD ((1:Int).toNat) default),vS (ta.getD ((2:Int).toNat) default),vS (ta.getD ((3:Int).toNat) default),vB (decide ((ta.getD ((4:Int).toNat) default)=(⟨#[49]⟩:BA)))]) (css:=[[vS (ta.getD ((1:Int).toNat) default)],[vS (ta.getD ((2:Int).toNat) default)],[vS (ta.getD ((3:Int).toNat) default)],[vB (decide ((ta.getD ((4:Int).toNat) default)=(⟨#[49]⟩:BA)))]]) Q T Iw JE z89 Q ⟨(cells_one (ah Q)),⟨(cells_one (ah Q)),⟨(cells_one (ah Q)),⟨(cells_one (ah Q)),T⟩⟩⟩⟩ Q Q<|Dv.EP Q T Q J0<|gq 1 ?_
  cases H.out; exact ek 1
 refine sh 20 cq ?_
 refine sh 21 cq ?_
 refine go 1<|gr H fun gah H=>?_
 have haw:(4:Int).toNat<ta.length:=bp gah
 refine Dv.jX Q (gg Q) Q (aa 0 Q) Q de U9 c9 gah.1 gah.2<|Dv.na (j:=((4:Int).toNat)) (f:=0) (p:=vS (ta.getD ((4:Int).toNat) default)) Q (gg Q) Q (aa 0 Q) haw U9 Q Q<|go 4<|ce H ?_ ?_ <;> intro H
 ·
  refine wd mX 16 0<|go 1<|gr H fun gai H=>?_
  have hax:(1:Int).toNat<ta.length:=bp gai
  refine Dv.jX Q T Q (aa 0 Q) Q de U9 c9 gai.1 gai.2<|Dv.na (j:=((1:Int).toNat)) (f:=0) (p:=vS (ta.getD ((1:Int).toNat) default)) Q T Q (aa 0 Q) hax U9 Q Q<|go 1<|gr H fun gaj H=>?_
  have hay:(2:Int).toNat<ta.length:=bp gaj
  refine Dv.jX Q T Q (aa 0 Q) Q de U9 c9 gaj.1 gaj.2<|Dv.na (j:=((2:Int).toNat)) (f:=0) (p:=vS (ta.getD ((2:Int).toNat) default)) Q T Q (aa 0 Q) hay U9 Q Q<|go 1<|gr H fun gak H=>?_
  have haz:(3:Int).toNat<ta.length:=bp gak
  refine Dv.jX Q T Q (aa 0 Q) Q de U9 c9 gak.1 gak.2<|Dv.na (j:=((3:Int).toNat)) (f:=0) (p:=vS (ta.getD ((3:Int).toNat) default)) Q T Q (aa 0 Q) haz U9 Q Q<|go 1<|gr H fun gal H=>?_
  have hbe:(4:Int).toNat<ta.length:=bp gal
  refine Dv.jX Q T Q (aa 0 Q) Q de U9 c9 gal.1 gal.2<|Dv.na (j:=((4:Int).toNat)) (f:=0) (p:=vS (ta.getD ((4:Int).toNat) default)) Q T Q (aa 0 Q) hbe U9 Q Q<|go 1<|Dv.kL (qs:=[vS (ta.getD ((1:Int).toNat) default),vS (ta.getD ((2:Int).toNat) default),vS (ta.getD ((3:Int).toNat) default),vB (decide ((ta.getD ((4:Int).toNat) default)=(⟨#[49]⟩:BA)))]) (css:=[[vS (ta.getD ((1:Int).toNat) default)],[vS (ta.getD ((2:Int).toNat) default)],[vS (ta.getD ((3:Int).toNat) default)],[vB (decide ((ta.getD ((4:Int).toNat) default)=(⟨#[49]⟩:BA)))]]) Q T Iw JE z89 Q ⟨(cells_one (ah Q)),⟨(cells_one (ah Q)),⟨(cells_one (ah Q)),⟨(cells_one (ah Q)),T⟩⟩⟩⟩ Q Q<|Dv.EP Q T Q J0<|gq 1 ?_
  cases H.out; exact ek 1
 refine wr 10 0<|go 1<|Dv.ko Q T Q (aa 0 Q) de<|gp 2 ?_
 rcases bm H with ⟨cr,H⟩ | ⟨cr,H⟩
 ·
  refine sh 46 cr ?_
  refine sh 47 cr ?_
  refine go 6<|WP.cond Q nofun (fun _=>?_)
  refine wr 10 0<|go 1<|Dv.ko Q T Q (aa 0 Q) de<|gp 2 ?_
  rcases bm H with ⟨cu,H⟩ | ⟨cu,H⟩
  ·
   refine sh 60 cu ?_
   refine sh 61 cu ?_
   refine go 6<|WP.cond Q nofun (fun _=>?_)
   refine WP.skip<|sp ?_
   cases H.out; exact ek 1
  refine sh 60 cu ?_
  refine sh 61 cu ?_
  refine go 1<|gr H fun gam H=>?_
  have hbf:(0:Int).toNat<ta.length:=bp gam
  refine Dv.jX Q (gg Q) Q (aa 0 Q) Q de U9 c9 gam.1 gam.2<|Dv.na (j:=((0:Int).toNat)) (f:=0) (p:=vS (ta.getD ((0:Int).toNat) default)) Q (gg Q) Q (aa 0 Q) hbf U9 Q Q<|go 3<|cf H ?_ ?_ <;> intro H
  ·
   refine WP.skip<|sp ?_
   cases H.out; exact ek 1
  refine wr 5 0<|go 1<|gr H fun gan H=>?_
  have hbg:(1:Int).toNat<ta.length:=bp gan
  refine Dv.jX Q T Q (aa 0 Q) Q de U9 c9 gan.1 gan.2<|Dv.na (j:=((1:Int).toNat)) (f:=0) (p:=vS (ta.getD ((1:Int).toNat) default)) Q T Q (aa 0 Q) hbg U9 Q Q<|Dv.EP Q T Q s7<|gq 1 ?_
  cases H.out; exact ek 1
 refine sh 46 cr ?_
 refine sh 47 cr ?_
 refine go 1<|gr H fun gao H=>?_
 have hbh:(0:Int).toNat<ta.length:=bp gao
 refine Dv.jX Q (gg Q) Q (aa 0 Q) Q de U9 c9 gao.1 gao.2<|Dv.na (j:=((0:Int).toNat)) (f:=0) (p:=vS (ta.getD ((0:Int).toNat) default)) Q (gg Q) Q (aa 0 Q) hbh U9 Q Q<|go 3<|ce H ?_ ?_ <;> intro H
 ·
  refine wr 5 0<|go 1<|gr H fun gap H=>?_
  have hbi:(1:Int).toNat<ta.length:=bp gap
  refine Dv.jX Q T Q (aa 0 Q) Q de U9 c9 gap.1 gap.2<|Dv.na (j:=((1:Int).toNat)) (f:=0) (p:=vS (ta.getD ((1:Int).toNat) default)) Q T Q (aa 0 Q) hbi U9 Q Q<|Dv.EP Q T Q BF<|gq 1 ?_
  cases H.out; exact ek 1
 refine wr 10 0<|go 1<|Dv.ko Q T Q (aa 0 Q) de<|gp 2 ?_
 rcases bm H with ⟨cw,H⟩ | ⟨cw,H⟩
 ·
  refine sh 60 cw ?_
  refine sh 61 cw ?_
  refine go 6<|WP.cond Q nofun (fun _=>?_)
  refine WP.skip<|sp ?_
  cases H.out; exact ek 1
 refine sh 60 cw ?_
 refine sh 61 cw ?_
 refine go 1<|gr H fun gaq H=>?_
 have hbj:(0:Int).toNat<ta.length:=bp gaq
 refine Dv.jX Q (gg Q) Q (aa 0 Q) Q de U9 c9 gaq.1 gaq.2<|Dv.na (j:=((0:Int).toNat)) (f:=0) (p:=vS (ta.getD ((0:Int).toNat) default)) Q (gg Q) Q (aa 0 Q) hbj U9 Q Q<|go 3<|cf H ?_ ?_ <;> intro H
 ·
  refine WP.skip<|sp ?_
  cases H.out; exact ek 1
 refine wr 5 0<|go 1<|gr H fun gar H=>?_
 have hbl:(1:Int).toNat<ta.length:=bp gar
 refine Dv.jX Q T Q (aa 0 Q) Q de U9 c9 gar.1 gar.2<|Dv.na (j:=((1:Int).toNat)) (f:=0) (p:=vS (ta.getD ((1:Int).toNat) default)) Q T Q (aa 0 Q) hbl U9 Q Q<|Dv.EP Q T Q s7<|gq 1 ?_
 cases H.out; exact ek 1
theorem fZ.c {p0_:OV} (h:fZ.f a0 a1=some r):Tr prog 120 [eq p0_.1,agg (bB.enc a1)] [j8.O p0_ a0] (γ:=Unit) (fun _=>True) (fun g=>lu [agg (Pos.enc r.1),vB r.2]) (fun g=>[j8.O p0_ a0]):=by
 refine tf func120 h fun R0 F H=>?_
 refine wr 3 3<|Dv.box Q T Q cA nofun fun ba=>al Q T tY nofun fun bc=>go 1<|WP.seq<|wg (j8.jf 2 Q) fun ga haa=>?_
 refine dg mX 12 1536<|go 1<|Dv.bU haa Q T Q<|fp haa Q T Q uk<|gl 2 [0,3]<|Dv.mlkq (⟨0,eE⟩:Pos) Q T Q (aa 1 Q) Q (bB.kq a1) GK Dm IA (fun _=>⟨_,Q,Cs.eqz Q⟩)<|go 1<|eF Q T Q Q<|eF Q T Q Q<|al Q T tY pD fun bd=>sx 0 Q T Q Q cA Hg Q Q Q pD ?_
 refine go 1<|wr 4 4<|gl 2 [0]<|sy 3 ?_
 refine go 1<|wg (j8.shut (p:=p0_) (m:=a0) (ga.1,ga.2) haa (pm 5 [1,2,0,3,4])) fun _ _=>?_
 cases H.out; exact rt i2 Q () 4 [1,2,3,0] 3 (.cons (au Q uB Q Az (aa 2 Q) Q) (.cons (aB Q) .nil))
theorem gV.c {p0_0 p0_1 p0_2 p0_3 p0_4:OV} (h:gV.f k a0 a1 a2=some r):Tr prog 56 [agg [eq p0_0.1,eq p0_1.1,eq p0_2.1,eq p0_3.1,eq p0_4.1],agg (bB.enc a1),vS a2] [aN.O p0_0 a0.dB,j7.O p0_1 a0.aJ,bX.O p0_2 a0.az,cD.O p0_3 a0.bu,cC.O p0_4 a0.jy] (γ:=Unit) (fun _=>True) (fun g=>lu [agg (jg.enc r.1),vB r.2]) (fun g=>[aN.O p0_0 a0.dB,j7.O p0_1 a0.aJ,bX.O p0_2 a0.az,cD.O p0_3 a0.bu,cC.O p0_4 a0.jy]):=by
 refine tf func56 h fun R0 F H=>?_
 refine wr 4 7<|Dv.box Q T Q cA nofun fun ba=>Dv.box Q T Q cA nofun fun bc=>al Q T zc91 nofun fun bd=>go 1<|WP.seq<|wg (j7.jf 4 Q) fun ga haa=>?_
 refine WP.dgf (kf:=10) mX [(0,false),(1,false),(2,false),(3,false),(4,false),(5,false),(6,true),(7,false),(8,false),(9,false)] [(11,true),(12,false)] Q kr<|gl 2 [5]<|Dv.bU haa Q T Q<|fp haa Q T Q C5<|gl 2 [0,4]<|Dv.float ?_ (fun hk_=>?_)
 ·
  refine xJ Q T tY pU (fun be=>?_)
  refine el H fun ta hac H=>cx 11 [2,0,1,3,4,5,6,7,8,9,10] (cL 120) (fZ.c hac (p0_:=ga.2.1)) pC fun _ _=>?_
  refine go 1<|eF Q T Q Q<|eF Q T Q Q<|sx 1 Q T Q Q cA Hg Q Q Q pD ?_
  refine go 1<|WP.seq<|wg (aN.jf 7 Q) fun gb had=>?_
  refine dg mX 25 8388608<|gl 2 [7,3]<|Dv.kL (qs:=[vS a1.ab,vS a1.aj,vS a1.ae,vB a1.aq,vI ta.1.br,vS ta.1.bQ]) (css:=[bB.enc a1,Pos.enc ta.1]) Q T Bf pl91 z91 Q ⟨(aR (bB.K.one _)),⟨(aR (Pos.K.one _)),T⟩⟩ Q Q<|gp 2 ?_
  cases cc:ta.2
  ·
   have H:=H.cf cc
   refine go 18<|sx 6 Q T Q Q cA AT Q Q Q pD ?_
   refine go 1<|wg (j7.shut (p:=p0_1) (m:=a0.aJ) (ga.1,ga.2.1,ga.2.2) haa (pm 12 [4,2,5,0,1,3,6,7,8,9,10,11])) fun _ _=>?_
   refine wg (aN.shut (p:=p0_0) (m:=a0.dB) (gb.1,gb.2) had (pm 10 [1,2,0,3,4,5,6,7,8,9])) fun _ _=>?_
   cases H.out; exact rt i2 Q () 9 [2,3,4,5,0,1,6,7,8] 4 (.cons (au Q Bf Q EH (aa 3 Q) Q) (.cons (aB Q) .nil))
  have H:=H.ct cc
  refine gl 5 [8,7]<|el H fun tc hae H=>pJ 12 [0,1,2,3,4,5,6,7,8,9,10,11] (cL 57) (Tr.kn (bN.c hae (b0_:=gb.1) (v0_0:=gb.2)) (.cons (iX had) (.cons bV (.cons bV .nil)))) ?_
  refine gp 2 ?_
  cases cg:tc
  ·
   have H:=H.cf cg
   refine go 10<|sx 6 Q T Q Q cA AT Q Q Q pD ?_
   refine go 1<|wg (j7.shut (p:=p0_1) (m:=a0.aJ) (ga.1,ga.2.1,ga.2.2) haa (pm 12 [4,2,5,0,1,3,6,7,8,9,10,11])) fun _ _=>?_
   refine wg (aN.shut (p:=p0_0) (m:=a0.dB) (gb.1,gb.2) had (pm 10 [1,2,0,3,4,5,6,7,8,9])) fun _ _=>?_
   cases H.out; exact rt i2 Q () 9 [2,3,4,5,0,1,6,7,8] 4 (.cons (au Q Bf Q EH (aa 3 Q) Q) (.cons (aB Q) .nil))
  have H:=H.ct cg
  refine kU 4 [7] ?_
  cases ci:!a1.aq
  rotate_left
  ·
   have H:=H.ct ci
   refine go 6<|sx 6 Q T Q Q cA AT Q Q Q pD ?_
   refine go 1<|wg (j7.shut (p:=p0_1) (m:=a0.aJ) (ga.1,ga.2.1,ga.2.2) haa (pm 12 [4,2,5,0,1,3,6,7,8,9,10,11])) fun _ _=>?_
   refine wg (aN.shut (p:=p0_0) (m:=a0.dB) (gb.1,gb.2) had (pm 10 [1,2,0,3,4,5,6,7,8,9])) fun _ _=>?_
   cases H.out; exact rt i2 Q () 9 [2,3,4,5,0,1,6,7,8] 4 (.cons (au Q Bf Q EH (aa 3 Q) Q) (.cons (aB Q) .nil))
  have H:=H.cf ci
  refine gl 6 [7]<|sx 6 Q T Q Q cA AT Q Q Q pD ?_
  refine go 1<|wg (j7.shut (p:=p0_1) (m:=a0.aJ) (ga.1,ga.2.1,ga.2.2) haa (pm 12 [4,2,5,0,1,3,6,7,8,9,10,11])) fun _ _=>?_
  refine wg (aN.shut (p:=p0_0) (m:=a0.dB) (gb.1,gb.2) had (pm 10 [1,2,0,3,4,5,6,7,8,9])) fun _ _=>?_
  cases H.out; exact rt i2 Q () 9 [2,3,4,5,0,1,6,7,8] 4 (.cons (au Q Bf Q EH (aa 3 Q) Q) (.cons (aB Q) .nil))
 refine el H fun te haf H=>cx 10 [1,0,2,3,4,5,6,7,8,9] (cL 120) (fZ.c haf (p0_:=ga.2.1)) pC fun _ _=>?_
 refine go 1<|eF Q T Q Q<|eF Q T Q Q<|.fin<|xJ Q T tY pU (fun bg=>?_)
 refine sx 0 Q T Q Q cA Hg Q Q Q pD ?_
 refine go 1<|WP.seq<|wg (aN.jf 7 Q) fun gb had=>?_
 refine dg mX 25 8388608<|gl 2 [7,2]<|Dv.kL (qs:=[vS a1.ab,vS a1.aj,vS a1.ae,vB a1.aq,vI te.1.br,vS te.1.bQ]) (css:=[bB.enc a1,Pos.enc te.1]) Q T Bf pl91 z91 Q ⟨(aR (bB.K.one _)),⟨(aR (Pos.K.one _)),T⟩⟩ Q Q<|gp 2 ?_
 cases cc:te.2
 ·
  have H:=H.cf cc
  refine go 18<|sx 6 Q T Q Q cA AT Q Q Q pD ?_
  refine go 1<|wg (j7.shut (p:=p0_1) (m:=a0.aJ) (ga.1,ga.2.1,ga.2.2) haa (pm 12 [4,3,5,0,1,2,6,7,8,9,10,11])) fun _ _=>?_
  refine wg (aN.shut (p:=p0_0) (m:=a0.dB) (gb.1,gb.2) had (pm 10 [1,2,0,3,4,5,6,7,8,9])) fun _ _=>?_
  cases H.out; exact rt i2 Q () 9 [2,3,4,5,0,1,6,7,8] 4 (.cons (au Q Bf Q EH (aa 3 Q) Q) (.cons (aB Q) .nil))
 have H:=H.ct cc
 refine gl 5 [8,7]<|el H fun tc hae H=>pJ 12 [0,1,2,3,4,5,6,7,8,9,10,11] (cL 57) (Tr.kn (bN.c hae (b0_:=gb.1) (v0_0:=gb.2)) (.cons (iX had) (.cons bV (.cons bV .nil)))) ?_
 refine gp 2 ?_
 cases cg:tc
 ·
  have H:=H.cf cg
  refine go 10<|sx 6 Q T Q Q cA AT Q Q Q pD ?_
  refine go 1<|wg (j7.shut (p:=p0_1) (m:=a0.aJ) (ga.1,ga.2.1,ga.2.2) haa (pm 12 [4,3,5,0,1,2,6,7,8,9,10,11])) fun _ _=>?_
  refine wg (aN.shut (p:=p0_0) (m:=a0.dB) (gb.1,gb.2) had (pm 10 [1,2,0,3,4,5,6,7,8,9])) fun _ _=>?_
  cases H.out; exact rt i2 Q () 9 [2,3,4,5,0,1,6,7,8] 4 (.cons (au Q Bf Q EH (aa 3 Q) Q) (.cons (aB Q) .nil))
 have H:=H.ct cg
 refine kU 4 [7] ?_
 cases ci:!a1.aq
 rotate_left
 ·
  have H:=H.ct ci
  refine go 6<|sx 6 Q T Q Q cA AT Q Q Q pD ?_
  refine go 1<|wg (j7.shut (p:=p0_1) (m:=a0.aJ) (ga.1,ga.2.1,ga.2.2) haa (pm 12 [4,3,5,0,1,2,6,7,8,9,10,11])) fun _ _=>?_
  refine wg (aN.shut (p:=p0_0) (m:=a0.dB) (gb.1,gb.2) had (pm 10 [1,2,0,3,4,5,6,7,8,9])) fun _ _=>?_
  cases H.out; exact rt i2 Q () 9 [2,3,4,5,0,1,6,7,8] 4 (.cons (au Q Bf Q EH (aa 3 Q) Q) (.cons (aB Q) .nil))
 have H:=H.cf ci
 refine gl 6 [7]<|sx 6 Q T Q Q cA AT Q Q Q pD ?_
 refine go 1<|wg (j7.shut (p:=p0_1) (m:=a0.aJ) (ga.1,ga.2.1,ga.2.2) haa (pm 12 [4,3,5,0,1,2,6,7,8,9,10,11])) fun _ _=>?_
 refine wg (aN.shut (p:=p0_0) (m:=a0.dB) (gb.1,gb.2) had (pm 10 [1,2,0,3,4,5,6,7,8,9])) fun _ _=>?_
 cases H.out; exact rt i2 Q () 9 [2,3,4,5,0,1,6,7,8] 4 (.cons (au Q Bf Q EH (aa 3 Q) Q) (.cons (aB Q) .nil))
theorem slices_Sort_string.c {p0_:OV} (h:slices_Sort_string.f a0=some r):Tr prog 242 [eq p0_.1] [own aw p0_.1 a0] (γ:=Unit) (fun _=>True) (fun g=>lu []) (fun g=>[own aw p0_.1 r]):=by
 unfold slices_Sort_string.f at h
 obtain ⟨h0,h5⟩:=(aS.of h).an
 obtain rfl:=aS.out h5
 exact I8 (fun aE off cap ss w=>Go.Proofs.Any.slices_Sort_string Tryz.lays190 aE off cap ss w) (fun q cap w=>Go.Proofs.Any.slices_Sort_string_none Tryz.lays190 q cap w) h0
theorem gH.c {b0_:Nat} {v0_0:OV} (h:gH.f a0=some r):Tr prog 181 [ey b0_] [aE b0_ 186 [eq v0_0.1],kW Value.string bn.O v0_0.1 a0.bx] (γ:=OV) (fun _=>True) (fun g=>eq g.1) (fun g=>[aE b0_ 186 [eq v0_0.1],kW Value.string bn.O v0_0.1 a0.bx,own aw g.1 r]):=by
  unfold gH.f at h
  obtain ⟨h0,h5⟩:=(aS.of h).an
  obtain rfl:=aS.out h5
  clear h h5
  refine Tr.body func181 (c:=_) Q ntmps181 (Nat.le_of_ble_eq_true Q) fun R0 F=>?_
  refine so<|sp ?_
  refine WP.F4 (β:=List Nat×OV) (fun b=>b.1.Perm (List.range a0.bx.length)) (fun b=>[(3,eq b.2.1)]) (fun b=>[own aw b.2.1 (lp a0.bx (fun e=>some e.1) b.1),aE b0_ 186 [eq v0_0.1],kW Value.string bn.O v0_0.1 a0.bx]++F) (fun b hb=>?_) ?_
  rotate_left
  · refine wr 5 16<|kU 4 [0] ?_
    refine Dv.gh (l':=fun ps:List OV=>[mp Value.string (fun p:OV=>eq p.1) v0_0.1 (cY a0.bx ps),q9 bn.O a0.bx ps,aE b0_ 186 [eq v0_0.1]]++F) (jk (mH 1 Q)) (fun ps hps=>?_)
    refine Dv.rgb (jj:=0) Q T Q Q EC nofun (fun q=>.fin ?_)
    refine WP.gh (l':=fun _:Unit=>[tZ Value.string (fun p:OV=>eq p.1) v0_0.1 q.1 (cY a0.bx ps) [],q9 bn.O a0.bx ps,aE b0_ 186 [eq v0_0.1]]++F) (jk (ok:=fun _=>True) fun R w k=>⟨(),T,k⟩) (fun _ _=>?_)
    refine WP.gh (l':=fun _:Unit=>[own aw jR.1 [],tZ Value.string (fun p:OV=>eq p.1) v0_0.1 q.1 (cY a0.bx ps) [],q9 bn.O a0.bx ps,aE b0_ 186 [eq v0_0.1]]++F) (jk (dy aw none)) (fun _ _=>?_)
    refine WP.block ?_
    refine WP.kn (E':=(fun b:List Nat×OV=>[(3,eq b.2.1),(9,eq q.1)]) ([],jR)) (cW Q (cW Q jV)) (WP.loop (β:=List Nat×OV) (fun k b=>b.1.length+k=a0.bx.length) (fun b=>[(3,eq b.2.1),(9,eq q.1)]) (fun b=>[own aw b.2.1 (lp a0.bx (fun e=>some e.1) b.1),tZ Value.string (fun p:OV=>eq p.1) v0_0.1 q.1 (cY a0.bx ps) b.1,q9 bn.O a0.bx ps,aE b0_ 186 [eq v0_0.1]]++F) ?_ (k:=a0.bx.length) (b:=([],jR)) (Nat.zero_add _))
    rintro k ⟨is,v⟩ hk
    replace hk:is.length+k=a0.bx.length:=hk
    refine wr 2 1<|Dv.rgn (jj:=1) Q T Q Q nofun (fun z hz=>?_)
    rcases z with _ | j
    · have hz:is.Perm (List.range (cY a0.bx ps).length):=hz
      rw [pY hps.1] at hz
      refine eF Q T Q Q<|.fin<|WP.seq<|WP.cond Q nofun (fun _=>WP.exit ?_)
      refine Dn.gh (l':=fun _:Unit=>[own aw v.1 (lp a0.bx (fun e=>some e.1) is),tZ Value.string (fun p:OV=>eq p.1) v0_0.1 q.1 (cY a0.bx ps) is,q9 bn.O a0.bx ps,aE b0_ 186 [eq v0_0.1]]++F) (jk (ok:=fun _=>True) fun R w k=>⟨(),T,k⟩) (fun _ _=>?_)
      refine Dn.gh (l':=fun _:Unit=>[mp Value.string (fun p:OV=>eq p.1) v0_0.1 (cY a0.bx ps),own aw v.1 (lp a0.bx (fun e=>some e.1) is),q9 bn.O a0.bx ps,aE b0_ 186 [eq v0_0.1]]++F) (jk (F1 (pm 4 [1,0,2,3]))) (fun _ _=>?_)
      refine Dn.gh (l':=fun _:Unit=>[kW Value.string bn.O v0_0.1 a0.bx,own aw v.1 (lp a0.bx (fun e=>some e.1) is),aE b0_ 186 [eq v0_0.1]]++F) (jk (iP hps Q (pm 4 [0,2,1,3]))) (fun _ _=>?_)
      exact Jn.mk (is,v) hz (cW Q jV) (oE 3 [1,2,0] kr Q Q)
    have hz:j<(cY a0.bx ps).length∧j ∉ is∧is.length<(cY a0.bx ps).length:=hz
    obtain ⟨e,p,he,hp,hep⟩:=Ag hps hz.1
    have hlt:is.length<a0.bx.length:=by rw [← pY hps.1]; exact hz.2.2
    have hsl:=Nat.le_trans (AO (m:=a0.bx) (f:=(fun e=>some e.1)) (is:=is)) (Nat.le_of_lt hlt)
    have e1:nxV Value.string (fun p:OV=>eq p.1) (cY a0.bx ps) (some j)=lu [vB true,vS e.1,eq p.1]:=by simp only [nxV,hep]
    rw [e1]
    refine eF Q T Q Q<|.fin<|WP.seq<|WP.cond Q (fun _=>WP.skip ?_) nofun
    refine WP.gh (l':=fun _:Unit=>[own aw v.1 (lp a0.bx (fun e=>some e.1) is),tZ Value.string (fun p:OV=>eq p.1) v0_0.1 q.1 (cY a0.bx ps) (is++[j]),q9 bn.O a0.bx ps,aE b0_ 186 [eq v0_0.1]]++F) (jk (ok:=fun _=>True) fun R w k=>⟨(),T,k⟩) (fun _ _=>?_)
    refine WP.block<|wr 3 0<|Dv.rge 1 Q T Q Q hep ?_
    refine eF Q T Q Q<|gq 1 ?_
    have e6:=yg (f:=(fun e=>some e.1)) (is:=is) he rfl
    have hbd:(lp a0.bx (fun e=>some e.1) is).length+([e.1]:List BA).length≤9223372036854775807∧((lp a0.bx (fun e=>some e.1) is).length+([e.1]:List BA).length)*16≤140737488355328:=by rw [List.length_singleton]; omega
    refine rg 5 8<|go 2<|Dv.lit aw ([e.1]:List BA) (css:=[[vS e.1]]) Q T de U9 c9 z9 Q dc dc Q ⟨(cells_one (ah Q)),T⟩ Q Q Q<|ap aw 0 ([e.1]:List BA) bD de (.inr ⟨_,de⟩) rA hbd nofun fun v9=>go 1 ?_
    rw [e6]
    exact wB.mk (k-1) (is++[j],v9) om (by show (is++[j]).length+(k-1)=_; rw [List.length_append,List.length_singleton]; omega) (cW Q (cW Q jV)) (List.Perm.refl _)
  obtain ⟨is,v3⟩:=b
  replace hb:is.Perm (List.range a0.bx.length):=hb
  have hp:=xE (f:=(fun e=>some e.1)) hb
  have hs:slices_Sort_string.f (lp a0.bx (fun e=>some e.1) is)=some (oZ (a0.bx.map (·.1))):=by
    have e7:a0.bx.filterMap (fun e=>some e.1)=a0.bx.map (·.1):=by rw [← List.filterMap_eq_map]; rfl
    rw [e7] at hp
    unfold slices_Sort_string.f Sp.an
    rw [if_pos (by rw [hp.length_eq,List.length_map]; omega),HI hp]
  refine wr 2 2<|go 1<|cx 3 [0,1,2] (cL 242) (slices_Sort_string.c hs (p0_:=v3)) nofun fun _ _=>.fin ?_
  refine so<|rt i2 Q v3 3 [1,2,0] 0 (.cons (aB Q) .nil)
theorem dR.c {cb0_ cd0_:Nat} {cq0_ cv0_0:OV} {ch0_:cq0_.1 = .pointer (some ⟨cd0_,0,none⟩)} {c0:aN} {c1:BA} (h:dR.f k a0 c0 c1=some r):Tr prog 182 [vS a0,ey cb0_,rp [vS c1]] [aE cb0_ 24 [eq cq0_.1],aE cd0_ 186 [eq cv0_0.1],kW Value.string bn.O cv0_0.1 c0.bx] (γ:=Unit) (fun _=>True) (fun g=>vB r) (fun g=>[aE cb0_ 24 [eq cq0_.1],aE cd0_ 186 [eq cv0_0.1],kW Value.string bn.O cv0_0.1 c0.bx]):=by
 refine tf func182 h fun R0 F H=>?_
 refine so<|wr 6 0<|gl 2 [0]<|jw Q T Q nu Q<|el H fun ta haa H=>pJ 3 [1,2,0] (cL 57) (Tr.kn (bN.c haa (b0_:=cd0_) (v0_0:=cv0_0)) (.cons (iX ch0_) (.cons bV (.cons bV .nil)))) ?_
 refine gq 2 ?_
 cases H.out; exact et () 3 [0,1,2] 0
theorem gA.c {p0_:OV} (h:gA.f k a0 a1=some r):Tr prog 123 [eq p0_.1,vS a1] [aN.O p0_ a0] (γ:=OV) (fun _=>True) (fun g=>eq g.1) (fun g=>[aN.O p0_ a0,own aw g.1 r]):=by
 refine tf func123 h fun R0 F H=>?_
 refine wr 3 3<|Dv.box Q T Q (cells_one bG) nofun fun ba=>Dv.box Q T Q cE nofun fun bc=>go 1<|wr 5 10<|gl 1 [1]<|vg (aN.jf 2 Q) fun ga haa=>?_
 refine el H fun ta hac H=>cx 4 [0,1,2,3] (cL 181) (Tr.kn (gH.c hac (b0_:=ga.1) (v0_0:=ga.2)) (.cons (iX haa) .nil)) nofun fun gb _=>?_
 refine Dv.gh (rO (E':=[(0,eq p0_.1),(1,vS a1),(2,ey ba),(3,rp [vS a1]),(4,dJ),(6,eq gb.1)]) (l':=[aE ga.1 186 [eq ga.2.1],kW Value.string bn.O ga.2.1 a0.bx,own aw gb.1 ta,aE ba 24 [eq p0_.1]]++F) 3 Q (ar Q ay (ar Q ay (ar Q ay (ar Q kV (ar Q ay (ar Q ay jK)))))) (gK (.cons bP (.cons bP (.cons bP (.cons bP .nil)))) fun _=>bP)) (fun _ _=>?_)
 refine Dv.mkx (Q:=jS (fun a0_=>dR.f k a0_ a0 a1)) (L:=[aE ba 24 [eq p0_.1],aE ga.1 186 [eq ga.2.1],kW Value.string bn.O ga.2.1 a0.bx]) (cL 182) (by rintro _ _ ⟨a0_,r_,h_,rfl,rfl⟩; exact dR.c h_ (cb0_:=ba) (cq0_:=p0_) (cd0_:=ga.1) (ch0_:=haa) (cv0_0:=ga.2)) Q T Q Q<|el H fun tc had H=>cx 4 [2,3,0,1] (cL 71) (Tr.JN (A:=[own aw gb.1 ta]) (L:=[aE ba 24 [eq p0_.1],aE ga.1 186 [eq ga.2.1],kW Value.string bn.O ga.2.1 a0.bx]) (B:=fun gi:OV=>[own aw gi.1 tc]) (slices_DeleteFunc_string_xo.c had (p0_:=gb) (X1_:=(pk [aE ba 24 [eq p0_.1],aE ga.1 186 [eq ga.2.1],kW Value.string bn.O ga.2.1 a0.bx])))) nofun fun gi _=>?_
 refine go 1<|wg (aN.shut (p:=p0_) (m:=a0) (ga.1,ga.2) haa (pm 4 [1,2,0,3])) fun _ _=>?_
 cases H.out; exact et gi 3 [1,0,2] 1
theorem dO.c {cb0_ cd0_:Nat} {cq0_ cv0_0:OV} {ch0_:cq0_.1 = .pointer (some ⟨cd0_,0,none⟩)} {c0:aN} {c1:BA} (h:dO.f k a0 c0 c1=some r):Tr prog 124 [vS a0,ey cb0_,rp [vS c1]] [aE cb0_ 24 [eq cq0_.1],aE cd0_ 186 [eq cv0_0.1],kW Value.string bn.O cv0_0.1 c0.bx] (γ:=Unit) (fun _=>True) (fun g=>vB r) (fun g=>[aE cb0_ 24 [eq cq0_.1],aE cd0_ 186 [eq cv0_0.1],kW Value.string bn.O cv0_0.1 c0.bx]):=by
 refine tf func124 h fun R0 F H=>?_
 refine so<|wr 5 0<|gl 2 [0]<|jw Q T Q nu Q<|el H fun ta haa H=>pJ 3 [1,2,0] (cL 57) (Tr.kn (bN.c haa (b0_:=cd0_) (v0_0:=cv0_0)) (.cons (iX ch0_) (.cons bV (.cons bV .nil)))) ?_
 refine gq 1 ?_
 cases H.out; exact et () 3 [0,1,2] 0
theorem ff.c {p0_:OV} (h:ff.f k a0 a1 a2=some r):Tr prog 58 [eq p0_.1,vS a1,vS a2] [aN.O p0_ a0] (γ:=Unit) (fun _=>True) (fun g=>vB r) (fun g=>[aN.O p0_ a0]):=by
 refine tf func58 h fun R0 F H=>?_
 refine wr 3 3<|Dv.box Q T Q (cells_one bG) nofun fun ba=>Dv.box Q T Q cE nofun fun bc=>go 1<|wr 6 4<|gl 2 [1]<|el H fun ta haa H=>cx 3 [2,0,1] (cL 123) (gA.c haa (p0_:=p0_)) nofun fun ga _=>?_
 refine vg (aN.jf 0 Q) fun gb hac=>?_
 refine Dv.gh (rO (E':=[(0,eq p0_.1),(1,vS a1),(2,vS a2),(3,ey ba),(5,rp [vS a2]),(6,vB false),(9,eq ga.1)]) (l':=[aE gb.1 186 [eq gb.2.1],kW Value.string bn.O gb.2.1 a0.bx,own aw ga.1 ta,aE ba 24 [eq p0_.1]]++F) 3 Q (ar Q ay (ar Q ay (ar Q ay (ar Q ay (ar Q kV (ar Q ay (ar Q ay jK))))))) (gK (.cons bP (.cons bP (.cons bP (.cons bP .nil)))) fun _=>bP)) (fun _ _=>?_)
 refine Dv.mkx (Q:=jS (fun a0_=>dO.f k a0_ a0 a2)) (L:=[aE ba 24 [eq p0_.1],aE gb.1 186 [eq gb.2.1],kW Value.string bn.O gb.2.1 a0.bx]) (cL 124) (by rintro _ _ ⟨a0_,r_,h_,rfl,rfl⟩; exact dO.c h_ (cb0_:=ba) (cq0_:=p0_) (cd0_:=gb.1) (ch0_:=hac) (cv0_0:=gb.2)) Q T Q Q<|el H fun tc had H=>pJ 4 [2,3,0,1] (cL 122) (Tr.Kf (A:=[own aw ga.1 ta]) (L:=[aE ba 24 [eq p0_.1],aE gb.1 186 [eq gb.2.1],kW Value.string bn.O gb.2.1 a0.bx]) (cN.c had (p0_:=ga) (X1_:=(pk [aE ba 24 [eq p0_.1],aE gb.1 186 [eq gb.2.1],kW Value.string bn.O gb.2.1 a0.bx])))) ?_
 refine go 1<|wg (aN.shut (p:=p0_) (m:=a0) (gb.1,gb.2) hac (pm 4 [0,1,2,3])) fun _ _=>?_
 cases H.out; exact et () 3 [1,2,0] 2
theorem bS.c {v0_0 v0_1:OV} {b0_:Nat} (h:bS.f k a0 a1 a2=some r):Tr prog 59 [ey b0_,vS a1,vI a2] [aE b0_ 192 [eq v0_0.1,eq v0_1.1],own ak.K v0_0.1 a0.fl] (γ:=Unit) (fun _=>True) (fun g=>vI r) (fun g=>[aE b0_ 192 [eq v0_0.1,eq v0_1.1],own ak.K v0_0.1 a0.fl]):=by
 refine tf func59 h fun R0 F H=>?_
 refine so<|wr 8 0<|go 2<|el H fun ta haa H=>pJ 2 [0,1] (cL 112) (dD.c haa (b0_:=b0_) (v0_0:=v0_0) (v0_1:=v0_1)) ?_
 refine go 1<|eF Q T Q Q<|eF Q T Q Q<|go 2<|WP.seq<|so<|ce H ?_ ?_ <;> intro H
 ·
  refine sp ?_
  cases H.out; exact et () 2 [0,1] 0
 refine WP.skip<|wr 10 0<|gl 5 [0]<|gr H fun ga H=>?_
 have hac:ta.1.toNat<a0.fl.length:=bp ga
 refine Dv.jX Q T Q (aa 1 Q) Q eX gJ iy ga.1 ga.2<|Dv.pM (j:=ta.1.toNat) (f:=0) Q T Q (aa 1 Q) hac gJ Q iy (Nat.le_of_ble_eq_true Q)<|go 1<|el H fun tc had H=>cl Q (cL 125) Q (dY.c had)<|gq 1 ?_
 cases H.out; exact et () 2 [0,1] 0
theorem ie.c (h:ie.f a0=some r):Pt prog 130 [vB a0] (vI r):=by
 refine pf func130 h fun R0 F H=>?_
 refine so<|WP.seq<|so<|ce H ?_ ?_ <;> intro H
 ·
  refine sp ?_
  cases H.out; exact ek 0
 refine WP.skip<|sp ?_
 cases H.out; exact ek 0
theorem iA.c (h:iA.f k a0 a1=some r):Pt prog 62 [agg (bB.enc a0),agg (bB.enc a1)] (vI r):=by
 refine pf func62 h fun R0 F H=>?_
 refine wr 3 3<|Dv.box Q T Q cA nofun fun ba=>Dv.box Q T Q cA nofun fun bc=>go 1<|wd mX 25 0<|gl 4 [1,0]<|el H fun ta haa H=>cl Q (cL 65) Q (aD.c haa)<|gl 4 [1,0]<|el H fun tc hac H=>cl Q (cL 65) Q (aD.c hac)<|gl 4 [1,0]<|el H fun te had H=>cl Q (cL 65) Q (aD.c had)<|gl 2 [1]<|el H fun tg hae H=>cl Q (cL 130) Q (ie.c hae)<|gl 2 [0]<|el H fun tj haf H=>cl Q (cL 130) Q (ie.c haf)<|el H fun tm hag H=>cl Q (cL 129) Q (b7.c hag)<|Dv.lit (bq .i64) ([ta,tc,te,tm]:List Int) (css:=[[vI ta],[vI tc],[vI te],[vI tm]]) Q T oU U3 c3 z3 Q dc dc Q ⟨(cells_one (ah Q)),⟨(cells_one (ah Q)),⟨(cells_one (ah Q)),⟨(cells_one (ah Q)),T⟩⟩⟩⟩ Q Q Q<|el H fun tn hah H=>cl Q (cL 128) Q (bE.c hah)<|gq 1 ?_
 cases H.out; exact ek 2
theorem mK.c (h:mK.f k a0 a1=some r):Pt prog 61 [agg (jg.enc a0),agg (jg.enc a1)] (vI r):=by
 refine pf func61 h fun R0 F H=>?_
 refine wr 3 3<|Dv.box Q T Q cA nofun fun ba=>Dv.box Q T Q cA nofun fun bc=>go 1<|wr 6 0<|gl 4 [1,0]<|el H fun ta haa H=>cl Q (cL 62) Q (iA.c haa)<|gq 1 ?_
 cases H.out; exact ek 2
theorem pP (x y:BA):aD.f x y=some (kc x y):=by
 unfold aD.f cmp_isNaN_string.f kc
 simp only [Option.bind_some,bne_self_eq_false,decide_true,Bool.not_true,cond_false]
 cases dK x y <;> cases dK y x <;> rfl
theorem BT:Bb mQ:=(sk.uN (fun x:bB=>x.ab)).or ((sk.uN (fun x:bB=>x.aj)).or ((sk.uN (fun x:bB=>x.ae)).or (IB.uN (fun x:bB=>if x.aq then 1 else 0))))
theorem Ft (x y:Int):b7.f x y=some (nr x y):=by
 unfold b7.f cmp_isNaN_int.f nr
 simp only [Option.bind_some,bne_self_eq_false,cond_false]
 by_cases h:x<y
 ·
  simp [h]
 by_cases k:y<x <;> simp [h,k]
theorem or4_f (a b c d:Int):bE.f 8 [a,b,c,d]=some (EI a (EI b (EI c d))):=by
 unfold EI
 have e1:IntKind.i64.wrap 1=1:=dc
 have e2:IntKind.i64.wrap 2=2:=dc
 have e3:IntKind.i64.wrap 3=3:=dc
 have e4:IntKind.i64.wrap 4=4:=dc
 by_cases h1:a=0 <;> by_cases h2:b=0 <;> by_cases h3:c=0 <;> by_cases h4:d=0 <;> simp [bE.f,bE.l0,Kd.at,bq,an,fall,h1,h2,h3,h4,av,e1,e2,e3,e4,bne_iff_ne,show ∀ x:Int,(x != 0)=decide (x≠0) from fun x=>by by_cases h:x=0 <;> simp [h]]
theorem KR (x y:bB):iA.f 8 x y=some (mQ x y):=by
 unfold iA.f ie.f
 rw [pP,pP,pP]
 have e:∀ b:Bool,(cond b (some 1) (some 0):Option Int)=some (if b then 1 else 0):=fun b=>by cases b <;> rfl
 simp only [Option.bind_some,e,Ft,or4_f]
 rfl
theorem aV.GM (x y:jg):mK.f 8 x y=some (aV.cf x y):=by
 unfold mK.f
 rw [KR]
 rfl
theorem aV.A5:Bb aV.cf:=BT.uN (fun x:jg=>x.dw)
theorem aV.c {p0_:OV} (h:aV.f a0=some r):Tr prog 60 [eq p0_.1,eq (.func (.func 61) #[] #[])] [own jg.K p0_.1 a0] (γ:=Unit) (fun _=>True) (fun g=>lu []) (fun g=>[own jg.K p0_.1 r]):=by
 unfold aV.f at h
 obtain ⟨⟨h0,hT⟩,h5⟩:=(aS.of h).an
 obtain rfl:=aS.out h5
 exact sI (K:=jg.K) (fun _=>(bL gL (bL gL (bL gL (bL gL (bL gL (bL gL my))))))) dc aV.A5.swo hT (fun x y=>mK.c (aV.GM x y)) (fun ev hk h1 cf hO aE off cap d w hc hH hb hs=>AnyQ.slices_SortFunc Tryz.lays6f60 6 Tryz.isAgg91 Tryz.sizeOf91 ev hk h1 cf hO 61 #[] aE off cap d w (enters_of func61 kr Q) hc hH hb hs) (fun q cap w=>AnyF.slices_SortFunc_none Tryz.lays6f60 q cap _ w) om
theorem mP.c (h:mP.f a0 a1=some r):Pt prog 64 [agg (fE.enc a0),agg (fE.enc a1)] (vI r):=by
 refine pf func64 h fun R0 F H=>?_
 refine wr 3 3<|Dv.box Q T Q cA nofun fun ba=>Dv.box Q T Q cA nofun fun bc=>go 1<|wr 6 0<|gl 4 [1,0]<|el H fun ta haa H=>cl Q (cL 65) Q (aD.c haa)<|gq 1 ?_
 cases H.out; exact ek 2
theorem aK.GM (x y:fE):mP.f x y=some (aK.cf x y):=by
 unfold mP.f
 rw [pP]
 rfl
theorem aK.A5:Bb aK.cf:=sk.uN (fun x:fE=>x.ab)
theorem aK.c {p0_:OV} (h:aK.f a0=some r):Tr prog 63 [eq p0_.1,eq (.func (.func 64) #[] #[])] [own fE.K p0_.1 a0] (γ:=Unit) (fun _=>True) (fun g=>lu []) (fun g=>[own fE.K p0_.1 r]):=by
 unfold aK.f at h
 obtain ⟨⟨h0,hT⟩,h5⟩:=(aS.of h).an
 obtain rfl:=aS.out h5
 exact sI (K:=fE.K) (fun _=>(bL gL (bL (yd (fun _=>(bL gL my))) my))) dc aK.A5.swo hT (fun x y=>mP.c (aK.GM x y)) (fun ev hk h1 cf hO aE off cap d w hc hH hb hs=>AnyQ.slices_SortFunc Tryz.lays6f63 2 Tryz.isAgg94 Tryz.sizeOf94 ev hk h1 cf hO 64 #[] aE off cap d w (enters_of func64 kr Q) hc hH hb hs) (fun q cap w=>AnyF.slices_SortFunc_none Tryz.lays6f63 q cap _ w) om
theorem mS.c (h:mS.f a0 a1=some r):Pt prog 67 [agg (fm.enc a0),agg (fm.enc a1)] (vI r):=by
 refine pf func67 h fun R0 F H=>?_
 refine wr 3 3<|Dv.box Q T Q cA nofun fun ba=>Dv.box Q T Q cA nofun fun bc=>go 1<|wr 6 0<|gl 4 [1,0]<|el H fun ta haa H=>cl Q (cL 65) Q (aD.c haa)<|gq 1 ?_
 cases H.out; exact ek 2
theorem aL.GM (x y:fm):mS.f x y=some (aL.cf x y):=by
 unfold mS.f
 rw [pP]
 rfl
theorem aL.A5:Bb aL.cf:=sk.uN (fun x:fm=>x.aj)
theorem aL.c {p0_:OV} (h:aL.f a0=some r):Tr prog 66 [eq p0_.1,eq (.func (.func 67) #[] #[])] [own fm.K p0_.1 a0] (γ:=Unit) (fun _=>True) (fun g=>lu []) (fun g=>[own fm.K p0_.1 r]):=by
 unfold aL.f at h
 obtain ⟨⟨h0,hT⟩,h5⟩:=(aS.of h).an
 obtain rfl:=aS.out h5
 exact sI (K:=fm.K) (fun _=>(bL gL (bL gL my))) dc aL.A5.swo hT (fun x y=>mS.c (aL.GM x y)) (fun ev hk h1 cf hO aE off cap d w hc hH hb hs=>AnyQ.slices_SortFunc Tryz.lays6f66 2 Tryz.isAgg96 Tryz.sizeOf96 ev hk h1 cf hO 67 #[] aE off cap d w (enters_of func67 kr Q) hc hH hb hs) (fun q cap w=>AnyF.slices_SortFunc_none Tryz.lays6f66 q cap _ w) om
theorem sync_Make.c {p0_0 p0_1 p0_2 p0_3 p0_4:OV} (h:sync_Make.f k a0 a1 a2 a3=some r):Tr prog 14 [agg [eq p0_0.1,eq p0_1.1,eq p0_2.1,eq p0_3.1,eq p0_4.1],vS a1,vI a2,vI a3] [aN.O p0_0 a0.dB,j7.O p0_1 a0.aJ,bX.O p0_2 a0.az,cD.O p0_3 a0.bu,cC.O p0_4 a0.jy] (γ:=Unit) (fun _=>True) (fun g=>lu [agg (wx.enc r.1),vI r.2]) (fun g=>[aN.O p0_0 a0.dB,j7.O p0_1 a0.aJ,bX.O p0_2 a0.az,cD.O p0_3 a0.bu,cC.O p0_4 a0.jy]):=by
 refine tf func14 h fun R0 F H=>?_
 refine wr 3 3<|Dv.box Q T Q cA nofun fun ba=>al Q T Il nofun fun bc=>go 1<|WP.seq<|wr 9 64<|gp 3 ?_
 rcases bm H with ⟨cc,H⟩ | ⟨cc,H⟩
 rotate_left
 ·
  refine sh 21 cc ?_
  refine sh 22 cc ?_
  refine go 3<|Dv.CY Q ⟨_,_,Q,Q,.inl Q⟩ nofun<|go 2<|WP.cond Q (fun _=>?_) nofun
  refine wr 3 2<|Dv.kL (qs:=[vI 0,dJ,dJ,dJ]) (css:=[]) Q T Lh KY z59 Q T Q Q<|sy 0 ?_
  refine gq 1 ?_
  cases H.out; exact rt i2 Q () 7 [0,1,2,3,4,5,6] 2 (.cons (nW (au Q Lh Q c59 (aa 0 Q) Q) (mZ (.cons bV (.cons cU (.cons cU (.cons cU .nil)))))) (.cons (aB Q) .nil))
 refine sh 21 cc ?_
 refine sh 22 cc ?_
 refine gl 3 [1]<|el H fun ta haa H=>cx 7 [6,0,1,2,3,4,5] (cL 53) (fQ.c haa (p0_:=p0_4)) nofun fun _ _=>?_
 refine go 2<|ce H ?_ ?_ <;> intro H
 ·
  refine wr 3 2<|Dv.kL (qs:=[vI 0,dJ,dJ,dJ]) (css:=[]) Q T Lh KY z59 Q T Q Q<|sy 1 ?_
  refine gq 1 ?_
  cases H.out; exact rt i2 Q () 7 [1,2,3,4,5,6,0] 2 (.cons (nW (au Q Lh Q c59 (aa 1 Q) Q) (mZ (.cons bV (.cons cU (.cons cU (.cons cU .nil)))))) (.cons (aB Q) .nil))
 refine WP.skip<|wr 6 52<|gl 2 [2]<|el H fun tc hac H=>cx 7 [0,1,2,3,4,5,6] (cL 53) (fQ.c hac (p0_:=p0_4)) nofun fun _ _=>?_
 refine Dv.kL (qs:=[vI tc,dJ,dJ,dJ]) (css:=[[vI tc]]) Q T Lh KY z59 Q ⟨(cells_one (ah Q)),T⟩ Q Q<|al Q T Il nofun fun bd=>sy 0 ?_
 refine .fin<|WP.jh H (fun qh:(Int×Int×Bool×(List BA)×(List jg)×(List fE)×(List fm))×OV×OV×OV×OV=>qh.1) (fun qh=>[(8,ey bc),(10,ey bd)]) (fun qh=>[aE bd 59 [vI tc,eq qh.2.2.1.1,eq qh.2.2.2.1.1,eq qh.2.2.2.2.1],aE bc 59 [vI 0,dJ,dJ,dJ],aE ba 30 [eq p0_0.1,eq p0_1.1,eq p0_2.1,eq p0_3.1,eq p0_4.1],cC.O p0_4 a0.jy,aN.O p0_0 a0.dB,j7.O p0_1 a0.aJ,bX.O p0_2 a0.az,cD.O p0_3 a0.bu,own aw qh.2.1.1 qh.1.2.2.2.1,own jg.K qh.2.2.1.1 qh.1.2.2.2.2.1,own fE.K qh.2.2.2.1.1 qh.1.2.2.2.2.2.1,own fm.K qh.2.2.2.2.1 qh.1.2.2.2.2.2.2]++F) (fun qh H=>?_) (fun H=>?_)
 ·
  obtain ⟨pa,va,vb,vd,ve⟩:=qh
  refine wr 3 4<|gl 2 [0]<|el H fun te had H=>cx 12 [9,0,1,2,3,4,5,6,7,8,10,11] (cL 60) (aV.c had (p0_:=vb)) nofun fun _ _=>?_
  refine .fin<|wr 3 4<|gl 2 [1]<|el H fun tg hae H=>cx 12 [10,0,1,2,3,4,5,6,7,8,9,11] (cL 63) (aK.c hae (p0_:=vd)) nofun fun _ _=>?_
  refine .fin<|wr 3 4<|gl 2 [2]<|el H fun tj haf H=>cx 12 [11,0,1,2,3,4,5,6,7,8,9,10] (cL 66) (aL.c haf (p0_:=ve)) nofun fun _ _=>?_
  refine .fin<|wr 3 2<|gl 1 [3]<|sy 4 ?_
  refine go 1<|fz 2 [8,9] [0,0,1,1] ?_
  refine fz 1 [8,9] [0,1,1] ?_
  refine fz 0 [8,9] [1,1] ?_
  cases H.out; exact rt i2 Q () 9 [0,1,2,8,4,5,6,7,3] 4 (.cons (au Q Lh Q c59 (aa 1 Q) Q) (.cons (aB Q) .nil))
 refine wr 6 8<|gl 3 [3]<|el H fun tm hag H=>cx 8 [1,0,2,3,4,5,6,7] (cL 54) (b8.c hag (p0_:=p0_4)) nofun fun ga _=>?_
 refine Dv.ko Q T Q (aa 1 Q) de<|go 1<|WP.block<|wg (dy jg.K none) fun _ _=>?_
 refine wg (dy fE.K none) fun _ _=>?_
 refine wg (dy fm.K none) fun _ _=>?_
 refine ws 12 [5,6,7,3,4,8,9,10,11,2,1,0] 0 ?_
 refine lq (fun j_ (pc:Int×(List jg)×(List fE)×(List fm)×OV×OV×OV)=>sync_Make.l0 k a0 a1 a3 tm j_ pc.1 pc.2.1 pc.2.2.1 pc.2.2.2.1) (0,([]:List jg),([]:List fE),([]:List fm),jR,C9,nilV2) H [1,3,4,8,10,37,38] (fun pc=>[(39,vI pc.1)]) (fun pc=>[(0,aE bd 59 [vI tc,eq pc.2.2.2.2.1.1,eq pc.2.2.2.2.2.1.1,eq pc.2.2.2.2.2.2.1]),(9,own jg.K pc.2.2.2.2.1.1 pc.2.1),(10,own fE.K pc.2.2.2.2.2.1.1 pc.2.2.1),(11,own fm.K pc.2.2.2.2.2.2.1 pc.2.2.2.1)]) ?_
 rintro j_ ⟨xc,xd,xe,xf,vh,vi,vj⟩ H
 rcases j_ with _ | ja
 ·
  exact (aS.no H).elim
 try dsimp only at H
 rw [sync_Make.l0] at H
 refine so<|WP.seq<|cf H ?_ ?_ <;> intro H
 ·
  refine WP.exit ?_
  have H:=H.out
  refine ns 12 [0,1,2,3,5,6,7,8,4,9,10,11] 0 ?_
  exact jn (((tm.length:Int),xc,decide (xc<(tm.length:Int)),tm,xd,xe,xf),ga,vh,vi,vj) H
 refine WP.skip<|WP.seq<|WP.block<|wr 3 0<|gr H fun gb H=>?_
 have hah:xc.toNat<tm.length:=bp gb
 refine Dv.jX Q T Q (aa 4 Q) Q de U9 c9 gb.1 gb.2<|Dv.na (j:=xc.toNat) (f:=0) (p:=vS (tm.getD xc.toNat default)) Q T Q (aa 4 Q) hah U9 Q Q<|go 1<|wr 3 0<|go 1<|el H fun tn hai H=>cl Q (cL 55) Q (nj.c hai)<|go 1<|WP.jh H (fun qi:((List jg)×(List fE))×OV×OV=>qi.1) (fun qi=>[(1,vS a1),(3,vI a3),(4,ey ba),(8,ey bc),(10,ey bd),(13,jW.p tn),(37,eq ga.1),(38,vI (tm.length:Int)),(39,vI xc)]) (fun qi=>[aE bd 59 [vI tc,eq qi.2.1.1,eq qi.2.2.1,eq vj.1],aE bc 59 [vI 0,dJ,dJ,dJ],aE ba 30 [eq p0_0.1,eq p0_1.1,eq p0_2.1,eq p0_3.1,eq p0_4.1],aN.O p0_0 a0.dB,j7.O p0_1 a0.aJ,bX.O p0_2 a0.az,cD.O p0_3 a0.bu,cC.O p0_4 a0.jy,own aw ga.1 tm,own fm.K vj.1 xf,own jg.K qi.2.1.1 qi.1.1,own fE.K qi.2.2.1 qi.1.2]++F) (fun qi H=>?_) (fun H=>?_)
 ·
  obtain ⟨pe,vk,vl⟩:=qi
  refine wr 7 0<|go 1<|Dv.tas (jW.GF tn) Q T Q<|go 1<|eF Q T Q Q<|eF Q T Q Q<|go 2<|wr 8 64<|gp 2 ?_
  rcases bm H with ⟨cg,H⟩ | ⟨cg,H⟩
  ·
   refine sh 86 cg ?_
   refine sh 19 cg ?_
   refine sh 87 cg ?_
   refine sh 88 cg ?_
   refine go 4<|Dv.CY Q ⟨_,_,Q,Q,.inl Q⟩ nofun<|go 1<|WP.cond Q nofun (fun _=>?_)
   refine WP.skip<|rg 2 0<|go 2<|ns 12 [0,1,2,7,8,3,4,5,6,10,11,9] 0 ?_
   exact bk ja (av (xc+1),pe.1,pe.2,xf,vk,vl,vj) H
  refine sh 86 cg ?_
  refine sh 19 cg ?_
  refine sh 87 cg ?_
  refine sh 88 cg ?_
  refine gl 4 [2]<|el H fun tp haj H=>cx 12 [3,0,1,2,4,5,6,7,8,9,10,11] (cL 58) (ff.c haj (p0_:=p0_0)) nofun fun _ _=>?_
  refine go 1<|cf H ?_ ?_ <;> intro H
  ·
   refine WP.skip<|rg 2 0<|go 2<|ns 12 [1,2,3,7,8,0,4,5,6,10,11,9] 0 ?_
   exact bk ja (av (xc+1),pe.1,pe.2,xf,vk,vl,vj) H
  refine wg (cD.jf 6 Q) fun gi hak=>?_
  refine dg mX 13 5120<|gl 7 [4,6]<|el H fun tq ham H=>pJ 14 [0,1,2,3,4,5,6,7,8,9,10,11,12,13] (cL 59) (Tr.kn (bS.c ham (b0_:=gi.1) (v0_0:=gi.2.1) (v0_1:=gi.2.2)) (.cons (iX hak) (.cons bV (.cons bV .nil)))) ?_
  refine Dv.kL (qs:=[vS ((jW.sU tn).getD eE),vI tq]) (css:=[[vS ((jW.sU tn).getD eE)],[vI tq]]) Q T U96 pl96 z96 Q ⟨(cells_one (ah Q)),⟨(cells_one (ah Q)),T⟩⟩ Q Q<|Dv.lit fm.K ([(⟨(jW.sU tn).getD eE,tq⟩:fm)]:List fm) (css:=[[vS ((jW.sU tn).getD eE),vI tq]]) Q T LM U96 c96 z96 Q dc dc Q ⟨(aR (ai (ah Q) (ai (ah Q) bM))),T⟩ Q Q Q<|gr H fun gj H=>ap fm.K 11 ([(⟨(jW.sU tn).getD eE,tq⟩:fm)]:List fm) bD LM (.inr ⟨_,LM⟩) inf96 gj pB fun vm=>?_
  refine go 1<|sx 4 Q T Q Q (cells_one bG) sz57 Q Q Q pB ?_
  refine .fin<|rg 2 0<|go 2<|ng (cD.shut (p:=p0_3) (m:=a0.bu) (gi.1,gi.2.1,gi.2.2) hak (pm 14 [0,1,2,3,4,5,6,7,8,9,10,11,12,13])) fun _ _=>?_
  refine ns 12 [2,3,4,7,8,1,5,6,0,10,11,9] 0 ?_
  exact bk ja (av (xc+1),pe.1,pe.2,xf++([(⟨(jW.sU tn).getD eE,tq⟩:fm)]:List fm),vk,vl,vm) H
 refine so<|WP.block<|wr 3 0<|Dv.tas (jW.H3 tn) Q T Q<|eF Q T Q Q<|eF Q T Q Q<|.fin<|ce H ?_ ?_ <;> intro H
 ·
  refine wr 2 3<|al Q T zc89 nofun fun be=>sy 0 ?_
  refine .fin<|wr 10 392<|gl 3 [3,0]<|el H fun tu han H=>cx 13 [6,7,8,9,4,0,1,2,3,5,10,11,12] (cL 56) (gV.c han (p0_0:=p0_0) (p0_1:=p0_1) (p0_2:=p0_2) (p0_3:=p0_3) (p0_4:=p0_4)) nofun fun _ _=>?_
  refine go 1<|eF Q T Q Q<|eF Q T Q Q<|al Q T zc91 nofun fun bg=>sy 0 ?_
  refine go 1<|so<|cf H ?_ ?_ <;> intro H
  ·
   refine WP.skip ?_
   have H:=H.out
   refine ns 14 [0,6,7,8,9,1,2,3,4,5,10,13,11,12] 2 ?_
   exact jn ((xd,xe),vh,vi) H
  refine rg 7 80<|gl 3 [7,0]<|Dv.lit jg.K ([(⟨tu.1.dw,tu.1.hM⟩:jg)]:List jg) (css:=[[vS tu.1.dw.ab,vS tu.1.dw.aj,vS tu.1.dw.ae,vB tu.1.dw.aq,vI tu.1.hM.br,vS tu.1.hM.bQ]]) Q T Ks Bf EH z91 Q dc dc Q ⟨(aR (ai (ah Q) (ai (ah Q) (ai (ah Q) (ai (ah Q) (ai (ah Q) (ai (ah Q) bM))))))),T⟩ Q Q Q<|gr H fun gk H=>ap jg.K 11 ([(⟨tu.1.dw,tu.1.hM⟩:jg)]:List jg) bD Ks (.inr ⟨_,Ks⟩) inf91 gk nofun fun vn=>?_
  refine go 1<|sx 7 Q T Q Q (cells_one bG) sz55 Q Q Q nofun ?_
  refine .fin ?_
  have H:=H.out
  refine ns 14 [0,6,7,8,9,1,2,3,4,5,10,13,11,12] 2 ?_
  exact jn ((xd++([(⟨tu.1.dw,tu.1.hM⟩:jg)]:List jg),xe),vn,vi) H
 refine wr 3 0<|Dv.tas (jW.Gx tn) Q T Q<|eF Q T Q Q<|eF Q T Q Q<|.fin<|cf H ?_ ?_ <;> intro H
 ·
  refine WP.skip ?_
  have H:=H.out
  refine ns 12 [0,1,2,5,6,7,8,3,4,11,9,10] 0 ?_
  exact jn ((xd,xe),vh,vi) H
 refine so<|wr 5 0<|gl 4 [2]<|vg (aN.jf 5 Q) fun gm hao=>?_
 refine el H fun tw hap H=>pJ 13 [0,1,2,3,4,5,6,7,8,9,10,11,12] (cL 57) (Tr.kn (bN.c hap (b0_:=gm.1) (v0_0:=gm.2)) (.cons (iX hao) (.cons bV (.cons bV .nil)))) ?_
 refine .fin<|cf H ?_ ?_ <;> intro H
 ·
  refine WP.skip ?_
  have H:=H.out
  refine ng (aN.shut (p:=p0_0) (m:=a0.dB) (gm.1,gm.2) hao (pm 13 [0,1,2,3,4,5,6,7,8,9,10,11,12])) fun _ _=>?_
  refine ns 12 [1,2,3,0,6,7,8,4,5,11,9,10] 0 ?_
  exact jn ((xd,xe),vh,vi) H
 refine wg (aN.shut (p:=p0_0) (m:=a0.dB) (gm.1,gm.2) hao (pm 13 [0,1,2,3,4,5,6,7,8,9,10,11,12])) fun _ _=>?_
 refine dg mX 12 2624<|gl 6 [1,3]<|el H fun tx haq H=>Dv.uK (pre:=[aN.O p0_0 a0.dB,j7.O p0_1 a0.aJ,bX.O p0_2 a0.az,cD.O p0_3 a0.bu,cC.O p0_4 a0.jy]) (F:=[aE bd 59 [vI tc,eq vh.1,eq vi.1,eq vj.1],aE bc 59 [vI 0,dJ,dJ,dJ],aE ba 30 [eq p0_0.1,eq p0_1.1,eq p0_2.1,eq p0_3.1,eq p0_4.1],own aw ga.1 tm,own jg.K vh.1 xd,own fE.K vi.1 xe,own fm.K vj.1 xf]++F) (fun _:Unit=>[aN.O p0_0 a0.dB,j7.O p0_1 a0.aJ,bX.O p0_2 a0.az,cD.O p0_3 a0.bu,cC.O p0_4 a0.jy,aE bd 59 [vI tc,eq vh.1,eq vi.1,eq vj.1],aE bc 59 [vI 0,dJ,dJ,dJ],aE ba 30 [eq p0_0.1,eq p0_1.1,eq p0_2.1,eq p0_3.1,eq p0_4.1],own aw ga.1 tm,own jg.K vh.1 xd,own fE.K vi.1 xe,own fm.K vj.1 xf]++F) Q T (cL 20) Q (jP.c haq (p0_0:=p0_0) (p0_1:=p0_1) (p0_2:=p0_2) (p0_3:=p0_3) (p0_4:=p0_4)) (ly (L:=[aN.O p0_0 a0.dB,aE bd 59 [vI tc,eq vh.1,eq vi.1,eq vj.1],aE bc 59 [vI 0,dJ,dJ,dJ],aE ba 30 [eq p0_0.1,eq p0_1.1,eq p0_2.1,eq p0_3.1,eq p0_4.1],cC.O p0_4 a0.jy,own aw ga.1 tm,j7.O p0_1 a0.aJ,bX.O p0_2 a0.az,cD.O p0_3 a0.bu,own jg.K vh.1 xd,own fE.K vi.1 xe,own fm.K vj.1 xf]) (F:=F) [0,6,7,8,4,1,2,3,5,9,10,11] kr Q Q) Q pE (fun _ _=>?_)
 refine Dv.kL (qs:=[vS ((jW.sX tn).getD eE),sl aw tx]) (css:=[[vS ((jW.sX tn).getD eE)],[sl aw tx]]) Q T U94 pl94 z94 Q ⟨(cells_one (ah Q)),⟨(cells_one dL),T⟩⟩ Q Q<|Dv.lit fE.K ([(⟨(jW.sX tn).getD eE,tx⟩:fE)]:List fE) (css:=[[vS ((jW.sX tn).getD eE),sl aw tx]]) Q T LO U94 c94 z94 Q dc dc Q ⟨(aR (ai (ah Q) (ai dL bM))),T⟩ Q Q Q<|gr H fun gn H=>ap fE.K 10 ([(⟨(jW.sX tn).getD eE,tx⟩:fE)]:List fE) bD LO (.inr ⟨_,LO⟩) inf94 gn pB fun vo=>?_
 refine go 1<|sx 5 Q T Q Q (cells_one bG) sz56 Q Q Q pB ?_
 refine .fin ?_
 have H:=H.out
 refine ns 12 [5,6,7,0,1,2,3,4,8,11,9,10] 0 ?_
 exact jn ((xd,xe++([(⟨(jW.sX tn).getD eE,tx⟩:fE)]:List fE)),vh,vo) H
theorem cK.c (h:cK.f k a0 a1=some r):Pt prog 140 [agg (aM.enc a0),vS a1] (lu [agg (Event.enc r.1),vB r.2]):=by
 refine pf func140 h fun R0 F H=>?_
 refine wr 3 3<|Dv.box Q T Q cA nofun fun ba=>al Q T vM nofun fun bc=>go 1<|so<|sq H id [2,4] (fun pa=>[(6,vI pa.1)]) (fun _=>[]) (fun pa H=>?_) (fun H=>?_)
 ·
  refine WP.seq<|so<|cf H ?_ ?_ <;> intro H
  ·
   refine WP.skip<|wr 7 32<|gl 3 [1]<|gr H fun ga H=>Dv.fR Q T Q Q qn kM mL ga.1 ga.2<|lr Q T Q FJ Q<|sy 0 ?_
   refine gq 1 ?_
   cases H.out; exact r2 i2 Q (.cons (au Q kM Q mL (aa 0 Q) Q) (.cons (aB Q) .nil))
  refine wr 3 2<|Dv.kL (qs:=[vS eE,vS eE,dJ,vS eE,vS eE,vI 0]) (css:=[]) Q T kM Gt Es Q T Q Q<|sy 0 ?_
  refine gq 1 ?_
  cases H.out; exact r2 i2 Q (.cons (nW (au Q kM Q mL (aa 0 Q) Q) (mZ (.cons bV (.cons bV (.cons cU (.cons bV (.cons bV (.cons bV .nil)))))))) (.cons (aB Q) .nil))
 refine so<|WP.block<|ws 2 [0,1] 0 ?_
 refine lq (fun j_ (pc:Int×Int)=>cK.l0 k a0 a1 j_ pc.1 pc.2) ((-1),0) H [1,2,4] (fun pc=>[(6,vI pc.1),(7,vI pc.2)]) (fun _=>[]) ?_
 rintro j_ ⟨xc,xd⟩ H
 rcases j_ with _ | ja
 ·
  exact (aS.no H).elim
 try dsimp only at H
 rw [cK.l0] at H
 refine WP.seq<|wr 5 0<|gl 3 [1]<|Dv.fk Q T Q qn<|go 1<|cf H ?_ ?_ <;> intro H
 ·
  refine WP.exit ?_
  have H:=H.out
  exact jn (xc,xd,decide (xd<(a0.fL.length:Int))) H
 refine WP.skip<|WP.seq<|WP.block<|WP.seq<|wr 17 0<|gl 3 [1]<|gr H fun gb H=>Dv.fR Q T Q Q qn kM mL gb.1 gb.2<|fr Q T Q IW Q<|jw Q T Q nu Q<|gp 3 ?_
 cases cc:!decide (((Event.K.at a0.fL xd).aj)=a1)
 rotate_left
 ·
  have H:=H.ct cc
  refine go 8<|WP.cond Q (fun _=>?_) nofun
  exact WP.exit<|rg 3 0<|go 3<|bk ja (xc,av (xd+1)) H
 have H:=H.cf cc
 refine gl 3 [1]<|gr H fun gi H=>Dv.fR Q (gg Q) Q Q qn kM mL gi.1 gi.2<|fr Q (gg Q) Q zM Q<|jw Q (gg Q) Q wu Q<|go 2<|ce H ?_ ?_ <;> intro H
 ·
  exact WP.exit<|rg 3 0<|go 3<|bk ja (xc,av (xd+1)) H
 refine WP.skip<|WP.seq<|so<|ce H ?_ ?_ <;> intro H
 ·
  exact so<|WP.exit<|rg 3 0<|go 3<|bk ja (xd,av (xd+1)) H
 refine WP.skip<|wd mX 18 0<|gl 4 [1,1]<|gr H fun gj H=>Dv.fR Q T Q Q qn kM mL gj.1 gj.2<|fr Q T Q zh Q<|jw Q T Q nu Q<|el H fun ta haa H=>cl Q (cL 152) Q (dI.c haa)<|gl 4 [1,1]<|gr H fun gk H=>Dv.fR Q T Q Q qn kM mL gk.1 gk.2<|fr Q T Q zh Q<|jw Q T Q nu Q<|el H fun tc hac H=>cl Q (cL 152) Q (dI.c hac)<|el H fun te had H=>cl Q (cL 24) Q (iV.c had)<|go 1<|so<|cf H ?_ ?_ <;> intro H
 ·
  exact WP.skip<|rg 3 0<|go 3<|bk ja (xc,av (xd+1)) H
 exact rg 2 0<|go 2<|rg 3 0<|go 3<|bk ja (xd,av (xd+1)) H
theorem jE.c (h:jE.f k a0 a1=some r):Pt prog 76 [agg (aM.enc a0),vS a1] (vB r):=by
 refine pf func76 h fun R0 F H=>?_
 refine wr 2 1<|Dv.box Q T Q cA nofun fun ba=>go 1<|wr 9 192<|gl 2 [0]<|el H fun ta haa H=>cl Q (cL 140) Q (cK.c haa)<|go 1<|eF Q T Q Q<|eF Q T Q Q<|al Q T vM nofun fun bc=>sy 0 ?_
 refine go 1<|wr 7 0<|gp 2 ?_
 cases cc:ta.2
 ·
  have H:=H.cf cc
  refine gq 5 ?_
  cases H.out; exact ek 2
 have H:=H.ct cc
 refine He 5 [0] ?_
 cases H.out; exact ek 2
theorem eB.c (h:eB.f k a0 a1 a2=some r):Pt prog 27 [agg (bA.enc a0),vS a1,vS a2] (vB r):=by
 refine pf func27 h fun R0 F H=>?_
 refine wr 2 1<|Dv.box Q T Q cA nofun fun ba=>go 1<|wr 6 0<|gl 2 [0]<|el H fun ta haa H=>cl Q (cL 77) Q (iz.c haa)<|go 1<|el H fun tc hac H=>cl Q (cL 76) Q (jE.c hac)<|gq 1 ?_
 cases H.out; exact ek 1
theorem cO.c (h:cO.f k a0 a1 a2 a3=some r):Pt prog 139 [agg (kH.enc a0),vS a1,vS a2,vI a3] (vB r):=by
 refine pf func139 h fun R0 F H=>?_
 refine wr 2 1<|Dv.box Q T Q cA nofun fun ba=>go 1<|sr H id [] (fun _=>[]) (fun _=>[]) (fun pa H=>?_) (fun H=>?_)
 ·
  refine sp ?_
  cases H.out; exact ek 1
 refine so<|WP.block<|ws 1 [0] 0 ?_
 refine lq (fun j_ (pc:Int)=>cO.l0 k a0 a1 a2 a3 j_ pc) 0 H [1,2,3,4] (fun pc=>[(9,vI pc)]) (fun _=>[]) ?_
 rintro j_ xc H
 rcases j_ with _ | ja
 ·
  exact (aS.no H).elim
 try dsimp only at H
 rw [cO.l0] at H
 refine WP.seq<|wr 5 0<|gl 3 [0]<|Dv.fk Q T Q eX<|go 1<|cf H ?_ ?_ <;> intro H
 ·
  refine WP.exit ?_
  have H:=H.out
  exact jn (xc,decide (xc<(a0.fL.length:Int))) H
 refine WP.skip<|WP.seq<|WP.block<|wr 18 0<|gl 3 [0]<|gr H fun ga H=>Dv.fR Q T Q Q eX gJ iy ga.1 ga.2<|fr Q T Q Hc Q<|jw Q T Q nu Q<|gp 3 ?_
 cases cc:decide (((ak.K.at a0.fL xc).ab)=a1)
 ·
  have H:=H.cf cc
  refine go 9<|WP.cond Q nofun (fun _=>?_)
  exact WP.skip<|rg 3 0<|go 3<|bk ja (av (xc+1)) H
 have H:=H.ct cc
 refine gl 3 [0]<|gr H fun gb H=>Dv.fR Q (gg Q) Q Q eX gJ iy gb.1 gb.2<|fr Q (gg Q) Q ze Q<|jw Q (gg Q) Q nu Q<|go 3<|cf H ?_ ?_ <;> intro H
 ·
  exact WP.skip<|rg 3 0<|go 3<|bk ja (av (xc+1)) H
 refine wd mX 24 0<|gl 3 [0]<|gr H fun gi H=>Dv.fR Q T Q Q eX gJ iy gi.1 gi.2<|fr Q T Q Fg Q<|jw Q T Q sc4 Q<|gp 1 ?_
 cases cg:(ak.K.at a0.fL xc).kl
 ·
  have H:=H.cf cg
  refine gq 17 ?_
  have H:=H.fg
  cases H.out; exact ek 1
 have H:=H.ct cg
 refine gl 4 [0]<|gr H fun gj H=>Dv.fR Q (gg Q) Q Q eX gJ iy gj.1 gj.2<|fr Q (gg Q) Q Ko Q<|jw Q (gg Q) Q wu Q<|gl 3 [0]<|gr H fun gk H=>Dv.fR Q (gg Q) Q Q eX gJ iy gk.1 gk.2<|fr Q (gg Q) Q LD Q<|jw Q (gg Q) Q wu Q<|gq 4 ?_
 have H:=H.fg
 cases H.out; exact ek 1
theorem dx.c (h:dx.f k a0 a1 a2=some r):Tr prog 74 [agg (kH.enc a0),vS a1,vI a2] [] (γ:=OV) (fun _=>True) (fun g=>eq g.1) (fun g=>[own aw g.1 r]):=by
 refine tf func74 h fun R0 F H=>?_
 refine wr 2 1<|Dv.box Q T Q cA nofun fun ba=>go 1<|so<|WP.jh H (fun qh:(Int×Bool×(List BA))×OV=>qh.1) (fun qh=>[(7,eq qh.2.1)]) (fun qh=>[aE ba 37 (kH.enc a0),own aw qh.2.1 qh.1.2.2]++F) (fun qh H=>?_) (fun H=>?_)
 ·
  obtain ⟨pa,va⟩:=qh
  refine sp ?_
  cases H.out; exact et va 2 [0,1] 1
 refine so<|WP.block<|wg (dy aw none) fun _ _=>?_
 refine ws 2 [1,0] 0 ?_
 refine lq (fun j_ (pc:Int×(List BA)×OV)=>dx.l0 k a0 a1 a2 j_ pc.1 pc.2.1) (0,([]:List BA),jR) H [1,2,3] (fun pc=>[(7,eq pc.2.2.1),(8,vI pc.1)]) (fun pc=>[(1,own aw pc.2.2.1 pc.2.1)]) ?_
 rintro j_ ⟨xc,xd,vb⟩ H
 rcases j_ with _ | ja
 ·
  exact (aS.no H).elim
 try dsimp only at H
 rw [dx.l0] at H
 refine WP.seq<|wr 5 0<|gl 3 [0]<|Dv.fk Q T Q eX<|go 1<|cf H ?_ ?_ <;> intro H
 ·
  refine WP.exit ?_
  have H:=H.out
  exact jn ((xc,decide (xc<(a0.fL.length:Int)),xd),vb) H
 refine WP.skip<|WP.seq<|WP.block<|wd mX 11 0<|gl 5 [0,0]<|gr H fun ga H=>Dv.fR Q T Q Q eX gJ iy ga.1 ga.2<|fr Q T Q ze Q<|jw Q T Q nu Q<|go 1<|el H fun ta haa H=>cl Q (cL 139) Q (cO.c haa)<|go 1<|wr 11 0<|gl 3 [0]<|gr H fun gb H=>Dv.fR Q T Q Q eX gJ iy gb.1 gb.2<|fr Q T Q Hc Q<|jw Q T Q nu Q<|gp 3 ?_
 cases cc:decide (((ak.K.at a0.fL xc).ab)=a1)
 ·
  have H:=H.cf cc
  refine go 2<|WP.cond Q nofun (fun _=>?_)
  exact WP.skip<|rg 3 0<|go 3<|bk ja (av (xc+1),xd,vb) H
 have H:=H.ct cc
 refine go 2<|cf H ?_ ?_ <;> intro H
 ·
  exact WP.skip<|rg 3 0<|go 3<|bk ja (av (xc+1),xd,vb) H
 refine rg 10 256<|gl 4 [0]<|gr H fun gi H=>Dv.fR Q T Q Q eX gJ iy gi.1 gi.2<|fr Q T Q ze Q<|jw Q T Q nu Q<|Dv.lit aw ([(ak.K.at a0.fL xc).aj]:List BA) (css:=[[vS ((ak.K.at a0.fL xc).aj)]]) Q T de U9 c9 z9 Q dc dc Q ⟨(cells_one (ah Q)),T⟩ Q Q Q<|gr H fun gj H=>ap aw 1 ([(ak.K.at a0.fL xc).aj]:List BA) bD de (.inr ⟨_,de⟩) rA gj nofun fun vd=>?_
 exact go 1<|rg 3 0<|go 3<|bk ja (av (xc+1),xd++([(ak.K.at a0.fL xc).aj]:List BA),vd) H
theorem eI.c (h:eI.f k a0 a1 a2=some r):Pt prog 21 [agg (dU.enc a0),vS a1,vI a2] (sl aw r):=by
 refine pf func21 h fun R0 F H=>?_
 refine wr 2 1<|Dv.box Q T Q cA nofun fun ba=>go 1<|wr 6 16<|gl 4 [0]<|el H fun ta haa H=>cx 1 [0] (cL 74) (dx.c haa) nofun fun ga _=>?_
 refine go 1<|so<|WP.jh H (fun qh:(Int×Bool×(List BA))×OV=>qh.1) (fun qh=>[(8,eq qh.2.1)]) (fun qh=>[aE ba 43 [sl aM.K a0.fV.fD,sl MK.K a0.fM,sl ak.K a0.fT.fL,sl cG a0.fT.db,sl ak.K a0.fP.fL,sl (bq .i64) a0.fP.db,sl kb.K a0.fL,vI a0.aC],own aw ga.1 ta,own aw qh.2.1 qh.1.2.2]++F) (fun qh H=>?_) (fun H=>?_)
 ·
  obtain ⟨pa,va⟩:=qh
  refine so<|fz 2 [6] [] ?_
  cases H.out; exact ek 2
 refine so<|WP.block<|wg (dy aw none) fun _ _=>?_
 refine ws 3 [2,1,0] 0 ?_
 refine lq (fun j_ (pc:Int×(List BA)×OV)=>eI.l0 k a0 a1 ta j_ pc.1 pc.2.1) (0,([]:List BA),jR) H [1,3,7] (fun pc=>[(8,eq pc.2.2.1),(9,vI pc.1)]) (fun pc=>[(2,own aw pc.2.2.1 pc.2.1)]) ?_
 rintro j_ ⟨xc,xd,vb⟩ H
 rcases j_ with _ | ja
 ·
  exact (aS.no H).elim
 try dsimp only at H
 rw [eI.l0] at H
 refine WP.seq<|wr 4 0<|go 2<|Dv.ko Q T Q (aa 1 Q) de<|go 1<|cf H ?_ ?_ <;> intro H
 ·
  refine WP.exit ?_
  have H:=H.out
  exact jn ((xc,decide (xc<(ta.length:Int)),xd),vb) H
 refine WP.skip<|WP.seq<|WP.block<|wd mX 9 0<|gl 5 [0]<|gr H fun gb H=>?_
 have hac:xc.toNat<ta.length:=bp gb
 refine Dv.jX Q T Q (aa 1 Q) Q de U9 c9 gb.1 gb.2<|Dv.na (j:=xc.toNat) (f:=0) (p:=vS (ta.getD xc.toNat default)) Q T Q (aa 1 Q) hac U9 Q Q<|el H fun tc had H=>cl Q (cL 27) Q (eB.c had)<|go 1<|so<|cf H ?_ ?_ <;> intro H
 ·
  exact WP.skip<|rg 3 0<|go 3<|bk ja (av (xc+1),xd,vb) H
 refine rg 8 64<|go 3<|gr H fun gi H=>?_
 have hae:xc.toNat<ta.length:=bp gi
 refine Dv.jX Q T Q (aa 1 Q) Q de U9 c9 gi.1 gi.2<|Dv.na (j:=xc.toNat) (f:=0) (p:=vS (ta.getD xc.toNat default)) Q T Q (aa 1 Q) hae U9 Q Q<|Dv.lit aw ([ta.getD xc.toNat default]:List BA) (css:=[[vS (ta.getD xc.toNat default)]]) Q T de U9 c9 z9 Q dc dc Q ⟨(cells_one (ah Q)),T⟩ Q Q Q<|gr H fun gj H=>ap aw 2 ([ta.getD xc.toNat default]:List BA) bD de (.inr ⟨_,de⟩) rA gj nofun fun vd=>?_
 exact go 1<|rg 3 0<|go 3<|bk ja (av (xc+1),xd++([ta.getD xc.toNat default]:List BA),vd) H
theorem dZ.c (h:dZ.f k a0 a1=some r):Tr prog 78 [agg (bA.enc a0),vS a1] [] (γ:=OV) (fun _=>True) (fun g=>eq g.1) (fun g=>[own aw g.1 r]):=by
 refine tf func78 h fun R0 F H=>?_
 refine wr 2 1<|Dv.box Q T Q cA nofun fun ba=>go 1<|so<|WP.jh H (fun qh:(Int×Bool×(List BA))×OV=>qh.1) (fun qh=>[(5,eq qh.2.1)]) (fun qh=>[aE ba 33 (bA.enc a0),own aw qh.2.1 qh.1.2.2]++F) (fun qh H=>?_) (fun H=>?_)
 ·
  obtain ⟨pa,va⟩:=qh
  refine sp ?_
  cases H.out; exact et va 2 [0,1] 1
 refine so<|WP.block<|wg (dy aw none) fun _ _=>?_
 refine ws 2 [1,0] 0 ?_
 refine lq (fun j_ (pc:Int×(List BA)×OV)=>dZ.l0 k a0 a1 j_ pc.1 pc.2.1) (0,([]:List BA),jR) H [1,2] (fun pc=>[(5,eq pc.2.2.1),(6,vI pc.1)]) (fun pc=>[(1,own aw pc.2.2.1 pc.2.1)]) ?_
 rintro j_ ⟨xc,xd,vb⟩ H
 rcases j_ with _ | ja
 ·
  exact (aS.no H).elim
 try dsimp only at H
 rw [dZ.l0] at H
 refine WP.seq<|wr 5 0<|gl 3 [0]<|Dv.fk Q T Q yB<|go 1<|cf H ?_ ?_ <;> intro H
 ·
  refine WP.exit ?_
  have H:=H.out
  exact jn ((xc,decide (xc<(a0.fD.length:Int)),xd),vb) H
 refine WP.skip<|WP.seq<|WP.block<|wr 8 0<|gl 3 [0]<|gr H fun ga H=>Dv.fR Q T Q Q yB lS nJ ga.1 ga.2<|lr Q T Q Ga Q<|go 1<|el H fun ta haa H=>cl Q (cL 76) Q (jE.c haa)<|go 1<|so<|cf H ?_ ?_ <;> intro H
 ·
  exact WP.skip<|rg 3 0<|go 3<|bk ja (av (xc+1),xd,vb) H
 refine rg 10 256<|gl 4 [0]<|gr H fun gb H=>Dv.fR Q T Q Q yB lS nJ gb.1 gb.2<|fr Q T Q ug Q<|jw Q T Q nu Q<|Dv.lit aw ([(aM.K.at a0.fD xc).ab]:List BA) (css:=[[vS ((aM.K.at a0.fD xc).ab)]]) Q T de U9 c9 z9 Q dc dc Q ⟨(cells_one (ah Q)),T⟩ Q Q Q<|gr H fun gi H=>ap aw 1 ([(aM.K.at a0.fD xc).ab]:List BA) bD de (.inr ⟨_,de⟩) rA gi nofun fun vd=>?_
 exact go 1<|rg 3 0<|go 3<|bk ja (av (xc+1),xd++([(aM.K.at a0.fD xc).ab]:List BA),vd) H
theorem dQ.c (h:dQ.f k a0 a1 a2=some r):Pt prog 28 [agg (bA.enc a0),vS a1,vS a2] (vB r):=by
 refine pf func28 h fun R0 F H=>?_
 refine wr 2 1<|Dv.box Q T Q cA nofun fun ba=>go 1<|wr 4 4<|gl 2 [0]<|el H fun ta haa H=>cx 1 [0] (cL 78) (dZ.c haa) nofun fun ga _=>?_
 refine go 1<|WP.yL H id (fun pa=>[]) (fun pa=>[aE ba 33 (bA.enc a0),own aw ga.1 ta]++F) (fun pa H=>?_) (fun H=>?_)
 ·
  refine sp ?_
  cases H.out; exact ek 2
 refine so<|WP.block<|ws 2 [1,0] 0 ?_
 refine lq (fun j_ (pc:Int)=>dQ.l0 k a0 a2 ta j_ pc) 0 H [2,3,7] (fun pc=>[(8,vI pc)]) (fun _=>[]) ?_
 rintro j_ xc H
 rcases j_ with _ | ja
 ·
  exact (aS.no H).elim
 try dsimp only at H
 rw [dQ.l0] at H
 refine WP.seq<|wr 4 0<|go 2<|Dv.ko Q T Q (aa 1 Q) de<|go 1<|cf H ?_ ?_ <;> intro H
 ·
  refine WP.exit ?_
  have H:=H.out
  exact jn (xc,decide (xc<(ta.length:Int))) H
 refine WP.skip<|WP.seq<|WP.block<|wd mX 8 0<|gl 3 [0]<|gr H fun gb H=>?_
 have hac:xc.toNat<ta.length:=bp gb
 refine Dv.jX Q T Q (aa 1 Q) Q de U9 c9 gb.1 gb.2<|Dv.na (j:=xc.toNat) (f:=0) (p:=vS (ta.getD xc.toNat default)) Q T Q (aa 1 Q) hac U9 Q Q<|go 1<|el H fun tc had H=>cl Q (cL 27) Q (eB.c had)<|go 1<|so<|cf H ?_ ?_ <;> intro H
 ·
  exact WP.skip<|rg 3 0<|go 3<|bk ja (av (xc+1)) H
 refine sp ?_
 have H:=H.fg
 cases H.out; exact ek 2
theorem ki.c (h:ki.f k a0 a1 a2=some r):Pt prog 134 [sl aw a0,vI a1,vS a2] (vI r):=by
 refine pf func134 h fun R0 F H=>?_
 refine so<|sr H id [] (fun _=>[]) (fun _=>[]) (fun pa H=>?_) (fun H=>?_)
 ·
  refine sp ?_
  cases H.out; exact ek 0
 refine wr 4 0<|go 1<|Dv.fk Q T Q de<|go 2<|WP.block<|ws 0 [] 0 ?_
 refine lq (fun j_ (pc:Int)=>ki.l0 k a0 a1 a2 j_ pc) (av ((a0.length:Int)-1)) H [0,1,2] (fun pc=>[(7,vI pc)]) (fun _=>[]) ?_
 rintro j_ xc H
 rcases j_ with _ | ja
 ·
  exact (aS.no H).elim
 try dsimp only at H
 rw [ki.l0] at H
 refine WP.seq<|so<|cf H ?_ ?_ <;> intro H
 ·
  refine WP.exit ?_
  have H:=H.out
  exact jn (xc,decide (0≤xc)) H
 refine WP.skip<|WP.seq<|WP.block<|wr 6 0<|go 2<|gr H fun ga H=>Dv.fR Q T Q Q de U9 c9 ga.1 ga.2<|jw Q T Q nu Q<|go 2<|cf H ?_ ?_ <;> intro H
 ·
  exact WP.skip<|rg 3 0<|go 3<|bk ja (av (xc-1)) H
 refine sp ?_
 have H:=H.fg
 cases H.out; exact ek 0
theorem iR.c (h:iR.f k a0=some r):Tr prog 135 [sl kb.K a0] [] (γ:=OV) (fun _=>True) (fun g=>eq g.1) (fun g=>[own aw g.1 r]):=by
 refine tf func135 h fun R0 F H=>?_
 refine so<|so<|WP.jh H (fun qh:(Int×Bool×(List BA))×OV=>qh.1) (fun qh=>[(3,eq qh.2.1)]) (fun qh=>[own aw qh.2.1 qh.1.2.2]++F) (fun qh H=>?_) (fun H=>?_)
 ·
  obtain ⟨pa,va⟩:=qh
  refine sp ?_
  cases H.out; exact et va 1 [0] 0
 refine so<|WP.block<|wg (dy aw none) fun _ _=>?_
 refine ws 1 [0] 0 ?_
 refine lq (fun j_ (pc:Int×(List BA)×OV)=>iR.l0 k a0 j_ pc.1 pc.2.1) (0,([]:List BA),jR) H [0] (fun pc=>[(3,eq pc.2.2.1),(4,vI pc.1)]) (fun pc=>[(0,own aw pc.2.2.1 pc.2.1)]) ?_
 rintro j_ ⟨xc,xd,vb⟩ H
 rcases j_ with _ | ja
 ·
  exact (aS.no H).elim
 try dsimp only at H
 rw [iR.l0] at H
 refine WP.seq<|wr 4 0<|go 2<|Dv.fk Q T Q Bc<|go 1<|cf H ?_ ?_ <;> intro H
 ·
  refine WP.exit ?_
  have H:=H.out
  exact jn ((xc,decide (xc<(a0.length:Int)),xd),vb) H
 refine WP.skip<|WP.seq<|WP.block<|rg 9 128<|go 3<|gr H fun ga H=>Dv.fR Q T Q Q Bc rf xq ga.1 ga.2<|lr Q T Q sg116 Q<|el H fun ta haa H=>cl Q (cL 49) Q (iL.c haa)<|Dv.lit aw ([ta]:List BA) (css:=[[vS ta]]) Q T de U9 c9 z9 Q dc dc Q ⟨(cells_one (ah Q)),T⟩ Q Q Q<|gr H fun gb H=>ap aw 0 ([ta]:List BA) bD de (.inr ⟨_,de⟩) rA gb nofun fun vd=>?_
 exact go 1<|rg 3 0<|go 3<|bk ja (av (xc+1),xd++([ta]:List BA),vd) H
theorem fS.c (h:fS.f k a0 a1 a2=some r):Pt prog 68 [agg (dU.enc a0),vI a1,vS a2] (vB r):=by
 refine pf func68 h fun R0 F H=>?_
 refine wr 2 1<|Dv.box Q T Q cA nofun fun ba=>go 1<|WP.seq<|dgo mX [0,1,3,4,5,7,2,6,8,9] [2]<|gl 6 [0,0]<|el H fun ta haa H=>Dv.uK (pre:=[]) (F:=[aE ba 43 [sl aM.K a0.fV.fD,sl MK.K a0.fM,sl ak.K a0.fT.fL,sl cG a0.fT.db,sl ak.K a0.fP.fL,sl (bq .i64) a0.fP.db,sl kb.K a0.fL,vI a0.aC]]++F) (fun ga:OV=>[own aw ga.1 ta,aE ba 43 [sl aM.K a0.fV.fD,sl MK.K a0.fM,sl ak.K a0.fT.fL,sl cG a0.fT.db,sl ak.K a0.fP.fL,sl (bq .i64) a0.fP.db,sl kb.K a0.fL,vI a0.aC]]++F) Q T (cL 135) Q (iR.c haa) (ly (L:=[aE ba 43 [sl aM.K a0.fV.fD,sl MK.K a0.fM,sl ak.K a0.fT.fL,sl cG a0.fT.db,sl ak.K a0.fP.fL,sl (bq .i64) a0.fP.db,sl kb.K a0.fL,vI a0.aC]]) (F:=F) [0] Q Q Q) Q pE (fun ga _=>?_)
 refine el H fun tc hac H=>pJ (B:=[own aw ga.1 ta]) 2 [0,1] (cL 134) (Pt.wT _ (ki.c hac) (.cons (pq (aa 0 Q)) (.cons q7 (.cons q7 .nil))) lM) ?_
 refine gq 2 ?_
 cases H.out; exact ek 2
theorem gQ.c (h:gQ.f k a0 a1=some r):Tr prog 69 [sl aw a0,vS a1] [] (γ:=OV) (fun _=>True) (fun g=>eq g.1) (fun g=>[own aw g.1 r]):=by
 refine tf func69 h fun R0 F H=>?_
 refine so<|so<|so<|WP.jh H (fun qh:(Bool×Int×Bool×(List BA))×OV=>qh.1) (fun qh=>[(1,vS a1),(5,eq qh.2.1),(6,vB qh.1.1)]) (fun qh=>[own aw qh.2.1 qh.1.2.2.2]++F) (fun qh H=>?_) (fun H=>?_)
 ·
  obtain ⟨pa,va⟩:=qh
  refine WP.seq<|so<|cf H ?_ ?_ <;> intro H
  ·
   refine WP.skip<|sp ?_
   cases H.out; exact et va 1 [0] 0
  refine rg 5 8<|go 2<|Dv.lit aw ([a1]:List BA) (css:=[[vS a1]]) Q T de U9 c9 z9 Q dc dc Q ⟨(cells_one (ah Q)),T⟩ Q Q Q<|gr H fun ga H=>ap aw 0 ([a1]:List BA) bD de (.inr ⟨_,de⟩) rA ga nofun fun vb=>?_
  refine go 1<|sp ?_
  cases H.out; exact et vb 1 [0] 0
 refine so<|WP.block<|wg (dy aw none) fun _ _=>?_
 refine ws 1 [0] 0 ?_
 refine lq (fun j_ (pc:Bool×Int×(List BA)×OV)=>gQ.l0 k a0 a1 j_ pc.1 pc.2.1 pc.2.2.1) (false,0,([]:List BA),jR) H [0,1] (fun pc=>[(5,eq pc.2.2.2.1),(6,vB pc.1),(7,vI pc.2.1)]) (fun pc=>[(0,own aw pc.2.2.2.1 pc.2.2.1)]) ?_
 rintro j_ ⟨xc,xd,xe,vd⟩ H
 rcases j_ with _ | ja
 ·
  exact (aS.no H).elim
 try dsimp only at H
 rw [gQ.l0] at H
 refine WP.seq<|wr 4 0<|go 2<|Dv.fk Q T Q de<|go 1<|cf H ?_ ?_ <;> intro H
 ·
  refine WP.exit ?_
  have H:=H.out
  exact jn ((xc,xd,decide (xd<(a0.length:Int)),xe),vd) H
 refine WP.skip<|WP.seq<|WP.block<|WP.jh H (fun qi:(Bool×Bool×(List BA))×OV=>qi.1) (fun qi=>[(0,sl aw a0),(1,vS a1),(5,eq qi.2.1),(6,vB qi.1.1),(7,vI xd)]) (fun qi=>[own aw qi.2.1 qi.1.2.2]++F) (fun qi H=>?_) (fun H=>?_)
 ·
  obtain ⟨pe,ve⟩:=qi
  refine wr 6 0<|go 2<|gr H fun gb H=>Dv.fR Q T Q Q de U9 c9 gb.1 gb.2<|jw Q T Q nu Q<|go 2<|cf H ?_ ?_ <;> intro H
  ·
   exact WP.skip<|rg 3 0<|go 3<|bk ja (pe.1,av (xd+1),pe.2.2,ve) H
  refine rg 8 64<|go 3<|gr H fun gi H=>Dv.fR Q T Q Q de U9 c9 gi.1 gi.2<|jw Q T Q nu Q<|Dv.lit aw ([aw.at a0 xd]:List BA) (css:=[[vS (aw.at a0 xd)]]) Q T de U9 c9 z9 Q dc dc Q ⟨(cells_one (ah Q)),T⟩ Q Q Q<|gr H fun gj H=>ap aw 0 ([aw.at a0 xd]:List BA) bD de (.inr ⟨_,de⟩) rA gj nofun fun vh=>?_
  exact go 1<|rg 3 0<|go 3<|bk ja (pe.1,av (xd+1),pe.2.2++([aw.at a0 xd]:List BA),vh) H
 refine wr 10 0<|gp 3 ?_
 cases cc:!xc
 ·
  have H:=H.cf cc
  refine go 7<|WP.cond Q nofun (fun _=>?_)
  refine WP.skip ?_
  have H:=H.out
  exact jn ((xc,false,xe),vd) H
 have H:=H.ct cc
 refine go 3<|gr H fun gk H=>Dv.fR Q (gg Q) Q Q de U9 c9 gk.1 gk.2<|jw Q (gg Q) Q nu Q<|go 2<|cf H ?_ ?_ <;> intro H
 ·
  refine WP.skip ?_
  have H:=H.out
  exact jn ((xc,!dK (aw.at a0 xd) a1,xe),vd) H
 refine wr 5 8<|go 2<|Dv.lit aw ([a1]:List BA) (css:=[[vS a1]]) Q T de U9 c9 z9 Q dc dc Q ⟨(cells_one (ah Q)),T⟩ Q Q Q<|gr H fun gm H=>ap aw 0 ([a1]:List BA) bD de (.inr ⟨_,de⟩) rA gm nofun fun vi=>?_
 refine go 1<|rg 1 0<|gq 1 ?_
 have H:=H.out
 exact jn ((true,!dK (aw.at a0 xd) a1,xe++([a1]:List BA)),vi) H
theorem sL.c (h:sL.f a0 a1=some r):Pt prog 136 [agg (ak.enc a0),vI a1] (vI r):=by
 refine pf func136 h fun R0 F H=>?_
 refine wr 2 1<|Dv.box Q T Q cA nofun fun ba=>go 1<|WP.seq<|wr 10 0<|kU 4 [0] ?_
 cases cc:(a0.aQ==2)
 ·
  have H:=H.cf cc
  refine go 6<|WP.cond Q nofun (fun _=>?_)
  refine WP.skip<|WP.seq<|wr 10 0<|kU 4 [0] ?_
  cases cg:decide (0<a0.aQ)
  ·
   have H:=H.cf cg
   refine go 6<|WP.cond Q nofun (fun _=>?_)
   refine WP.skip<|sp ?_
   cases H.out; exact ek 1
  have H:=H.ct cg
  refine gl 6 [0]<|ce H ?_ ?_ <;> intro H
  ·
   refine sp ?_
   cases H.out; exact ek 1
  refine WP.skip<|sp ?_
  cases H.out; exact ek 1
 have H:=H.ct cc
 refine gl 6 [0]<|ce H ?_ ?_ <;> intro H
 ·
  refine sp ?_
  cases H.out; exact ek 1
 refine WP.skip<|WP.seq<|wr 10 0<|kU 4 [0] ?_
 cases ci:decide (0<a0.aQ)
 ·
  have H:=H.cf ci
  refine go 6<|WP.cond Q nofun (fun _=>?_)
  refine WP.skip<|sp ?_
  cases H.out; exact ek 1
 have H:=H.ct ci
 refine gl 6 [0]<|ce H ?_ ?_ <;> intro H
 ·
  refine sp ?_
  cases H.out; exact ek 1
 refine WP.skip<|sp ?_
 cases H.out; exact ek 1
theorem du.c (h:du.f k a0 a1 a2=some r):Pt prog 70 [agg (lH.enc a0),vS a1,vI a2] (vI r):=by
 refine pf func70 h fun R0 F H=>?_
 refine wr 2 1<|Dv.box Q T Q cA nofun fun ba=>go 1<|sr H id [] (fun _=>[]) (fun _=>[]) (fun pa H=>?_) (fun H=>?_)
 ·
  refine sp ?_
  cases H.out; exact ek 1
 refine so<|WP.block<|ws 1 [0] 0 ?_
 refine lq (fun j_ (pc:Int)=>du.l0 k a0 a1 a2 j_ pc) 0 H [1,2,3] (fun pc=>[(7,vI pc)]) (fun _=>[]) ?_
 rintro j_ xc H
 rcases j_ with _ | ja
 ·
  exact (aS.no H).elim
 try dsimp only at H
 rw [du.l0] at H
 refine WP.seq<|wr 5 0<|gl 3 [0]<|Dv.fk Q T Q eX<|go 1<|cf H ?_ ?_ <;> intro H
 ·
  refine WP.exit ?_
  have H:=H.out
  exact jn (xc,decide (xc<(a0.fL.length:Int))) H
 refine WP.skip<|WP.seq<|WP.block<|wr 8 0<|gl 3 [0]<|gr H fun ga H=>Dv.fR Q T Q Q eX gJ iy ga.1 ga.2<|fr Q T Q ze Q<|jw Q T Q nu Q<|go 2<|cf H ?_ ?_ <;> intro H
 ·
  exact WP.skip<|rg 3 0<|go 3<|bk ja (av (xc+1)) H
 refine wr 8 0<|gl 3 [0]<|gr H fun gb H=>Dv.fR Q T Q Q eX gJ iy gb.1 gb.2<|lr Q T Q uR Q<|go 1<|el H fun ta haa H=>cl Q (cL 136) Q (sL.c haa)<|gq 1 ?_
 have H:=H.fg
 cases H.out; exact ek 1
end Go.Proofs.YtfknmdelgepbjaaGreatDoor
