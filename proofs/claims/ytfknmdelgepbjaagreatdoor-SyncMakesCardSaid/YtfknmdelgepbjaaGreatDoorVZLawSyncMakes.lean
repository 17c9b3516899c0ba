import Derived.Test.YtfknmdelgepbjaaGreatDoorVZWalks4
set_option linter.all false
set_option autoImplicit true
set_option maxRecDepth 10000
set_option maxHeartbeats 20000000
namespace Go.Proofs.YtfknmdelgepbjaaGreatDoor
open Go Go.Sp Tryz
theorem bF.c (h:bF.f k a0 a1 a2 a3 a4 a5 a6=some r):Tr prog 3 [sl dz.K a0,sl dz.K a1,sl ak.K a2,vI a3,vI a4,vI a5,vI a6] [lax] (γ:=Unit) (fun _=>True) (fun g=>vB r) (fun g=>[lax]):=by
 refine tf func3 h fun R0 F H=>?_
 refine so<|wr 15 15396<|go 2<|el H fun ta haa H=>cx 1 [0] (cL 9) (oH.c haa) nofun fun ga _=>?_
 refine go 1<|el H fun tc hac H=>cl Q (cL 10) Q (aW.c hac)<|Dv.gh (oi (E':=[(0,sl dz.K a0),(1,sl dz.K a1),(2,sl ak.K a2),(3,vI a3),(4,vI a4),(5,vI a5),(6,vI a6),(14,vB false),(33,sl Event.K ta),(35,vI tc)]) (l':=[lax]++F) 0 Q (ar Q ay (ar Q ay (ar Q ay (ar Q ay (ar Q ay (ar Q ay (ar Q ay (ar Q ay (ar Q kV (ar Q ay jK)))))))))) (gK (.cons bP .nil) fun _=>bP)) (fun _ _=>?_)
 refine el H fun te had H=>cx 1 [0] (cL 8) (gF.c had) nofun fun gb _=>?_
 refine go 1<|eF Q T Q Q<|eF Q T Q Q<|eF Q T Q Q<|al Q T Lr nofun fun ba=>al Q T G7 nofun fun bc=>sy 1 ?_
 refine sy 0 ?_
 refine go 1<|WP.seq<|so<|ce H ?_ ?_ <;> intro H
 ·
  refine sp ?_
  cases H.out; exact et () 8 [0,1,2,3,4,5,6,7] 7
 refine WP.skip<|sr H id [4,5,6,15,16] (fun _=>[]) (fun pa=>[(0,aE bc 43 [sl aM.K pa.2.2.1.fV.fD,sl MK.K pa.2.2.1.fM,sl ak.K pa.2.2.1.fT.fL,sl cG pa.2.2.1.fT.db,sl ak.K pa.2.2.1.fP.fL,sl (bq .i64) pa.2.2.1.fP.db,sl kb.K pa.2.2.1.fL,vI pa.2.2.1.aC]),(2,aN.O gb.1 pa.2.2.2.1),(3,j7.O gb.2.1 pa.2.2.2.2.1),(4,bX.O gb.2.2.1 pa.2.2.2.2.2.1),(5,cD.O gb.2.2.2.1 pa.2.2.2.2.2.2.1),(6,cC.O gb.2.2.2.2 pa.2.2.2.2.2.2.2)]) (fun pa H=>?_) (fun H=>?_)
 rotate_left
 ·
  refine so<|WP.block<|ws 8 [0,1,2,3,4,5,6,7] 0 ?_
  refine lq (fun j_ (pc:Int×dU×aN×j7×bX×cD×cC)=>bF.l1 k a2 j_ pc.1 pc.2.1 pc.2.2.1 pc.2.2.2.1 pc.2.2.2.2.1 pc.2.2.2.2.2.1 pc.2.2.2.2.2.2) (0,(⟨te.2.1.fV,te.2.1.fM,te.2.1.fT,te.2.1.fP,te.2.1.fL,te.2.1.aC⟩:dU),te.1.dB,te.1.aJ,te.1.az,te.1.bu,te.1.jy) H [2,4,5,6,15,16] (fun pc=>[(18,vI pc.1)]) (fun pc=>[(0,aE bc 43 [sl aM.K pc.2.1.fV.fD,sl MK.K pc.2.1.fM,sl ak.K pc.2.1.fT.fL,sl cG pc.2.1.fT.db,sl ak.K pc.2.1.fP.fL,sl (bq .i64) pc.2.1.fP.db,sl kb.K pc.2.1.fL,vI pc.2.1.aC]),(2,aN.O gb.1 pc.2.2.1),(3,j7.O gb.2.1 pc.2.2.2.1),(4,bX.O gb.2.2.1 pc.2.2.2.2.1),(5,cD.O gb.2.2.2.1 pc.2.2.2.2.2.1),(6,cC.O gb.2.2.2.2 pc.2.2.2.2.2.2)]) ?_
  rintro j_ ⟨xc,xd,xe,xf,xg,xi,xj⟩ H
  rcases j_ with _ | ja
  ·
   exact (aS.no H).elim
  try dsimp only at H
  rw [bF.l1] at H
  refine WP.seq<|wr 8 0<|go 2<|Dv.fk Q T Q eX<|gp 2 ?_
  rcases bm H with ⟨cc,H⟩ | ⟨cc,H⟩
  ·
   refine sh 45 cc ?_
   refine sh 46 cc ?_
   refine go 3<|WP.cond Q nofun (fun _=>?_)
   refine WP.exit ?_
   have H:=H.out
   exact jn (xc,false,(⟨xd.fV,xd.fM,xd.fT,xd.fP,xd.fL,xd.aC⟩:dU),xe,xf,xg,xi,xj) H
  refine sh 45 cc ?_
  refine sh 46 cc ?_
  refine go 3<|cf H ?_ ?_ <;> intro H
  ·
   refine WP.exit ?_
   have H:=H.out
   exact jn (xc,decide (xc<10),(⟨xd.fV,xd.fM,xd.fT,xd.fP,xd.fL,xd.aC⟩:dU),xe,xf,xg,xi,xj) H
  refine WP.skip<|WP.seq<|WP.block<|WP.seq<|WP.dgf (kf:=11) mX [(0,false),(1,false),(2,false),(3,false),(4,false),(5,false),(6,false),(7,true),(8,false),(9,false),(10,false)] [(12,true),(13,false)] Q kr<|gl 4 [1,0]<|gr H fun gi H=>Dv.fR Q T Q Q eX gJ iy gi.1 gi.2<|lr Q T Q uR Q<|el H fun tg hae H=>cl Q (cL 12) Q (lO.c hae)<|Dv.float ?_ (fun hk_=>?_)
  ·
   refine xJ Q T G7 pU (fun bd=>?_)
   refine el H fun tj haf H=>cx 9 [8,3,4,5,6,7,0,1,2] (cL 11) (nm.c haf (p0_0:=gb.1) (p0_1:=gb.2.1) (p0_2:=gb.2.2.1) (p0_3:=gb.2.2.2.1) (p0_4:=gb.2.2.2.2)) pC fun _ _=>?_
   refine go 1<|eF Q T Q Q<|eF Q T Q Q<|sx 6 Q T Q Q cA HL Q Q Q pD ?_
   refine go 1<|WP.seq<|so<|ce H ?_ ?_ <;> intro H
   ·
    refine sp ?_
    have H:=H.fg
    cases H.out; exact et () 9 [1,2,3,4,5,6,7,8,0] 8
   refine WP.skip<|rg 2 2<|gl 1 [6]<|sy 7 ?_
   refine .fin<|rg 3 0<|go 3<|ns 9 [6,7,8,1,2,3,4,5,0] 1 ?_
   exact bk ja (av (xc+1),(⟨tj.1.fV,tj.1.fM,tj.1.fT,tj.1.fP,tj.1.fL,tj.1.aC⟩:dU),tj.2.2.dB,tj.2.2.aJ,tj.2.2.az,tj.2.2.bu,tj.2.2.jy) H
  refine el H fun tm hag H=>cx 8 [7,2,3,4,5,6,0,1] (cL 11) (nm.c hag (p0_0:=gb.1) (p0_1:=gb.2.1) (p0_2:=gb.2.2.1) (p0_3:=gb.2.2.2.1) (p0_4:=gb.2.2.2.2)) pC fun _ _=>?_
  refine go 1<|eF Q T Q Q<|eF Q T Q Q<|.fin<|xJ Q T G7 pU (fun be=>?_)
  refine sx 0 Q T Q Q cA HL Q Q Q pD ?_
  refine go 1<|WP.seq<|so<|ce H ?_ ?_ <;> intro H
  ·
   refine sp ?_
   have H:=H.fg
   cases H.out; exact et () 9 [0,2,3,4,5,6,7,8,1] 8
  refine WP.skip<|rg 2 2<|gl 1 [0]<|sy 7 ?_
  refine .fin<|rg 3 0<|go 3<|ns 9 [0,7,8,2,3,4,5,6,1] 1 ?_
  exact bk ja (av (xc+1),(⟨tm.1.fV,tm.1.fM,tm.1.fT,tm.1.fP,tm.1.fL,tm.1.aC⟩:dU),tm.2.2.dB,tm.2.2.aJ,tm.2.2.az,tm.2.2.bu,tm.2.2.jy) H
 refine wr 3 0<|go 1<|el H fun tn hah H=>cl Q (cL 13) Q (im.c hah)<|go 1<|wd mX 18 0<|gl 6 [0,0]<|Dv.fk Q T Q Bc<|go 2<|el H fun tp hai H=>cl Q (cL 10) Q (aW.c hai)<|gl 4 [0,0]<|Dv.fk Q T Q Bc<|go 1<|Dv.lit (bq .i64) ([a5,0,tp,av (pa.2.2.1.aC+(pa.2.2.1.fL.length:Int))]:List Int) (css:=[[vI a5],[vI 0],[vI tp],[vI (av (pa.2.2.1.aC+(pa.2.2.1.fL.length:Int)))]]) Q T oU U3 c3 z3 Q dc dc Q ⟨(cells_one (ah Q)),⟨(cells_one (ah Q)),⟨(cells_one (ah Q)),⟨(cells_one (ah Q)),T⟩⟩⟩⟩ Q Q Q<|go 1<|wr 7 0<|go 1<|el H fun tq haj H=>cl Q (cL 10) Q (aW.c haj)<|go 2<|el H fun tu hak H=>cl Q (cL 10) Q (aW.c hak)<|Dv.lit (bq .i64) ([tq,a6,tu,0]:List Int) (css:=[[vI tq],[vI a6],[vI tu],[vI 0]]) Q T oU U3 c3 z3 Q dc dc Q ⟨(cells_one (ah Q)),⟨(cells_one (ah Q)),⟨(cells_one (ah Q)),⟨(cells_one (ah Q)),T⟩⟩⟩⟩ Q Q Q<|go 1<|sr H id [4,15,16,23] (fun _=>[]) (fun _=>[]) (fun pe H=>?_) (fun H=>?_)
 ·
  refine wr 3 0<|go 1<|el H fun tw ham H=>cl Q (cL 18) Q (en.c ham)<|go 1<|WP.seq<|dgo mX [0,1,2,3,4,6,7,8,9,10,5,11,12,13,14,15,16] [5]<|gl 3 [1]<|gr H fun gj H=>Dv.fR Q T Q Q oU U3 c3 gj.1 gj.2<|jw Q T Q wu Q<|gl 3 [0]<|gr H fun gk H=>Dv.fR Q T Q Q oU U3 c3 gk.1 gk.2<|jw Q T Q wu Q<|el H fun tx han H=>Dv.uK (pre:=[aN.O gb.1 pa.2.2.2.1,j7.O gb.2.1 pa.2.2.2.2.1,bX.O gb.2.2.1 pa.2.2.2.2.2.1,cD.O gb.2.2.2.1 pa.2.2.2.2.2.2.1,cC.O gb.2.2.2.2 pa.2.2.2.2.2.2.2]) (F:=[aE bc 43 [sl aM.K pa.2.2.1.fV.fD,sl MK.K pa.2.2.1.fM,sl ak.K pa.2.2.1.fT.fL,sl cG pa.2.2.1.fT.db,sl ak.K pa.2.2.1.fP.fL,sl (bq .i64) pa.2.2.1.fP.db,sl kb.K pa.2.2.1.fL,vI pa.2.2.1.aC],aE ba 30 [eq gb.1.1,eq gb.2.1.1,eq gb.2.2.1.1,eq gb.2.2.2.1.1,eq gb.2.2.2.2.1],lax]++F) (fun _:Unit=>[aN.O gb.1 pa.2.2.2.1,j7.O gb.2.1 pa.2.2.2.2.1,bX.O gb.2.2.1 pa.2.2.2.2.2.1,cD.O gb.2.2.2.1 pa.2.2.2.2.2.2.1,cC.O gb.2.2.2.2 pa.2.2.2.2.2.2.2,aE bc 43 [sl aM.K pa.2.2.1.fV.fD,sl MK.K pa.2.2.1.fM,sl ak.K pa.2.2.1.fT.fL,sl cG pa.2.2.1.fT.db,sl ak.K pa.2.2.1.fP.fL,sl (bq .i64) pa.2.2.1.fP.db,sl kb.K pa.2.2.1.fL,vI pa.2.2.1.aC],aE ba 30 [eq gb.1.1,eq gb.2.1.1,eq gb.2.2.1.1,eq gb.2.2.2.1.1,eq gb.2.2.2.2.1],lax]++F) Q T (cL 20) Q (jP.c han (p0_0:=gb.1) (p0_1:=gb.2.1) (p0_2:=gb.2.2.1) (p0_3:=gb.2.2.2.1) (p0_4:=gb.2.2.2.2)) (ly (L:=[aE bc 43 [sl aM.K pa.2.2.1.fV.fD,sl MK.K pa.2.2.1.fM,sl ak.K pa.2.2.1.fT.fL,sl cG pa.2.2.1.fT.db,sl ak.K pa.2.2.1.fP.fL,sl (bq .i64) pa.2.2.1.fP.db,sl kb.K pa.2.2.1.fL,vI pa.2.2.1.aC],aE ba 30 [eq gb.1.1,eq gb.2.1.1,eq gb.2.2.1.1,eq gb.2.2.2.1.1,eq gb.2.2.2.2.1],aN.O gb.1 pa.2.2.2.1,j7.O gb.2.1 pa.2.2.2.2.1,bX.O gb.2.2.1 pa.2.2.2.2.2.1,cD.O gb.2.2.2.1 pa.2.2.2.2.2.2.1,cC.O gb.2.2.2.2 pa.2.2.2.2.2.2.2,lax]) (F:=F) [2,3,4,5,6,0,1,7] kr Q Q) Q pE (fun _ _=>?_)
  refine el H fun tz hao H=>cl Q (cL 21) Q (eI.c hao)<|el H fun taa hap H=>cl Q (cL 19) Q (cH.c hap)<|gp 1 ?_
  cases cg:taa
  ·
   have H:=H.cf cg
   refine gq 3 ?_
   cases H.out; exact et () 8 [0,1,2,3,4,5,6,7] 7
  have H:=H.ct cg
  refine el H fun tac haq H=>pJ 8 [7,0,1,2,3,4,5,6] (cL 22) (oN.c haq) ?_
  refine gq 2 ?_
  cases H.out; exact et () 8 [0,1,2,3,4,5,6,7] 7
 refine so<|WP.block<|ws 8 [0,1,2,3,4,5,6,7] 0 ?_
 refine lq (fun j_ (pg:Int)=>bF.l0 k a5 a6 pa tn tp tq tu j_ pg) 0 H [4,15,16,21,22,23] (fun pg=>[(24,vI pg)]) (fun _=>[]) ?_
 rintro j_ xk H
 rcases j_ with _ | jc
 ·
  exact (aS.no H).elim
 try dsimp only at H
 rw [bF.l0] at H
 refine WP.seq<|so<|cf H ?_ ?_ <;> intro H
 ·
  refine WP.exit ?_
  have H:=H.out
  exact jn (xk,decide (xk<4)) H
 refine WP.skip<|WP.seq<|WP.block<|WP.seq<|WP.dgf (kf:=14) mX [(0,false),(1,false),(2,false),(3,false),(4,false),(5,false),(6,false),(7,false),(8,false),(9,false),(10,true),(11,false),(12,false),(13,false)] [(15,true),(16,false)] Q kr<|gl 4 [1]<|gr H fun gm H=>Dv.fR Q T Q Q oU U3 c3 gm.1 gm.2<|jw Q T Q wu Q<|go 2<|gr H fun gn H=>Dv.fR Q T Q Q oU U3 c3 gn.1 gn.2<|jw Q T Q wu Q<|Dv.float ?_ (fun hk_=>?_)
 ·
  refine xJ Q T Il pU (fun bg=>?_)
  refine el H fun tad har H=>cx 9 [3,4,5,6,7,0,1,2,8] (cL 14) (sync_Make.c har (p0_0:=gb.1) (p0_1:=gb.2.1) (p0_2:=gb.2.2.1) (p0_3:=gb.2.2.2.1) (p0_4:=gb.2.2.2.2)) pC fun _ _=>?_
  refine go 1<|eF Q T Q Q<|eF Q T Q Q<|sx 5 Q T Q Q cA sz59 Q Q Q pD ?_
  refine go 1<|wd mX 17 49152<|gl 4 [6]<|gr H fun gu H=>Dv.fR Q T Q Q oU U3 c3 gu.1 gu.2<|jw Q T Q wu Q<|go 2<|gr H fun gv H=>Dv.fR Q T Q Q oU U3 c3 gv.1 gv.2<|jw Q T Q wu Q<|el H fun tae has H=>cl Q (cL 15) Q (bf.c has)<|go 1<|eF Q T Q Q<|eF Q T Q Q<|al Q T Em pD fun bh=>sx 0 Q T Q Q cA sz66 Q Q Q pD ?_
  refine go 1<|wd mX 17 0<|gp 4 ?_
  cases ci:(tad.2 != tae.2)
  rotate_left
  ·
   have H:=H.ct ci
   refine go 13<|WP.cond Q (fun _=>?_) nofun
   refine sp ?_
   have H:=H.fg
   cases H.out; exact et () 10 [0,1,2,3,4,5,6,7,8,9] 9
  have H:=H.cf ci
  refine kU 7 [6,0] ?_
  cases cj:(tad.1.ig != tae.1.ig)
  rotate_left
  ·
   have H:=H.ct cj
   refine go 6<|WP.cond Q (fun _=>?_) nofun
   refine sp ?_
   have H:=H.fg
   cases H.out; exact et () 10 [0,1,2,3,4,5,6,7,8,9] 9
  have H:=H.cf cj
  refine gl 1 [6]<|el H fun taf hau H=>Dv.call Q (gg Q) (cL 17) Q (eJ.c hau)<|gl 1 [0]<|el H fun tag hav H=>Dv.call Q (gg Q) (cL 16) Q (dC.c hav)<|go 2<|ce H ?_ ?_ <;> intro H
  ·
   refine sp ?_
   have H:=H.fg
   cases H.out; exact et () 10 [0,1,2,3,4,5,6,7,8,9] 9
  refine WP.skip<|rg 3 0<|go 3<|ns 10 [0,6,7,8,1,2,3,4,5,9] 2 ?_
  exact bk jc (av (xk+1)) H
 refine el H fun tah haw H=>cx 8 [2,3,4,5,6,0,1,7] (cL 14) (sync_Make.c haw (p0_0:=gb.1) (p0_1:=gb.2.1) (p0_2:=gb.2.2.1) (p0_3:=gb.2.2.2.1) (p0_4:=gb.2.2.2.2)) pC fun _ _=>?_
 refine go 1<|eF Q T Q Q<|eF Q T Q Q<|.fin<|xJ Q T Il pU (fun bi=>?_)
 refine sx 0 Q T Q Q cA sz59 Q Q Q pD ?_
 refine go 1<|wd mX 17 49152<|gl 4 [6]<|gr H fun gu H=>Dv.fR Q T Q Q oU U3 c3 gu.1 gu.2<|jw Q T Q wu Q<|go 2<|gr H fun gv H=>Dv.fR Q T Q Q oU U3 c3 gv.1 gv.2<|jw Q T Q wu Q<|el H fun tae has H=>cl Q (cL 15) Q (bf.c has)<|go 1<|eF Q T Q Q<|eF Q T Q Q<|al Q T Em pD fun bh=>sx 0 Q T Q Q cA sz66 Q Q Q pD ?_
 refine go 1<|wd mX 17 0<|gp 4 ?_
 cases ci:(tah.2 != tae.2)
 rotate_left
 ·
  have H:=H.ct ci
  refine go 13<|WP.cond Q (fun _=>?_) nofun
  refine sp ?_
  have H:=H.fg
  cases H.out; exact et () 10 [0,1,2,3,4,5,6,7,8,9] 9
 have H:=H.cf ci
 refine kU 7 [1,0] ?_
 cases cj:(tah.1.ig != tae.1.ig)
 rotate_left
 ·
  have H:=H.ct cj
  refine go 6<|WP.cond Q (fun _=>?_) nofun
  refine sp ?_
  have H:=H.fg
  cases H.out; exact et () 10 [0,1,2,3,4,5,6,7,8,9] 9
 have H:=H.cf cj
 refine gl 1 [1]<|el H fun taf hau H=>Dv.call Q (gg Q) (cL 17) Q (eJ.c hau)<|gl 1 [0]<|el H fun tag hav H=>Dv.call Q (gg Q) (cL 16) Q (dC.c hav)<|go 2<|ce H ?_ ?_ <;> intro H
 ·
  refine sp ?_
  have H:=H.fg
  cases H.out; exact et () 10 [0,1,2,3,4,5,6,7,8,9] 9
 refine WP.skip<|rg 3 0<|go 3<|ns 10 [0,1,7,8,2,3,4,5,6,9] 2 ?_
 exact bk jc (av (xk+1)) H
end Go.Proofs.YtfknmdelgepbjaaGreatDoor
