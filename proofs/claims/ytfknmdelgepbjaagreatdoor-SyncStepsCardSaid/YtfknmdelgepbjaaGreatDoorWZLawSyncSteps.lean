import Derived.Test.YtfknmdelgepbjaaGreatDoorWZWalks4
set_option linter.all false
set_option autoImplicit true
set_option maxRecDepth 10000
set_option maxHeartbeats 20000000
namespace Go.Proofs.YtfknmdelgepbjaaGreatDoor
open Go Go.Sp Tryz
theorem aF.c (h:aF.f k a0 a1 a2 a3 a4 a5=some r):Tr prog 4 [sl dA.K a0,sl dA.K a1,sl ak.K a2,sl bJ a3,vI a4,vI a5] [lax] (γ:=Unit) (fun _=>True) (fun g=>vB r) (fun g=>[lax]):=by
 refine tf func4 h fun R0 F H=>?_
 refine so<|wr 13 3852<|go 2<|el H fun ta haa H=>cx 1 [0] (cL 9) (oM.c haa) nofun fun ga _=>?_
 refine Dv.gh (ou (E':=[(0,sl dA.K a0),(1,sl dA.K a1),(2,sl ak.K a2),(3,sl bJ a3),(4,vI a4),(5,vI a5),(12,vB false),(43,sl Event.K ta)]) (l':=[lax]++F) 0 Q (ar Q az (ar Q az (ar Q az (ar Q az (ar Q az (ar Q az (ar Q az (ar Q kR jM)))))))) (fW (.cons bU .nil) fun _=>bU)) (fun _ _=>?_)
 refine el H fun tc hac H=>cx 1 [0] (cL 8) (gG.c hac) nofun fun gb _=>?_
 refine go 1<|dV Q T Q Q<|dV Q T Q Q<|dV Q T Q Q<|al Q T KY nofun fun ba=>al Q T F4 nofun fun bc=>sy 1 ?_
 refine sy 0 ?_
 refine go 1<|WP.seq<|so<|ce H ?_ ?_ <;> intro H
 ·
  refine sp ?_
  cases H.out; exact et () 8 [0,1,2,3,4,5,6,7] 7
 refine WP.skip<|wr 3 0<|go 1<|el H fun te had H=>cl Q (cL 13) Q (il.c had)<|go 1<|wr 3 0<|go 1<|el H fun tg hae H=>cl Q (cL 10) Q (br.c hae)<|go 1<|so<|so<|WP.sT H id (fun pa=>[(13,dR ba),(14,dR bc),(16,vS te),(17,vI tg),(18,vI pa.1),(19,sl MK.K pa.2.1)]) (fun pa=>[aC bc 43 [sl aK.K pa.2.2.2.2.1.fV.fD,sl MK.K pa.2.2.2.2.1.fM,sl ak.K pa.2.2.2.2.1.fT.fL,sl bJ pa.2.2.2.2.1.fT.cH,sl ak.K pa.2.2.2.2.1.fP.fL,sl (bz .i64) pa.2.2.2.2.1.fP.cH,sl jO.K pa.2.2.2.2.1.fL,vI pa.2.2.2.2.1.aL],aC ba 30 [eq gb.1.1,eq gb.2.1.1,eq gb.2.2.1.1,eq gb.2.2.2.1.1,eq gb.2.2.2.2.1],aJ.O gb.1 pa.2.2.2.2.2.1,jA.O gb.2.1 pa.2.2.2.2.2.2.1,bS.O gb.2.2.1 pa.2.2.2.2.2.2.2.1,b7.O gb.2.2.2.1 pa.2.2.2.2.2.2.2.2.1,b8.O gb.2.2.2.2 pa.2.2.2.2.2.2.2.2.2,lax]++F) (fun pa H=>?_) (fun H=>?_)
 ·
  refine wr 11 784<|gl 4 [1]<|el H fun tj haf H=>cx 8 [2,3,4,5,6,0,1,7] (cL 14) (sync_Make.c haf (p0_0:=gb.1) (p0_1:=gb.2.1) (p0_2:=gb.2.2.1) (p0_3:=gb.2.2.2.1) (p0_4:=gb.2.2.2.2)) nofun fun _ _=>?_
  refine go 1<|dV Q T Q Q<|dV Q T Q Q<|al Q T Ex nofun fun bd=>sy 0 ?_
  refine go 1<|wr 4 12<|gl 1 [0]<|el H fun tm hag H=>cl Q (cL 17) Q (ey.c hag)<|al Q T Ax nofun fun be=>sy 0 ?_
  refine .fin<|WP.jh H id (fun pc=>[(13,dR ba),(14,dR bc),(16,vS te),(17,vI tg),(19,sl MK.K pc.1),(30,dR bd),(31,vI tj.2)]) (fun pc=>[aC be 66 (oJ.enc tm),aC bd 59 (uN.enc tj.1),aC bc 43 [sl aK.K pa.2.2.2.2.1.fV.fD,sl MK.K pa.2.2.2.2.1.fM,sl ak.K pa.2.2.2.2.1.fT.fL,sl bJ pa.2.2.2.2.1.fT.cH,sl ak.K pa.2.2.2.2.1.fP.fL,sl (bz .i64) pa.2.2.2.2.1.fP.cH,sl jO.K pa.2.2.2.2.1.fL,vI pa.2.2.2.2.1.aL],aC ba 30 [eq gb.1.1,eq gb.2.1.1,eq gb.2.2.1.1,eq gb.2.2.2.1.1,eq gb.2.2.2.2.1],aJ.O gb.1 pa.2.2.2.2.2.1,jA.O gb.2.1 pa.2.2.2.2.2.2.1,bS.O gb.2.2.1 pa.2.2.2.2.2.2.2.1,b7.O gb.2.2.2.1 pa.2.2.2.2.2.2.2.2.1,b8.O gb.2.2.2.2 pa.2.2.2.2.2.2.2.2.2,lax]++F) (fun pc H=>?_) (fun H=>?_)
  rotate_left
  ·
   refine so<|WP.block<|ws 10 [0,1,7,8,2,3,4,5,6,9] 0 ?_
   refine lq (fun j_ (pe:(List MK)×Int)=>aF.l0 k tm j_ pe.1 pe.2) (pa.2.1,0) H [13,14,16,17,30,31,32] (fun pe=>[(19,sl MK.K pe.1),(33,vI pe.2)]) (fun _=>[]) ?_
   rintro j_ ⟨xc,xd⟩ H
   rcases j_ with _ | ja
   ·
    exact (aU.no H).elim
   try dsimp only at H
   rw [aF.l0] at H
   refine WP.seq<|wr 5 0<|gl 3 [0]<|Dv.fj Q T Q mc<|go 1<|cf H ?_ ?_ <;> intro H
   ·
    refine WP.exit ?_
    have H:=H.out
    exact jn (xc,xd,decide (xd<(tm.ay.length:Int))) H
   exact WP.skip<|WP.seq<|WP.block<|wd mX 19 0<|gl 4 [0]<|gr H fun gi H=>Dv.fR Q T Q Q mc pV ru gi.1 gi.2<|fr Q T Q oq Q<|iv Q T Q xE Q<|gl 3 [0]<|gr H fun gj H=>Dv.fR Q T Q Q mc pV ru gj.1 gj.2<|fr Q T Q nN Q<|iv Q T Q uQ Q<|el H fun tn hah H=>cl Q (cL 25) Q (eZ.c hah)<|go 1<|dV Q T Q Q<|dV Q T Q Q<|go 2<|rg 2 0<|go 2<|rg 3 0<|go 3<|bk ja (tn.1,av (xd+1)) H
  refine wr 10 384<|gl 3 [2]<|el H fun tp hai H=>cl Q (cL 15) Q (bu.c hai)<|go 1<|dV Q T Q Q<|dV Q T Q Q<|al Q T Ax nofun fun bg=>sy 0 ?_
  refine go 1<|wr 12 1568<|gl 5 [4,2]<|el H fun tq haj H=>cx 11 [5,6,7,8,9,0,1,2,3,4,10] (cL 14) (sync_Make.c haj (p0_0:=gb.1) (p0_1:=gb.2.1) (p0_2:=gb.2.2.1) (p0_3:=gb.2.2.2.1) (p0_4:=gb.2.2.2.2)) nofun fun _ _=>?_
  refine go 1<|dV Q T Q Q<|dV Q T Q Q<|al Q T Ex nofun fun bh=>sy 0 ?_
  refine go 1<|wr 38 0<|gp 3 ?_
  rcases bm H with ⟨cc,H⟩ | ⟨cc,H⟩
  ·
   refine sh 208 cc ?_
   refine sh 209 cc ?_
   refine gq 35 ?_
   cases H.out; exact et () 12 [0,1,2,3,4,5,6,7,8,9,10,11] 11
  refine sh 208 cc ?_
  refine sh 209 cc ?_
  refine gp 4 ?_
  rcases bm H with ⟨cg,H⟩ | ⟨cg,H⟩
  ·
   refine sh 211 cg ?_
   refine sh 212 cg ?_
   refine sh 213 cg ?_
   refine gq 31 ?_
   cases H.out; exact et () 12 [0,1,2,3,4,5,6,7,8,9,10,11] 11
  refine sh 211 cg ?_
  refine sh 212 cg ?_
  refine sh 213 cg ?_
  refine gl 3 [6]<|el H fun tu hak H=>Dv.call Q (gg Q) (cL 26) Q (ic.c hak)<|gp 2 ?_
  rcases bm H with ⟨ci,H⟩ | ⟨ci,H⟩
  ·
   refine sh 217 ci ?_
   refine sh 218 ci ?_
   refine sh 219 ci ?_
   refine gq 25 ?_
   cases H.out; exact et () 12 [0,1,2,3,4,5,6,7,8,9,10,11] 11
  refine sh 217 ci ?_
  refine sh 218 ci ?_
  refine sh 219 ci ?_
  refine gp 4 ?_
  rcases bm H with ⟨cj,H⟩ | ⟨cj,H⟩
  ·
   refine sh 221 cj ?_
   refine sh 222 cj ?_
   refine sh 223 cj ?_
   refine gq 21 ?_
   cases H.out; exact et () 12 [0,1,2,3,4,5,6,7,8,9,10,11] 11
  refine sh 221 cj ?_
  refine sh 222 cj ?_
  refine sh 223 cj ?_
  refine gl 2 [0]<|Dv.fj Q (gg Q) Q JQ<|gp 3 ?_
  rcases bm H with ⟨ck,H⟩ | ⟨ck,H⟩
  ·
   refine sh 227 ck ?_
   refine sh 228 ck ?_
   refine sh 229 ck ?_
   refine gq 15 ?_
   cases H.out; exact et () 12 [0,1,2,3,4,5,6,7,8,9,10,11] 11
  refine sh 227 ck ?_
  refine sh 228 ck ?_
  refine sh 229 ck ?_
  refine gl 2 [0]<|Dv.fj Q (gg Q) Q Ls<|gp 3 ?_
  rcases bm H with ⟨cn,H⟩ | ⟨cn,H⟩
  ·
   refine sh 233 cn ?_
   refine sh 234 cn ?_
   refine sh 235 cn ?_
   refine gq 9 ?_
   cases H.out; exact et () 12 [0,1,2,3,4,5,6,7,8,9,10,11] 11
  refine sh 233 cn ?_
  refine sh 234 cn ?_
  refine sh 235 cn ?_
  refine gl 2 [0]<|Dv.fj Q (gg Q) Q Kv<|gp 3 ?_
  rcases bm H with ⟨co,H⟩ | ⟨co,H⟩
  ·
   refine sh 239 co ?_
   refine sh 240 co ?_
   refine sh 241 co ?_
   refine gq 3 ?_
   cases H.out; exact et () 12 [0,1,2,3,4,5,6,7,8,9,10,11] 11
  refine sh 239 co ?_
  refine sh 240 co ?_
  refine sh 241 co ?_
  refine el H fun tw ham H=>pN 12 [11,0,1,2,3,4,5,6,7,8,9,10] (cL 22) (oU.c ham) ?_
  refine gq 2 ?_
  cases H.out; exact et () 12 [0,1,2,3,4,5,6,7,8,9,10,11] 11
 refine so<|WP.block<|WP.gh (GF (E':=[(2,sl ak.K a2),(3,sl bJ a3),(13,dR ba),(14,dR bc),(16,vS te),(17,vI tg),(18,vI 0),(19,sl MK.K ([]:List MK)),(20,vI 0)]) (l':=[aC bc 43 [sl aK.K tc.2.1.fV.fD,sl MK.K tc.2.1.fM,sl ak.K tc.2.1.fT.fL,sl bJ tc.2.1.fT.cH,sl ak.K tc.2.1.fP.fL,sl (bz .i64) tc.2.1.fP.cH,sl jO.K tc.2.1.fL,vI tc.2.1.aL],aC ba 30 [eq gb.1.1,eq gb.2.1.1,eq gb.2.2.1.1,eq gb.2.2.2.1.1,eq gb.2.2.2.2.1],aJ.O gb.1 tc.1.cI,jA.O gb.2.1 tc.1.ay,bS.O gb.2.2.1 tc.1.aO,b7.O gb.2.2.2.1 tc.1.aR,b8.O gb.2.2.2.2 tc.1.fZ,lax]++F) (fx Q bQ (fx Q bQ (fx Q bQ (fx Q bQ (fx Q bQ (fx Q bQ (fx Q bQ (fx Q cR (fx Q bQ zS))))))))) (fW (.cons mr (.cons mr (.cons mr (.cons mr (.cons mr (.cons mr (.cons mr (.cons mr .nil)))))))) fun _=>mr)) (fun _ _=>?_)
 refine ws 8 [0,1,2,3,4,5,6,7] 0 ?_
 refine lq (fun j_ (pg:Int×(List MK)×Int×dy×aJ×jA×bS×b7×b8)=>aF.l1 k a2 a3 te tg j_ pg.1 pg.2.1 pg.2.2.1 pg.2.2.2.1 pg.2.2.2.2.1 pg.2.2.2.2.2.1 pg.2.2.2.2.2.2.1 pg.2.2.2.2.2.2.2.1 pg.2.2.2.2.2.2.2.2) (0,([]:List MK),0,(⟨tc.2.1.fV,tc.2.1.fM,tc.2.1.fT,tc.2.1.fP,tc.2.1.fL,tc.2.1.aL⟩:dy),tc.1.cI,tc.1.ay,tc.1.aO,tc.1.aR,tc.1.fZ) H [2,3,13,14,16,17] (fun pg=>[(18,vI pg.1),(19,sl MK.K pg.2.1),(20,vI pg.2.2.1)]) (fun pg=>[(0,aC bc 43 [sl aK.K pg.2.2.2.1.fV.fD,sl MK.K pg.2.2.2.1.fM,sl ak.K pg.2.2.2.1.fT.fL,sl bJ pg.2.2.2.1.fT.cH,sl ak.K pg.2.2.2.1.fP.fL,sl (bz .i64) pg.2.2.2.1.fP.cH,sl jO.K pg.2.2.2.1.fL,vI pg.2.2.2.1.aL]),(2,aJ.O gb.1 pg.2.2.2.2.1),(3,jA.O gb.2.1 pg.2.2.2.2.2.1),(4,bS.O gb.2.2.1 pg.2.2.2.2.2.2.1),(5,b7.O gb.2.2.2.1 pg.2.2.2.2.2.2.2.1),(6,b8.O gb.2.2.2.2 pg.2.2.2.2.2.2.2.2)]) ?_
 rintro j_ ⟨xe,xf,xg,xi,xj,xk,xn,xo,xp⟩ H
 rcases j_ with _ | jc
 ·
  exact (aU.no H).elim
 try dsimp only at H
 rw [aF.l1] at H
 refine WP.seq<|wr 8 0<|go 2<|Dv.fj Q T Q eW<|gp 2 ?_
 rcases bm H with ⟨cp,H⟩ | ⟨cp,H⟩
 ·
  refine sh 57 cp ?_
  refine sh 58 cp ?_
  refine go 3<|WP.cond Q nofun (fun _=>?_)
  refine WP.exit ?_
  have H:=H.out
  exact jn (xe,xf,xg,false,(⟨xi.fV,xi.fM,xi.fT,xi.fP,xi.fL,xi.aL⟩:dy),xj,xk,xn,xo,xp) H
 refine sh 57 cp ?_
 refine sh 58 cp ?_
 refine go 3<|cf H ?_ ?_ <;> intro H
 ·
  refine WP.exit ?_
  have H:=H.out
  exact jn (xe,xf,xg,decide (xg<10),(⟨xi.fV,xi.fM,xi.fT,xi.fP,xi.fL,xi.aL⟩:dy),xj,xk,xn,xo,xp) H
 refine WP.skip<|WP.sT H id (fun ph=>[(2,sl ak.K a2),(3,sl bJ a3),(13,dR ba),(14,dR bc),(16,vS te),(17,vI tg),(18,vI ph.1),(19,sl MK.K ph.2.1),(20,vI xg)]) (fun ph=>[aC bc 43 [sl aK.K ph.2.2.2.2.2.1.fV.fD,sl MK.K ph.2.2.2.2.2.1.fM,sl ak.K ph.2.2.2.2.2.1.fT.fL,sl bJ ph.2.2.2.2.2.1.fT.cH,sl ak.K ph.2.2.2.2.2.1.fP.fL,sl (bz .i64) ph.2.2.2.2.2.1.fP.cH,sl jO.K ph.2.2.2.2.2.1.fL,vI ph.2.2.2.2.2.1.aL],aC ba 30 [eq gb.1.1,eq gb.2.1.1,eq gb.2.2.1.1,eq gb.2.2.2.1.1,eq gb.2.2.2.2.1],aJ.O gb.1 ph.2.2.2.2.2.2.1,jA.O gb.2.1 ph.2.2.2.2.2.2.2.1,bS.O gb.2.2.1 ph.2.2.2.2.2.2.2.2.1,b7.O gb.2.2.2.1 ph.2.2.2.2.2.2.2.2.2.1,b8.O gb.2.2.2.2 ph.2.2.2.2.2.2.2.2.2.2,lax]++F) (fun ph H=>?_) (fun H=>?_)
 ·
  exact rg 3 0<|go 3<|bk jc (ph.1,ph.2.1,av (xg+1),(⟨ph.2.2.2.2.2.1.fV,ph.2.2.2.2.2.1.fM,ph.2.2.2.2.2.1.fT,ph.2.2.2.2.2.1.fP,ph.2.2.2.2.2.1.fL,ph.2.2.2.2.2.1.aL⟩:dy),ph.2.2.2.2.2.2.1,ph.2.2.2.2.2.2.2.1,ph.2.2.2.2.2.2.2.2.1,ph.2.2.2.2.2.2.2.2.2.1,ph.2.2.2.2.2.2.2.2.2.2) H
 refine WP.block<|WP.seq<|WP.dgf (kf:=11) mX [(0,false),(1,false),(2,false),(3,false),(4,false),(5,false),(6,false),(7,true),(8,false),(9,false),(10,false)] [(12,true),(13,false)] Q kr<|gl 4 [1,0]<|gr H fun gk H=>Dv.fR Q T Q Q eW gN iy gk.1 gk.2<|iv Q T Q uZ Q<|el H fun tx han H=>cl Q (cL 12) Q (lN.c han)<|Dv.float ?_ (fun hk_=>?_)
 ·
  refine Ds Q T F4 pU (fun bi=>?_)
  refine el H fun tz hao H=>cx 9 [8,3,4,5,6,7,0,1,2] (cL 11) (nj.c hao (p0_0:=gb.1) (p0_1:=gb.2.1) (p0_2:=gb.2.2.1) (p0_3:=gb.2.2.2.1) (p0_4:=gb.2.2.2.2)) pC fun _ _=>?_
  refine go 1<|dV Q T Q Q<|dV Q T Q Q<|sx 6 Q T Q Q cA Ii Q Q Q pD ?_
  refine go 1<|WP.seq<|so<|ce H ?_ ?_ <;> intro H
  ·
   refine sp ?_
   have H:=H.eR
   have H:=H.eR
   cases H.out; exact et () 9 [1,2,3,4,5,6,7,8,0] 8
  refine WP.skip<|wr 2 2<|gl 1 [6]<|sy 7 ?_
  refine .fin<|wr 14 0<|go 2<|Dv.fj Q T Q rl<|gp 2 ?_
  rcases bm H with ⟨cq,H⟩ | ⟨cq,H⟩
  ·
   refine sh 81 cq ?_
   refine sh 82 cq ?_
   refine go 9<|WP.cond Q nofun (fun _=>?_)
   refine WP.skip ?_
   have H:=H.out
   refine ns 9 [6,7,8,1,2,3,4,5,0] 1 ?_
   exact jn (xe,xf,tz.2.1,!tz.2.1,false,(⟨tz.1.fV,tz.1.fM,tz.1.fT,tz.1.fP,tz.1.fL,tz.1.aL⟩:dy),tz.2.2.cI,tz.2.2.ay,tz.2.2.aO,tz.2.2.aR,tz.2.2.fZ) H
  refine sh 81 cq ?_
  refine sh 82 cq ?_
  refine go 3<|Dv.fj Q (gg Q) Q rl<|go 1<|Dv.Lm Q (gg Q) Q Q<|gr H fun gm H=>Dv.fR Q (gg Q) Q Q rl U4 c4 gm.1 gm.2<|kI Q (gg Q) Q sc4 Q<|go 1<|cf H ?_ ?_ <;> intro H
  ·
   refine WP.skip ?_
   have H:=H.out
   refine ns 9 [6,7,8,1,2,3,4,5,0] 1 ?_
   exact jn (xe,xf,tz.2.1,!tz.2.1,bJ.at a3 (min xg (av ((a3.length:Int)-1))),(⟨tz.1.fV,tz.1.fM,tz.1.fT,tz.1.fP,tz.1.fL,tz.1.aL⟩:dy),tz.2.2.cI,tz.2.2.ay,tz.2.2.aO,tz.2.2.aR,tz.2.2.fZ) H
  refine wr 11 784<|gl 4 [8]<|el H fun taa hap H=>cx 9 [1,2,3,4,5,0,6,7,8] (cL 14) (sync_Make.c hap (p0_0:=gb.1) (p0_1:=gb.2.1) (p0_2:=gb.2.2.1) (p0_3:=gb.2.2.2.1) (p0_4:=gb.2.2.2.2)) nofun fun _ _=>?_
  refine go 1<|dV Q T Q Q<|dV Q T Q Q<|al Q T Ex nofun fun bj=>sy 0 ?_
  refine go 1<|WP.seq<|so<|ce H ?_ ?_ <;> intro H
  ·
   refine sp ?_
   have H:=H.eR
   have H:=H.eR
   cases H.out; exact et () 10 [0,1,2,3,4,5,7,8,9,6] 9
  refine WP.skip<|wr 4 12<|gl 1 [0]<|el H fun tac haq H=>cl Q (cL 17) Q (ey.c haq)<|al Q T Ax nofun fun bl=>sy 0 ?_
  refine .fin<|WP.sT H id (fun pi=>[(2,sl ak.K a2),(3,sl bJ a3),(13,dR ba),(14,dR bc),(16,vS te),(17,vI tg),(19,sl MK.K pi.1),(20,vI xg),(23,dR bj)]) (fun pi=>[aC bl 66 (oJ.enc tac),aC bj 59 (uN.enc taa.1),aC bi 43 [sl aK.K tz.1.fV.fD,sl MK.K tz.1.fM,sl ak.K tz.1.fT.fL,sl bJ tz.1.fT.cH,sl ak.K tz.1.fP.fL,sl (bz .i64) tz.1.fP.cH,sl jO.K tz.1.fL,vI tz.1.aL],aC bc 43 [sl aK.K tz.1.fV.fD,sl MK.K tz.1.fM,sl ak.K tz.1.fT.fL,sl bJ tz.1.fT.cH,sl ak.K tz.1.fP.fL,sl (bz .i64) tz.1.fP.cH,sl jO.K tz.1.fL,vI tz.1.aL],aC ba 30 [eq gb.1.1,eq gb.2.1.1,eq gb.2.2.1.1,eq gb.2.2.2.1.1,eq gb.2.2.2.2.1],aJ.O gb.1 tz.2.2.cI,jA.O gb.2.1 tz.2.2.ay,bS.O gb.2.2.1 tz.2.2.aO,b7.O gb.2.2.2.1 tz.2.2.aR,b8.O gb.2.2.2.2 tz.2.2.fZ,lax]++F) (fun pi H=>?_) (fun H=>?_)
  ·
   refine rg 3 0<|Es 3 [1] ?_
   have H:=H.out
   refine ns 11 [0,1,2,3,4,5,6,7,8,9,10] 3 ?_
   exact jn (taa.1.jD,pi.1,tz.2.1,!tz.2.1,bJ.at a3 (min xg (av ((a3.length:Int)-1))),(⟨tz.1.fV,tz.1.fM,tz.1.fT,tz.1.fP,tz.1.fL,tz.1.aL⟩:dy),tz.2.2.cI,tz.2.2.ay,tz.2.2.aO,tz.2.2.aR,tz.2.2.fZ) H
  refine so<|WP.block<|ws 11 [0,1,8,9,10,2,3,4,5,6,7] 0 ?_
  refine lq (fun j_ (pj:(List MK)×Int)=>aF.l2 k tac j_ pj.1 pj.2) (xf,0) H [2,3,13,14,16,17,20,23,25] (fun pj=>[(19,sl MK.K pj.1),(26,vI pj.2)]) (fun _=>[]) ?_
  rintro j_ ⟨xq,xr⟩ H
  rcases j_ with _ | jd
  ·
   exact (aU.no H).elim
  try dsimp only at H
  rw [aF.l2] at H
  refine WP.seq<|wr 5 0<|gl 3 [0]<|Dv.fj Q T Q mc<|go 1<|cf H ?_ ?_ <;> intro H
  ·
   refine WP.exit ?_
   have H:=H.out
   exact jn (xq,xr,decide (xr<(tac.ay.length:Int))) H
  refine WP.skip<|WP.seq<|WP.block<|wr 9 0<|gl 4 [0]<|gr H fun gn H=>Dv.fR Q T Q Q mc pV ru gn.1 gn.2<|fr Q T Q oq Q<|iv Q T Q xE Q<|el H fun tad har H=>cl Q (cL 23) Q (eh.c har)<|go 1<|WP.seq<|wd mX 17 0<|gp 3 ?_
  cases cr:decide (0≤tad)
  ·
   have H:=H.cf cr
   refine go 14<|WP.cond Q nofun (fun _=>?_)
   exact WP.skip<|wd mX 19 0<|gl 4 [0]<|gr H fun gu H=>Dv.fR Q T Q Q mc pV ru gu.1 gu.2<|fr Q T Q oq Q<|iv Q T Q xE Q<|gl 3 [0]<|gr H fun gv H=>Dv.fR Q T Q Q mc pV ru gv.1 gv.2<|fr Q T Q nN Q<|iv Q T Q uQ Q<|el H fun tae hau H=>cl Q (cL 25) Q (eZ.c hau)<|go 1<|dV Q T Q Q<|dV Q T Q Q<|go 2<|rg 2 0<|go 2<|rg 3 0<|go 3<|bk jd (tae.1,av (xr+1)) H
  have H:=H.ct cr
  refine gl 3 [0]<|gr H fun gw H=>Dv.fR Q (gg Q) Q Q mc pV ru gw.1 gw.2<|fr Q (gg Q) Q nN Q<|iv Q (gg Q) Q uQ Q<|go 2<|Dv.EG Q (gg Q) Q Q<|gr H fun gy H=>Dv.fR Q (gg Q) Q Q mc pV ru gy.1 gy.2<|fr Q (gg Q) Q nN Q<|iv Q (gg Q) Q uQ Q<|el H fun taf hav H=>Dv.call Q (gg Q) (cL 24) Q (fH.c hav)<|go 1<|ce H ?_ ?_ <;> intro H
  ·
   refine sp ?_
   have H:=H.eR
   have H:=H.eR
   have H:=H.eR
   cases H.out; exact et () 11 [0,1,2,3,4,5,6,7,8,9,10] 10
  exact WP.skip<|wd mX 19 0<|gl 4 [0]<|gr H fun gz H=>Dv.fR Q T Q Q mc pV ru gz.1 gz.2<|fr Q T Q oq Q<|iv Q T Q xE Q<|gl 3 [0]<|gr H fun gaa H=>Dv.fR Q T Q Q mc pV ru gaa.1 gaa.2<|fr Q T Q nN Q<|iv Q T Q uQ Q<|el H fun tag haw H=>cl Q (cL 25) Q (eZ.c haw)<|go 1<|dV Q T Q Q<|dV Q T Q Q<|go 2<|rg 2 0<|go 2<|rg 3 0<|go 3<|bk jd (tag.1,av (xr+1)) H
 refine el H fun tah hax H=>cx 8 [7,2,3,4,5,6,0,1] (cL 11) (nj.c hax (p0_0:=gb.1) (p0_1:=gb.2.1) (p0_2:=gb.2.2.1) (p0_3:=gb.2.2.2.1) (p0_4:=gb.2.2.2.2)) pC fun _ _=>?_
 refine go 1<|dV Q T Q Q<|dV Q T Q Q<|.fin<|Ds Q T F4 pU (fun bn=>?_)
 refine sx 0 Q T Q Q cA Ii Q Q Q pD ?_
 refine go 1<|WP.seq<|so<|ce H ?_ ?_ <;> intro H
 ·
  refine sp ?_
  have H:=H.eR
  have H:=H.eR
  cases H.out; exact et () 9 [0,2,3,4,5,6,7,8,1] 8
 refine WP.skip<|wr 2 2<|gl 1 [0]<|sy 7 ?_
 refine .fin<|wr 14 0<|go 2<|Dv.fj Q T Q rl<|gp 2 ?_
 rcases bm H with ⟨cq,H⟩ | ⟨cq,H⟩
 ·
  refine sh 81 cq ?_
  refine sh 82 cq ?_
  refine go 9<|WP.cond Q nofun (fun _=>?_)
  refine WP.skip ?_
  have H:=H.out
  refine ns 9 [0,7,8,2,3,4,5,6,1] 1 ?_
  exact jn (xe,xf,tah.2.1,!tah.2.1,false,(⟨tah.1.fV,tah.1.fM,tah.1.fT,tah.1.fP,tah.1.fL,tah.1.aL⟩:dy),tah.2.2.cI,tah.2.2.ay,tah.2.2.aO,tah.2.2.aR,tah.2.2.fZ) H
 refine sh 81 cq ?_
 refine sh 82 cq ?_
 refine go 3<|Dv.fj Q (gg Q) Q rl<|go 1<|Dv.Lm Q (gg Q) Q Q<|gr H fun gm H=>Dv.fR Q (gg Q) Q Q rl U4 c4 gm.1 gm.2<|kI Q (gg Q) Q sc4 Q<|go 1<|cf H ?_ ?_ <;> intro H
 ·
  refine WP.skip ?_
  have H:=H.out
  refine ns 9 [0,7,8,2,3,4,5,6,1] 1 ?_
  exact jn (xe,xf,tah.2.1,!tah.2.1,bJ.at a3 (min xg (av ((a3.length:Int)-1))),(⟨tah.1.fV,tah.1.fM,tah.1.fT,tah.1.fP,tah.1.fL,tah.1.aL⟩:dy),tah.2.2.cI,tah.2.2.ay,tah.2.2.aO,tah.2.2.aR,tah.2.2.fZ) H
 refine wr 11 784<|gl 4 [8]<|el H fun taa hap H=>cx 9 [2,3,4,5,6,0,1,7,8] (cL 14) (sync_Make.c hap (p0_0:=gb.1) (p0_1:=gb.2.1) (p0_2:=gb.2.2.1) (p0_3:=gb.2.2.2.1) (p0_4:=gb.2.2.2.2)) nofun fun _ _=>?_
 refine go 1<|dV Q T Q Q<|dV Q T Q Q<|al Q T Ex nofun fun bj=>sy 0 ?_
 refine go 1<|WP.seq<|so<|ce H ?_ ?_ <;> intro H
 ·
  refine sp ?_
  have H:=H.eR
  have H:=H.eR
  cases H.out; exact et () 10 [0,1,2,3,4,5,6,8,9,7] 9
 refine WP.skip<|wr 4 12<|gl 1 [0]<|el H fun tac haq H=>cl Q (cL 17) Q (ey.c haq)<|al Q T Ax nofun fun bl=>sy 0 ?_
 refine .fin<|WP.sT H id (fun pi=>[(2,sl ak.K a2),(3,sl bJ a3),(13,dR ba),(14,dR bc),(16,vS te),(17,vI tg),(19,sl MK.K pi.1),(20,vI xg),(23,dR bj)]) (fun pi=>[aC bl 66 (oJ.enc tac),aC bj 59 (uN.enc taa.1),aC bn 43 [sl aK.K tah.1.fV.fD,sl MK.K tah.1.fM,sl ak.K tah.1.fT.fL,sl bJ tah.1.fT.cH,sl ak.K tah.1.fP.fL,sl (bz .i64) tah.1.fP.cH,sl jO.K tah.1.fL,vI tah.1.aL],aC bc 43 [sl aK.K tah.1.fV.fD,sl MK.K tah.1.fM,sl ak.K tah.1.fT.fL,sl bJ tah.1.fT.cH,sl ak.K tah.1.fP.fL,sl (bz .i64) tah.1.fP.cH,sl jO.K tah.1.fL,vI tah.1.aL],aC ba 30 [eq gb.1.1,eq gb.2.1.1,eq gb.2.2.1.1,eq gb.2.2.2.1.1,eq gb.2.2.2.2.1],aJ.O gb.1 tah.2.2.cI,jA.O gb.2.1 tah.2.2.ay,bS.O gb.2.2.1 tah.2.2.aO,b7.O gb.2.2.2.1 tah.2.2.aR,b8.O gb.2.2.2.2 tah.2.2.fZ,lax]++F) (fun pi H=>?_) (fun H=>?_)
 ·
  refine rg 3 0<|Es 3 [1] ?_
  have H:=H.out
  refine ns 11 [0,1,2,3,4,5,6,7,8,9,10] 3 ?_
  exact jn (taa.1.jD,pi.1,tah.2.1,!tah.2.1,bJ.at a3 (min xg (av ((a3.length:Int)-1))),(⟨tah.1.fV,tah.1.fM,tah.1.fT,tah.1.fP,tah.1.fL,tah.1.aL⟩:dy),tah.2.2.cI,tah.2.2.ay,tah.2.2.aO,tah.2.2.aR,tah.2.2.fZ) H
 refine so<|WP.block<|ws 11 [0,1,7,9,10,2,3,4,5,6,8] 0 ?_
 refine lq (fun j_ (pj:(List MK)×Int)=>aF.l2 k tac j_ pj.1 pj.2) (xf,0) H [2,3,13,14,16,17,20,23,25] (fun pj=>[(19,sl MK.K pj.1),(26,vI pj.2)]) (fun _=>[]) ?_
 rintro j_ ⟨xq,xr⟩ H
 rcases j_ with _ | jd
 ·
  exact (aU.no H).elim
 try dsimp only at H
 rw [aF.l2] at H
 refine WP.seq<|wr 5 0<|gl 3 [0]<|Dv.fj Q T Q mc<|go 1<|cf H ?_ ?_ <;> intro H
 ·
  refine WP.exit ?_
  have H:=H.out
  exact jn (xq,xr,decide (xr<(tac.ay.length:Int))) H
 refine WP.skip<|WP.seq<|WP.block<|wr 9 0<|gl 4 [0]<|gr H fun gn H=>Dv.fR Q T Q Q mc pV ru gn.1 gn.2<|fr Q T Q oq Q<|iv Q T Q xE Q<|el H fun tad har H=>cl Q (cL 23) Q (eh.c har)<|go 1<|WP.seq<|wd mX 17 0<|gp 3 ?_
 cases cr:decide (0≤tad)
 ·
  have H:=H.cf cr
  refine go 14<|WP.cond Q nofun (fun _=>?_)
  exact WP.skip<|wd mX 19 0<|gl 4 [0]<|gr H fun gu H=>Dv.fR Q T Q Q mc pV ru gu.1 gu.2<|fr Q T Q oq Q<|iv Q T Q xE Q<|gl 3 [0]<|gr H fun gv H=>Dv.fR Q T Q Q mc pV ru gv.1 gv.2<|fr Q T Q nN Q<|iv Q T Q uQ Q<|el H fun tae hau H=>cl Q (cL 25) Q (eZ.c hau)<|go 1<|dV Q T Q Q<|dV Q T Q Q<|go 2<|rg 2 0<|go 2<|rg 3 0<|go 3<|bk jd (tae.1,av (xr+1)) H
 have H:=H.ct cr
 refine gl 3 [0]<|gr H fun gw H=>Dv.fR Q (gg Q) Q Q mc pV ru gw.1 gw.2<|fr Q (gg Q) Q nN Q<|iv Q (gg Q) Q uQ Q<|go 2<|Dv.EG Q (gg Q) Q Q<|gr H fun gy H=>Dv.fR Q (gg Q) Q Q mc pV ru gy.1 gy.2<|fr Q (gg Q) Q nN Q<|iv Q (gg Q) Q uQ Q<|el H fun taf hav H=>Dv.call Q (gg Q) (cL 24) Q (fH.c hav)<|go 1<|ce H ?_ ?_ <;> intro H
 ·
  refine sp ?_
  have H:=H.eR
  have H:=H.eR
  have H:=H.eR
  cases H.out; exact et () 11 [0,1,2,3,4,5,6,7,8,9,10] 10
 exact WP.skip<|wd mX 19 0<|gl 4 [0]<|gr H fun gz H=>Dv.fR Q T Q Q mc pV ru gz.1 gz.2<|fr Q T Q oq Q<|iv Q T Q xE Q<|gl 3 [0]<|gr H fun gaa H=>Dv.fR Q T Q Q mc pV ru gaa.1 gaa.2<|fr Q T Q nN Q<|iv Q T Q uQ Q<|el H fun tag haw H=>cl Q (cL 25) Q (eZ.c haw)<|go 1<|dV Q T Q Q<|dV Q T Q Q<|go 2<|rg 2 0<|go 2<|rg 3 0<|go 3<|bk jd (tag.1,av (xr+1)) H
end Go.Proofs.YtfknmdelgepbjaaGreatDoor
