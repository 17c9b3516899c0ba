import Derived.Test.YtelcbdmigiacpaaGreatZWalks2
set_option linter.all false
set_option autoImplicit true
set_option maxRecDepth 10000
set_option maxHeartbeats 20000000
namespace Go.Proofs.YtelcbdmigiacpaaGreat
open Go Go.Sp Tryz
theorem bF.c {p0_:OV} (h:bF.f k a0 a1=some r):Tr prog 49 [eq p0_.1,agg (ak.enc a1)] [lax,bY.O p0_ a0] (γ:=Unit) (λ_=>True) (λg=>vI r.1) (λg=>[lax,bY.O p0_ r.2]):=by
 refine tf func49 h λR0 F H=>?_
 refine wr 2 1<|Dv.box Q T Q cA nofun λba=>go 1<|WP.seq<|wr 4 4<|gl 2 [0]<|el H λta haa H=>cx 3 [2,0,1] (cL 79) (ff.c haa (p0_:=p0_)) nofun λ_ _=>?_
 refine go 1<|so<|ce H ?_ ?_ <;> intro H
 ·refine sp ?_
  cases H.out;exact et () 3 [1,2,0] 1
 refine WP.skip<|wr 4 10<|go 1<|el H λtc hac H=>cx 3 [0,1,2] (cL 9) (gY.c hac (p0_:=p0_)) nofun λ_ _=>?_
 refine go 1<|sy 1 ?_
 refine .fin<|wr 10 528<|go 1<|Dv.mD bY.nn Q T Q (ab 0 Q)<|vg (bY.eF 0 Q) λgb had=>?_
 refine fp had Q T Q xV<|gl 1 [0]<|el H λte hae H=>cx 12 [2,0,1,3,4,5,6,7,8,9,10,11] (cL 80) (dy.c hae (p0_:=gb.2.2.1)) nofun λ_ _=>?_
 refine go 1<|dZ Q T Q Q<|dZ Q T Q Q<|go 1<|sy 10 ?_
 refine .fin<|wr 3 4<|gl 2 [10]<|vg (bY.shut (p:=p0_) (m:=(⟨a0.av,a0.aG,te.2.2,a0.fall,a0.aI,a0.aa⟩:bY)) (gb.1,gb.2.1,gb.2.2.1,gb.2.2.2.1,gb.2.2.2.2.1,gb.2.2.2.2.2.1,gb.2.2.2.2.2.2.1,gb.2.2.2.2.2.2.2.1,gb.2.2.2.2.2.2.2.2.1,gb.2.2.2.2.2.2.2.2.2) had (pm 12 [1,2,0,3,4,5,6,7,8,9,10,11])) λ_ _=>?_
 refine el H λtg haf H=>cx 3 [2,0,1] (cL 81) (iF.c haf (p0_:=p0_)) nofun λ_ _=>?_
 refine .fin<|WP.kW H (λqa:(Int×Int×Bool×bY×(List BA))×OV=>qa.1) (λqa=>[]) (λqa=>[ar ba 80 [vI a1.bf,vS a1.aj,vS a1.aC,vS a1.bP,vS a1.ah,vB a1.ay,vB a1.lO,vI a1.cX,vI a1.bU,vI tc,vI te.1],bY.O p0_ qa.1.2.2.2.1,lax,own az qa.2.1 qa.1.2.2.2.2]++F) (λqa H=>?_) (λH=>?_)
 ·obtain⟨pa,va⟩:=qa
  refine sp ?_
  cases H.out;exact et () 4 [0,3,2,1] 2
 refine WP.seq<|wg (bY.eF 1 Q) λgc hag=>?_
 refine dgo mX [0,1,2,3,4,5,6,7,8,9,12,10,11] [10]<|go 1<|Dv.aJ hag Q T Q<|fp hag Q T Q iS<|gl 3 [0]<|Dv.aJ hag Q T Q<|fp hag Q T Q xD<|gl 3 [0,11]<|el H λtj hah H=>Dv.lS (pre:=[au.O gc.2.2.2.1 tg.2.fall.aK]) (F:=[ar gc.1 102 [vS tg.2.av,eq gc.2.1.1,eq gc.2.2.1.1,eq gc.2.2.2.1.1,eq gc.2.2.2.2.1.1,eq gc.2.2.2.2.2.1.1,eq gc.2.2.2.2.2.2.1.1,eq gc.2.2.2.2.2.2.2.1.1,eq gc.2.2.2.2.2.2.2.2.1.1,eq gc.2.2.2.2.2.2.2.2.2.1],bI.O gc.2.1 tg.2.aG,bI.O gc.2.2.1 tg.2.aq,dE.O gc.2.2.2.2.1 tg.2.fall.aA,bG.O gc.2.2.2.2.2.1 tg.2.fall.ax,bJ.O gc.2.2.2.2.2.2.1 tg.2.fall.an,bE.O gc.2.2.2.2.2.2.2.1 tg.2.fall.bQ,Seen.O gc.2.2.2.2.2.2.2.2.1 tg.2.aI,iq Value.string aO.O gc.2.2.2.2.2.2.2.2.2.1 tg.2.aa,lax,ar ba 80 [vI a1.bf,vS a1.aj,vS a1.aC,vS a1.bP,vS a1.ah,vB a1.ay,vB a1.lO,vI a1.cX,vI a1.bU,vI tc,vI te.1]]++F) (λgi:OV=>[au.O gc.2.2.2.1 tg.2.fall.aK,own az gi.1 tj,ar gc.1 102 [vS tg.2.av,eq gc.2.1.1,eq gc.2.2.1.1,eq gc.2.2.2.1.1,eq gc.2.2.2.2.1.1,eq gc.2.2.2.2.2.1.1,eq gc.2.2.2.2.2.2.1.1,eq gc.2.2.2.2.2.2.2.1.1,eq gc.2.2.2.2.2.2.2.2.1.1,eq gc.2.2.2.2.2.2.2.2.2.1],bI.O gc.2.1 tg.2.aG,bI.O gc.2.2.1 tg.2.aq,dE.O gc.2.2.2.2.1 tg.2.fall.aA,bG.O gc.2.2.2.2.2.1 tg.2.fall.ax,bJ.O gc.2.2.2.2.2.2.1 tg.2.fall.an,bE.O gc.2.2.2.2.2.2.2.1 tg.2.fall.bQ,Seen.O gc.2.2.2.2.2.2.2.2.1 tg.2.aI,iq Value.string aO.O gc.2.2.2.2.2.2.2.2.2.1 tg.2.aa,lax,ar ba 80 [vI a1.bf,vS a1.aj,vS a1.aC,vS a1.bP,vS a1.ah,vB a1.ay,vB a1.lO,vI a1.cX,vI a1.bU,vI tc,vI te.1]]++F) Q T (cL 82) Q (lL.c hah (p0_:=gc.2.2.2.1)) (bN (L:=[ar gc.1 102 [vS tg.2.av,eq gc.2.1.1,eq gc.2.2.1.1,eq gc.2.2.2.1.1,eq gc.2.2.2.2.1.1,eq gc.2.2.2.2.2.1.1,eq gc.2.2.2.2.2.2.1.1,eq gc.2.2.2.2.2.2.2.1.1,eq gc.2.2.2.2.2.2.2.2.1.1,eq gc.2.2.2.2.2.2.2.2.2.1],bI.O gc.2.1 tg.2.aG,bI.O gc.2.2.1 tg.2.aq,au.O gc.2.2.2.1 tg.2.fall.aK,dE.O gc.2.2.2.2.1 tg.2.fall.aA,bG.O gc.2.2.2.2.2.1 tg.2.fall.ax,bJ.O gc.2.2.2.2.2.2.1 tg.2.fall.an,bE.O gc.2.2.2.2.2.2.2.1 tg.2.fall.bQ,Seen.O gc.2.2.2.2.2.2.2.2.1 tg.2.aI,iq Value.string aO.O gc.2.2.2.2.2.2.2.2.2.1 tg.2.aa,lax,ar ba 80 [vI a1.bf,vS a1.aj,vS a1.aC,vS a1.bP,vS a1.ah,vB a1.ay,vB a1.lO,vI a1.cX,vI a1.bU,vI tc,vI te.1]]) (F:=F) [3,0,1,2,4,5,6,7,8,9,10,11] kr Q Q) Q pE (λgi _=>?_)
 refine Dv.kl Q T Q (ab 1 Q) iu<|.fin<|WP.block<|wg (bY.shut (p:=p0_) (m:=tg.2) (gc.1,gc.2.1,gc.2.2.1,gc.2.2.2.1,gc.2.2.2.2.1,gc.2.2.2.2.2.1,gc.2.2.2.2.2.2.1,gc.2.2.2.2.2.2.2.1,gc.2.2.2.2.2.2.2.2.1,gc.2.2.2.2.2.2.2.2.2) hag (pm 13 [2,3,4,0,5,6,7,8,9,10,1,11,12])) λ_ _=>?_
 refine ws 4 [3,0,1,2] 0 ?_
 refine lq (λj_ (pc:Int×bY)=>bF.l0 k a1 tc te tj j_ pc.1 pc.2) (0,tg.2) H [0,3,39,40] (λpc=>[(41,vI pc.1)]) (λpc=>[(1,bY.O p0_ pc.2)]) ?_
 rintro j_ ⟨xa,xb⟩ H
 rcases j_ with _ | ja
 ·exact(aW.no H).elim
 try dsimp only at H
 rw [bF.l0] at H
 refine so<|WP.seq<|cf H ?_ ?_ <;> intro H
 ·refine WP.exit ?_
  have H:=H.out
  refine ns 4 [0,1,3,2] 0 ?_
  exact jn (((tj.length:Int),xa,decide (xa<(tj.length:Int)),xb,tj),gi) H
 refine WP.skip<|WP.seq<|WP.block<|wr 3 0<|gr H λgj H=>?_
 have hai:xa.toNat<tj.length:=cQ gj
 refine Dv.na Q T Q (ab 2 Q) Q iu U9 c9 gj.1 gj.2<|Dv.D5 (j:=xa.toNat) (f:=0) (p:=vS (tj.getD xa.toNat default)) Q T Q (ab 2 Q) hai U9 Q Q<|go 1<|WP.seq<|wr 7 0<|go 1<|Dv.mD bY.nn Q T Q (ab 1 Q)<|vg (bY.eF 1 Q) λgk haj=>?_
 refine fp haj Q T Q p9<|gl 2 [0]<|vg (kn 9 Q) λza hak=>?_
 refine Dv.Be dK Q T Q (ab 0 Q) Q yW (dP U9) GX (λ_=>Q)<|Dv.pm0 (xP hak Q) Q T Q Q U104<|.fin<|cf H ?_ ?_ <;> intro H
 ·refine WP.skip<|gr H λgn H=>wg (oi hak Q gn (pm 14 [1,0,2,3,4,5,6,7,8,9,10,11,12,13])) λ_ _=>?_
  refine wg (aO.eF 0 Q) λgt ham=>?_
  refine dg mX 11 1024<|go 1<|Dv.aJ haj Q T Q<|fp haj Q T Q p9<|gl 2 [6]<|Dv.Be dK Q T Q (ab 5 Q) Q yW (dP U9) GX (λ_=>Q)<|Dv.aJ ham Q T Q<|fp ham Q T Q rb<|gl 2 [0,15]<|el H λtm han H=>cx 18 [1,0,2,3,4,5,6,7,8,9,10,11,12,13,14,15,16,17] (cL 84) (gK.c han (p0_:=gt.2.1)) pC λ_ _=>?_
  refine .fin<|rg 2 0<|go 2<|ng (aO.shut (p:=((mget (aU xb.aa za) (tj.getD xa.toNat default)).getD dK)) (m:=(⟨tm.2.2.2,((mget xb.aa (tj.getD xa.toNat default)).getD default).av,((mget xb.aa (tj.getD xa.toNat default)).getD default).lf,((mget xb.aa (tj.getD xa.toNat default)).getD default).fX,((mget xb.aa (tj.getD xa.toNat default)).getD default).fair⟩:aO)) (gt.1,gt.2.1,gt.2.2.1,gt.2.2.2) ham (pm 18 [1,0,2,3,4,5,6,7,8,9,10,11,12,13,14,15,16,17])) λ_ _=>?_
  refine ng (n9 hak Q gn (pm 15 [0,1,2,3,4,5,6,7,8,9,10,11,12,13,14])) λ_ hao=>?_
  refine ng (eL hao (lM Q gn) (pm 14 [1,0,2,3,4,5,6,7,8,9,10,11,12,13])) λ_ _=>?_
  refine ng (bY.shut (p:=p0_) (m:=(⟨xb.av,xb.aG,xb.aq,xb.fall,xb.aI,mput xb.aa (tj.getD xa.toNat default) (⟨tm.2.2.2,((mget xb.aa (tj.getD xa.toNat default)).getD default).av,((mget xb.aa (tj.getD xa.toNat default)).getD default).lf,((mget xb.aa (tj.getD xa.toNat default)).getD default).fX,((mget xb.aa (tj.getD xa.toNat default)).getD default).fair⟩:aO)⟩:bY)) (gk.1,gk.2.1,gk.2.2.1,gk.2.2.2.1,gk.2.2.2.2.1,gk.2.2.2.2.2.1,gk.2.2.2.2.2.2.1,gk.2.2.2.2.2.2.2.1,gk.2.2.2.2.2.2.2.2.1,gk.2.2.2.2.2.2.2.2.2) haj (pm 13 [1,2,3,4,5,6,7,8,9,0,10,11,12])) λ_ _=>?_
  refine ns 4 [1,0,2,3] 0 ?_
  exact bk ja (aE (xa+1),(⟨xb.av,xb.aG,xb.aq,xb.fall,xb.aI,mput xb.aa (tj.getD xa.toNat default) (⟨tm.2.2.2,((mget xb.aa (tj.getD xa.toNat default)).getD default).av,((mget xb.aa (tj.getD xa.toNat default)).getD default).lf,((mget xb.aa (tj.getD xa.toNat default)).getD default).fX,((mget xb.aa (tj.getD xa.toNat default)).getD default).fair⟩:aO)⟩:bY)) H
 refine dg mX 15 17408<|go 1<|Dv.aJ haj Q T Q<|fp haj Q T Q p9<|gl 3 [2]<|Dv.aJ haj Q T Q<|fp haj Q T Q xD<|gl 2 [2]<|el H λtn hap H=>Dv.lS (pre:=[]) (F:=[mp Value.string (λp:OV=>eq p.1) gk.2.2.2.2.2.2.2.2.2.1 (aU xb.aa za),lQ aO.O xb.aa za,ar gk.1 102 [vS xb.av,eq gk.2.1.1,eq gk.2.2.1.1,eq gk.2.2.2.1.1,eq gk.2.2.2.2.1.1,eq gk.2.2.2.2.2.1.1,eq gk.2.2.2.2.2.2.1.1,eq gk.2.2.2.2.2.2.2.1.1,eq gk.2.2.2.2.2.2.2.2.1.1,eq gk.2.2.2.2.2.2.2.2.2.1],bI.O gk.2.1 xb.aG,bI.O gk.2.2.1 xb.aq,au.O gk.2.2.2.1 xb.fall.aK,dE.O gk.2.2.2.2.1 xb.fall.aA,bG.O gk.2.2.2.2.2.1 xb.fall.ax,bJ.O gk.2.2.2.2.2.2.1 xb.fall.an,bE.O gk.2.2.2.2.2.2.2.1 xb.fall.bQ,Seen.O gk.2.2.2.2.2.2.2.2.1 xb.aI,ar ba 80 [vI a1.bf,vS a1.aj,vS a1.aC,vS a1.bP,vS a1.ah,vB a1.ay,vB a1.lO,vI a1.cX,vI a1.bU,vI tc,vI te.1],own az gi.1 tj,lax]++F) (λgu:OV=>[ig aO.O gu tn.1,mp Value.string (λp:OV=>eq p.1) gk.2.2.2.2.2.2.2.2.2.1 (aU xb.aa za),lQ aO.O xb.aa za,ar gk.1 102 [vS xb.av,eq gk.2.1.1,eq gk.2.2.1.1,eq gk.2.2.2.1.1,eq gk.2.2.2.2.1.1,eq gk.2.2.2.2.2.1.1,eq gk.2.2.2.2.2.2.1.1,eq gk.2.2.2.2.2.2.2.1.1,eq gk.2.2.2.2.2.2.2.2.1.1,eq gk.2.2.2.2.2.2.2.2.2.1],bI.O gk.2.1 xb.aG,bI.O gk.2.2.1 xb.aq,au.O gk.2.2.2.1 xb.fall.aK,dE.O gk.2.2.2.2.1 xb.fall.aA,bG.O gk.2.2.2.2.2.1 xb.fall.ax,bJ.O gk.2.2.2.2.2.2.1 xb.fall.an,bE.O gk.2.2.2.2.2.2.2.1 xb.fall.bQ,Seen.O gk.2.2.2.2.2.2.2.2.1 xb.aI,ar ba 80 [vI a1.bf,vS a1.aj,vS a1.aC,vS a1.bP,vS a1.ah,vB a1.ay,vB a1.lO,vI a1.cX,vI a1.bU,vI tc,vI te.1],own az gi.1 tj,lax]++F) Q T (cL 83) Q (nq.c hap) (bN (L:=[mp Value.string (λp:OV=>eq p.1) gk.2.2.2.2.2.2.2.2.2.1 (aU xb.aa za),lQ aO.O xb.aa za,ar gk.1 102 [vS xb.av,eq gk.2.1.1,eq gk.2.2.1.1,eq gk.2.2.2.1.1,eq gk.2.2.2.2.1.1,eq gk.2.2.2.2.2.1.1,eq gk.2.2.2.2.2.2.1.1,eq gk.2.2.2.2.2.2.2.1.1,eq gk.2.2.2.2.2.2.2.2.1.1,eq gk.2.2.2.2.2.2.2.2.2.1],bI.O gk.2.1 xb.aG,bI.O gk.2.2.1 xb.aq,au.O gk.2.2.2.1 xb.fall.aK,dE.O gk.2.2.2.2.1 xb.fall.aA,bG.O gk.2.2.2.2.2.1 xb.fall.ax,bJ.O gk.2.2.2.2.2.2.1 xb.fall.an,bE.O gk.2.2.2.2.2.2.2.1 xb.fall.bQ,Seen.O gk.2.2.2.2.2.2.2.2.1 xb.aI,ar ba 80 [vI a1.bf,vS a1.aj,vS a1.aC,vS a1.bP,vS a1.ah,vB a1.ay,vB a1.lO,vI a1.cX,vI a1.bU,vI tc,vI te.1],own az gi.1 tj,lax]) (F:=F) [0,1,2,3,4,5,6,7,8,9,10,11,12,13] kr Q Q) Q pE (λgu _=>?_)
 refine go 1<|dZ Q T Q Q<|dZ Q T Q Q<|gr H λgv H=>Dv.ga (λ_=>True) (λ_:Unit=>[aO.O gu (tn.1.getD default),mp Value.string (λp:OV=>eq p.1) gk.2.2.2.2.2.2.2.2.2.1 (aU xb.aa za),lQ aO.O xb.aa za,ar gk.1 102 [vS xb.av,eq gk.2.1.1,eq gk.2.2.1.1,eq gk.2.2.2.1.1,eq gk.2.2.2.2.1.1,eq gk.2.2.2.2.2.1.1,eq gk.2.2.2.2.2.2.1.1,eq gk.2.2.2.2.2.2.2.1.1,eq gk.2.2.2.2.2.2.2.2.1.1,eq gk.2.2.2.2.2.2.2.2.2.1],bI.O gk.2.1 xb.aG,bI.O gk.2.2.1 xb.aq,au.O gk.2.2.2.1 xb.fall.aK,dE.O gk.2.2.2.2.1 xb.fall.aA,bG.O gk.2.2.2.2.2.1 xb.fall.ax,bJ.O gk.2.2.2.2.2.2.1 xb.fall.an,bE.O gk.2.2.2.2.2.2.2.1 xb.fall.bQ,Seen.O gk.2.2.2.2.2.2.2.2.1 xb.aI,ar ba 80 [vI a1.bf,vS a1.aj,vS a1.aC,vS a1.bP,vS a1.ah,vB a1.ay,vB a1.lO,vI a1.cX,vI a1.bU,vI tc,vI te.1],own az gi.1 tj,lax]++F) (gT 0 Q (Bq gv)) (λ_=>(lH (λ_=>T) (lH (λ_=>T) (lH (λ_=>T) (lH (λ_=>T) (lH (λ_=>(ab 3 Q)) (lH (λ_=>T) (lH (λ_=>T) (lH (λ_=>T) (lH (λ_=>T) (lH (λ_=>(ab 3 Q)) (lH (λ_=>T) (lH (λ_=>T) (lH (λ_=>T) Ir)))))))))))))) (λ_ _=>?_)
 refine Dv.Js (vp:=λp:OV=>eq p.1) (jj:=1) gu Q T Q Q Q Q yW (dP U9) pD<|.fin<|wg (xk aO.nn hak Q (pm 15 [1,2,0,3,4,5,6,7,8,9,10,11,12,13,14])) λ_ _=>?_
 refine wg (kn 0 Q) λzb haq=>?_
 refine gr H λgw H=>wg (oi haq Q gw (pm 14 [1,0,2,3,4,5,6,7,8,9,10,11,12,13])) λ_ _=>?_
 refine wg (aO.eF 0 Q) λgy har=>?_
 refine dg mX 11 1024<|go 1<|Dv.aJ haj Q T Q<|fp haj Q T Q p9<|gl 2 [6]<|Dv.Be dK Q T Q (ab 5 Q) Q yW (dP U9) GX (λ_=>Q)<|Dv.aJ har Q T Q<|fp har Q T Q rb<|gl 2 [0,15]<|el H λtp hau H=>cx 18 [1,0,2,3,4,5,6,7,8,9,10,11,12,13,14,15,16,17] (cL 84) (gK.c hau (p0_:=gy.2.1)) pC λ_ _=>?_
 refine .fin<|rg 2 0<|go 2<|ng (aO.shut (p:=((mget (aU (mput xb.aa (tj.getD xa.toNat default) (tn.1.getD default)) zb) (tj.getD xa.toNat default)).getD dK)) (m:=(⟨tp.2.2.2,((mget (mput xb.aa (tj.getD xa.toNat default) (tn.1.getD default)) (tj.getD xa.toNat default)).getD default).av,((mget (mput xb.aa (tj.getD xa.toNat default) (tn.1.getD default)) (tj.getD xa.toNat default)).getD default).lf,((mget (mput xb.aa (tj.getD xa.toNat default) (tn.1.getD default)) (tj.getD xa.toNat default)).getD default).fX,((mget (mput xb.aa (tj.getD xa.toNat default) (tn.1.getD default)) (tj.getD xa.toNat default)).getD default).fair⟩:aO)) (gy.1,gy.2.1,gy.2.2.1,gy.2.2.2) har (pm 18 [1,0,2,3,4,5,6,7,8,9,10,11,12,13,14,15,16,17])) λ_ _=>?_
 refine ng (n9 haq Q gw (pm 15 [0,1,2,3,4,5,6,7,8,9,10,11,12,13,14])) λ_ hav=>?_
 refine ng (eL hav (lM Q gw) (pm 14 [1,0,2,3,4,5,6,7,8,9,10,11,12,13])) λ_ _=>?_
 refine ng (bY.shut (p:=p0_) (m:=(⟨xb.av,xb.aG,xb.aq,xb.fall,xb.aI,mput (mput xb.aa (tj.getD xa.toNat default) (tn.1.getD default)) (tj.getD xa.toNat default) (⟨tp.2.2.2,((mget (mput xb.aa (tj.getD xa.toNat default) (tn.1.getD default)) (tj.getD xa.toNat default)).getD default).av,((mget (mput xb.aa (tj.getD xa.toNat default) (tn.1.getD default)) (tj.getD xa.toNat default)).getD default).lf,((mget (mput xb.aa (tj.getD xa.toNat default) (tn.1.getD default)) (tj.getD xa.toNat default)).getD default).fX,((mget (mput xb.aa (tj.getD xa.toNat default) (tn.1.getD default)) (tj.getD xa.toNat default)).getD default).fair⟩:aO)⟩:bY)) (gk.1,gk.2.1,gk.2.2.1,gk.2.2.2.1,gk.2.2.2.2.1,gk.2.2.2.2.2.1,gk.2.2.2.2.2.2.1,gk.2.2.2.2.2.2.2.1,gk.2.2.2.2.2.2.2.2.1,gk.2.2.2.2.2.2.2.2.2) haj (pm 13 [1,2,3,4,5,6,7,8,9,0,10,11,12])) λ_ _=>?_
 refine ns 4 [1,0,2,3] 0 ?_
 exact bk ja (aE (xa+1),(⟨xb.av,xb.aG,xb.aq,xb.fall,xb.aI,mput (mput xb.aa (tj.getD xa.toNat default) (tn.1.getD default)) (tj.getD xa.toNat default) (⟨tp.2.2.2,((mget (mput xb.aa (tj.getD xa.toNat default) (tn.1.getD default)) (tj.getD xa.toNat default)).getD default).av,((mget (mput xb.aa (tj.getD xa.toNat default) (tn.1.getD default)) (tj.getD xa.toNat default)).getD default).lf,((mget (mput xb.aa (tj.getD xa.toNat default) (tn.1.getD default)) (tj.getD xa.toNat default)).getD default).fX,((mget (mput xb.aa (tj.getD xa.toNat default) (tn.1.getD default)) (tj.getD xa.toNat default)).getD default).fair⟩:aO)⟩:bY)) H
theorem ki.c {p0_:OV} (h:ki.f k a0 a1 a2 a3 a4=some r):Tr prog 39 [eq p0_.1,vS a1,vS a2,vB a3,vI a4] [lax,bY.O p0_ a0] (γ:=Unit) (λ_=>True) (λg=>vI r.1) (λg=>[lax,bY.O p0_ r.2]):=by
 refine tf func39 h λR0 F H=>?_
 refine so<|wr 8 64<|go 5<|Dv.lD (qs:=[vI 2,vS a2,vS a1,vS eE,vS eE,vB false,vB a3,vI a4,vI 0,vI 0,vI 0]) (css:=[[vI 2],[vS a2],[vS a1],[vB a3],[vI a4]]) Q T fO s5 z80 Q ⟨(cells_one (ai Q)),⟨(cells_one (ai Q)),⟨(cells_one (ai Q)),⟨(cells_one (ai Q)),⟨(cells_one (ai Q)),T⟩⟩⟩⟩⟩ Q Q<|el H λta haa H=>cx 2 [0,1] (cL 49) (bF.c haa (p0_:=p0_)) nofun λ_ _=>?_
 refine gq 1 ?_
 cases H.out;exact et () 2 [0,1] 0
theorem hJ.c (h:hJ.f a0=some r):Tr prog 179 [sl ak.K a0] [] (γ:=OV) (λ_=>True) (λg=>eq g.1) (λg=>[own ak.K g.1 r]):=by
 unfold hJ.f at h
 obtain⟨h0,h5⟩:=(aW.of h).aF
 obtain rfl:=aW.out h5
 clear h h5
 refine(Tr.body func179 (c:=_) Q ntmps179 (Nat.le_of_ble_eq_true Q) λR0 F=>?_)
 refine WP.seq<|WP.qB [(0,false)] kr<|go 1<|WP.seq<|WP.seq<|WP.qB [(0,false),(1,true)] kr<|go 1<|Dv.snil Q T Q Q fk nofun (λb hb=>?_)
 refine .fin<|WP.cond Q (λc0=>?_) (λc0=>?_)
 ·obtain rfl:=hb c0
  refine WP.seq<|WP.qB [(0,false)] kr<|go 1<|wg (dX ak.K none) λ_ _=>?_
  exact et iQ 1 [0] 0
 refine WP.skip<|WP.seq<|WP.qB [(0,true),(1,false),(2,true),(3,false)] kr<|Dv.lit0 ak.K Q T fk fO ij z80 nofun (λv1=>?_)
 refine go 1<|Dv.uX (Kd:=ak.K) (xs:=[]) (v:=v1.1) (jj:=0) (ys:=a0) (λv2:OV=>[own ak.K v2.1 a0]++F) Q T Q Q Q dG fk (.inr ⟨_,fk⟩) qp Q dc (by simpa using h0) Q nofun (λv2=>?_)
 exact go 1<|rt i2 Q v2 1 [0] 0 (.cons (aQ Q) .nil)
theorem dI.c (h:dI.f k a0 a1=some r):Pt prog 236 [sl ak.K a0,gJ a1] (vI r):=by
 refine pf func236 h λR0 F H=>?_
 refine so<|sr H id [] (λ_=>[]) (λ_=>[]) (λpa H=>?_) (λH=>?_)
 ·refine sp ?_
  cases H.out;exact ek 0
 refine wr 3 0<|go 1<|Dv.jw Q T Q fk<|go 1<|WP.block<|ws 0 [] 0 ?_
 refine lq (λj_ (pc:Int)=>dI.l0 k a0 a1 j_ pc) 0 H [0,1,7] (λpc=>[(8,vI pc)]) (λ_=>[]) ?_
 rintro j_ xa H
 rcases j_ with _ | ja
 ·exact(aW.no H).elim
 try dsimp only at H
 rw [dI.l0] at H
 refine so<|WP.seq<|cf H ?_ ?_ <;> intro H
 ·refine WP.exit ?_
  have H:=H.out
  exact jn (xa,decide (xa<(a0.length:Int))) H
 refine WP.skip<|WP.seq<|WP.block<|so<|wr 6 0<|go 3<|gr H λgb H=>Dv.lE Q T Q Q fk fO ij gb.1 gb.2<|mY Q T Q nP Q<|el H λta haa H=>Dv.ql (ret:=vB ta) Q T Q Q ⟨_,_,haa,Q,Q⟩<|.fin<|cf H ?_ ?_ <;> intro H
 ·exact WP.skip<|rg 2 0<|go 2<|bk ja (aE (xa+1)) H
 refine sp ?_
 have H:=H.cH
 cases H.out;exact ek 0
theorem dt.c {X1_:As} (h:dt.f k a0 a1=some r):Tr prog 236 [sl ak.K a0,lZ X1_ a1] [X1_] (γ:=Unit) (λ_=>True) (λg=>vI r) (λg=>[X1_]):=by
 refine tf func236 h λR0 F H=>?_
 refine so<|sr H id [] (λ_=>[]) (λ_=>[]) (λpa H=>?_) (λH=>?_)
 ·refine sp ?_
  cases H.out;exact et () 1 [0] 0
 refine wr 3 0<|go 1<|Dv.jw Q T Q fk<|go 1<|WP.block<|ws 1 [0] 0 ?_
 refine lq (λj_ (pc:Int)=>dt.l0 k a0 a1 j_ pc) 0 H [0,1,7] (λpc=>[(8,vI pc)]) (λ_=>[]) ?_
 rintro j_ xa H
 rcases j_ with _ | ja
 ·exact(aW.no H).elim
 try dsimp only at H
 rw [dt.l0] at H
 refine so<|WP.seq<|cf H ?_ ?_ <;> intro H
 ·refine WP.exit ?_
  have H:=H.out
  exact jn (xa,decide (xa<(a0.length:Int))) H
 refine WP.skip<|WP.seq<|WP.block<|so<|wr 6 0<|go 3<|gr H λgb H=>Dv.lE Q T Q Q fk fO ij gb.1 gb.2<|mY Q T Q nP Q<|el H λta haa H=>Dv.qT (ret:=vB ta) (X:=X1_) (F:=F) Q T Q Q ⟨_,_,haa,Q,Q⟩ (bN (L:=[X1_]) (F:=F) [0] Q Q Q)<|.fin<|cf H ?_ ?_ <;> intro H
 ·exact WP.skip<|rg 2 0<|go 2<|bk ja (aE (xa+1)) H
 refine sp ?_
 have H:=H.cH
 cases H.out;exact et () 1 [0] 0
theorem db.c {X1_:As} {p0_:OV} (h:db.f k a0 a1=some r):Tr prog 236 [eq p0_.1,lZ X1_ a1] [own ak.K p0_.1 a0,X1_] (γ:=Unit) (λ_=>True) (λg=>vI r) (λg=>[own ak.K p0_.1 a0,X1_]):=by
 refine tf func236 h λR0 F H=>?_
 refine so<|sr H id [] (λ_=>[]) (λ_=>[]) (λpa H=>?_) (λH=>?_)
 ·refine sp ?_
  cases H.out;exact et () 2 [0,1] 0
 refine wr 3 0<|go 1<|Dv.kl Q T Q (ab 0 Q) fk<|go 1<|WP.block<|ws 2 [0,1] 0 ?_
 refine lq (λj_ (pc:Int)=>db.l0 k a0 a1 j_ pc) 0 H [0,1,7] (λpc=>[(8,vI pc)]) (λ_=>[]) ?_
 rintro j_ xa H
 rcases j_ with _ | ja
 ·exact(aW.no H).elim
 try dsimp only at H
 rw [db.l0] at H
 refine so<|WP.seq<|cf H ?_ ?_ <;> intro H
 ·refine WP.exit ?_
  have H:=H.out
  exact jn (xa,decide (xa<(a0.length:Int))) H
 refine WP.skip<|WP.seq<|WP.block<|so<|wr 6 0<|go 3<|gr H λgb H=>?_
 have haa:xa.toNat<a0.length:=cQ gb
 refine Dv.na Q T Q (ab 0 Q) Q fk fO ij gb.1 gb.2<|Dv.kX (j:=xa.toNat) (f:=0) Q T Q (ab 0 Q) haa fO Q ij (Nat.le_of_ble_eq_true Q)<|el H λta hac H=>Dv.qT (ret:=vB ta) (X:=X1_) (F:=[own ak.K p0_.1 a0]++F) Q T Q Q ⟨_,_,hac,Q,Q⟩ (bN (L:=[own ak.K p0_.1 a0,X1_]) (F:=F) [1,0] Q Q Q)<|.fin<|cf H ?_ ?_ <;> intro H
 ·exact WP.skip<|rg 2 0<|go 2<|bk ja (aE (xa+1)) H
 refine sp ?_
 have H:=H.cH
 cases H.out;exact et () 2 [0,1] 0
theorem slices_DeleteFunc_Edu_xo.c {X1_:As} {p0_:OV} (h:slices_DeleteFunc_Edu_xo.f k a0 a1=some r):Tr prog 182 [eq p0_.1,lZ X1_ a1] [own ak.K p0_.1 a0,X1_] (γ:=OV) (λ_=>True) (λg=>eq g.1) (λg=>[X1_,own ak.K g.1 r]):=by
 refine tf func182 h λR0 F H=>?_
 refine so<|wr 4 0<|go 2<|el H λta haa H=>mH 2 [0,1] (cL 236) (db.c haa (p0_:=p0_) (X1_:=X1_)) ?_
 refine go 1<|WP.seq<|so<|ce H ?_ ?_ <;> intro H
 ·refine sp ?_
  cases H.out;exact et p0_ 2 [1,0] 0
 refine WP.skip<|sq H id [0] (λpa=>[(5,vI pa.1)]) (λpa=>[(0,own ak.K p0_.1 pa.2.2.2)]) (λpa H=>?_) (λH=>?_)
 ·refine wr 4 8<|go 2<|gr H λgb H=>vg (oT 0 Q (List.length_pos_iff.1 (Nat.lt_of_le_of_lt (Nat.zero_le _) gb.2))) λgc hac=>?_
  refine Dv.sV (o':=gc.2.1+pa.1.toNat*ak.K.sz) (m':=pa.2.2.2.length-pa.1.toNat) (c':=gc.2.2-pa.1.toNat) Q T ((show opv _ _=some (eq p0_.1) from Q).trans (congrArg (λz=>some (eq z)) hac.1)) fk fO ij (fg Q gb.1) dQ (Nat.le_of_lt gb.2) hac.2 (.inl (Nat.lt_of_lt_of_le gb.2 hac.2)) Q Q Q<|Dv.GJ (jj:=0) (⟨0,eE,eE,eE,eE,false,false,0,0,0,0⟩:ak) Q T Q fk z80 Q Q (λu hu=>List.all_eq_true.1 (show(Value.cells _).toList.all (λu=>u.oneCell')=true by kernel_rfl) u hu) hac.1 Q gb.2 Q nofun<|.fin<|wr 4 4<|go 2<|gr H λgi H=>Dv.Jt (jj:=0) Q T Q Q fk fO ij dQ (fg Q gi.1) (.inl Q) gi.2.1 gi.2.2 nofun (λva=>?_)
  refine gq 1 ?_
  cases H.out;exact et va 2 [1,0] 0
 refine so<|WP.block<|ws 2 [0,1] 0 ?_
 refine lq (λj_ (pc:Int×Int×(List ak))=>slices_DeleteFunc_Edu_xo.l0 k a1 j_ pc.1 pc.2.1 pc.2.2) (ta,aE (ta+1),a0) H [0,1] (λpc=>[(5,vI pc.1),(6,vI pc.2.1)]) (λpc=>[(0,own ak.K p0_.1 pc.2.2)]) ?_
 rintro j_ ⟨xa,xb,xc⟩ H
 rcases j_ with _ | ja
 ·exact(aW.no H).elim
 try dsimp only at H
 rw [slices_DeleteFunc_Edu_xo.l0] at H
 refine WP.seq<|wr 4 0<|go 2<|Dv.kl Q T Q (ab 0 Q) fk<|go 1<|cf H ?_ ?_ <;> intro H
 ·refine WP.exit ?_
  have H:=H.out
  exact jn (xa,xb,decide (xb<(xc.length:Int)),xc) H
 refine WP.skip<|WP.seq<|WP.block<|wr 6 48<|go 2<|gr H λgj H=>?_
 have had:xb.toNat<xc.length:=cQ gj
 refine Dv.na Q T Q (ab 0 Q) Q fk fO ij gj.1 gj.2<|Dv.kX (j:=xb.toNat) (f:=0) Q T Q (ab 0 Q) had fO Q ij (Nat.le_of_ble_eq_true Q)<|al Q T qP nofun λba=>sy 0 ?_
 refine .fin<|wr 4 0<|gl 2 [0]<|el H λtc hae H=>Dv.qT (ret:=vB tc) (X:=X1_) (F:=[ar ba 80 (ak.enc (xc.getD xb.toNat default)),own ak.K p0_.1 xc]++F) Q T Q Q ⟨_,_,hae,Q,Q⟩ (bN (L:=[ar ba 80 (ak.enc (xc.getD xb.toNat default)),own ak.K p0_.1 xc,X1_]) (F:=F) [2,0,1] Q Q Q)<|go 1<|cf H ?_ ?_ <;> intro H
 ·refine WP.skip<|rg 3 0<|go 3<|ns 3 [0,1,2] 1 ?_
  exact bk ja (xa,aE (xb+1),xc) H
 refine wr 5 16<|gl 3 [0]<|gr H λgk H=>?_
 have haf:xa.toNat<xc.length:=cQ gk
 refine Dv.na Q T Q (ab 1 Q) Q fk fO ij gk.1 gk.2<|Dv.Ff (j:=xa.toNat) (f:=0) (jj:=1) (xc.getD xb.toNat default) Q T Q Q (bx (ak.K.one _)) fO ij Q Q haf (Nat.le_of_ble_eq_true Q) Q nofun<|.fin<|rg 3 0<|go 3<|rg 3 0<|go 3<|ns 3 [0,1,2] 1 ?_
 exact bk ja (aE (xa+1),aE (xb+1),xc.set xa.toNat (xc.getD xb.toNat default)) H
theorem iR.c (h:iR.f k a0 a1=some r):Pt prog 237 [sl az a0,vS a1] (vB r):=by
 refine pf func237 h λR0 F H=>?_
 refine so<|wr 5 0<|go 2<|el H λta haa H=>cl Q (cL 163) Q (bR.c haa)<|gq 2 ?_
 cases H.out;exact ek 0
theorem oS.c {p0_:OV} (h:oS.f k a0 a1 a2=some r):Tr prog 184 [eq p0_.1,vS a1,agg (ak.enc a2)] [au.O p0_ a0] (γ:=Unit) (λ_=>True) (λg=>vB r) (λg=>[au.O p0_ a0]):=by
 refine tf func184 h λR0 F H=>?_
 refine wr 2 1<|Dv.box Q T Q cA nofun λba=>go 1<|wr 6 4<|gl 2 [0]<|el H λta haa H=>cx 2 [1,0] (cL 139) (jI.c haa (p0_:=p0_)) nofun λgb _=>?_
 refine go 1<|el H λtc hac H=>mH (B:=[own az gb.1 ta]) 3 [1,0,2] (cL 237) (Pt.qz _ (iR.c hac) (.cons (ln (ab 0 Q)) (.cons nV .nil)) cJ) ?_
 refine gq 1 ?_
 cases H.out;exact et () 3 [1,2,0] 2
theorem lV.c {cb0_:Nat} {cq0_:OV} {c0:au} {c1:BA} (h:lV.f k a0 c0 c1=some r):Tr prog 183 [agg (ak.enc a0),iT cb0_,rp [vS c1]] [ar cb0_ 33 [eq cq0_.1],au.O cq0_ c0] (γ:=Unit) (λ_=>True) (λg=>vB r) (λg=>[ar cb0_ 33 [eq cq0_.1],au.O cq0_ c0]):=by
 refine tf func183 h λR0 F H=>?_
 refine wr 2 1<|Dv.box Q T Q cA nofun λba=>go 1<|wr 6 8<|gl 1 [1]<|nK Q T Q o6 Q<|gl 1 [0]<|el H λta haa H=>cx 3 [2,0,1] (cL 184) (oS.c haa (p0_:=cq0_)) nofun λ_ _=>?_
 refine gq 2 ?_
 cases H.out;exact et () 3 [1,2,0] 1
theorem mr.c {p0_:OV} (h:mr.f k a0 a1 a2=some r):Tr prog 106 [eq p0_.1,vS a1,sl ak.K a2] [au.O p0_ a0] (γ:=Unit) (λ_=>True) (λg=>sl ak.K r) (λg=>[au.O p0_ a0]):=by
 refine tf func106 h λR0 F H=>?_
 refine wr 3 3<|Dv.box Q T Q (cells_one cS) nofun λba=>Dv.box Q T Q cE nofun λbc=>go 1<|wr 5 10<|go 1<|el H λta haa H=>cx 3 [0,1,2] (cL 179) (hJ.c haa) nofun λgb _=>?_
 refine Dv.gh (nB (E':=[(0,eq p0_.1),(1,vS a1),(2,sl ak.K a2),(3,iT ba),(4,rp [vS a1]),(6,jQ),(8,eq gb.1)]) (l':=[own ak.K gb.1 ta,ar ba 33 [eq p0_.1],au.O p0_ a0]++F) 1 Q (ao Q aB (ao Q aB (ao Q aB (ao Q aB (ao Q jx (ao Q aB (ao Q aB iG))))))) (fI (.cons bn (.cons bn (.cons bn .nil))) λ_=>bn)) (λ_ _=>?_)
 refine Dv.Im (Q:=gV (λa0_=>lV.f k a0_ a0 a1)) (L:=[ar ba 33 [eq p0_.1],au.O p0_ a0]) (cL 183) (by rintro _ _ ⟨a0_,r_,h_,rfl,rfl⟩;exact lV.c h_ (cb0_:=ba) (cq0_:=p0_)) Q T Q Q<|el H λtc hac H=>cx 3 [0,1,2] (cL 182) (Tr.zF (A:=[own ak.K gb.1 ta]) (L:=[ar ba 33 [eq p0_.1],au.O p0_ a0]) (B:=λgc:OV=>[own ak.K gc.1 tc]) (slices_DeleteFunc_Edu_xo.c hac (p0_:=gb) (X1_:=(pk [ar ba 33 [eq p0_.1],au.O p0_ a0])))) nofun λgc _=>?_
 refine go 1<|fz 2 [6] [] ?_
 cases H.out;exact et () 2 [0,1] 1
theorem eO.c (h:eO.f k a0=some r):Pt prog 109 [vI a0] (vI r):=by
 refine pf func109 h λR0 F H=>?_
 refine so<|so<|sq H id [] (λpa=>[(3,vI pa.1)]) (λ_=>[]) (λpa H=>?_) (λH=>?_)
 ·refine sp ?_
  cases H.out;exact ek 0
 refine wr 4 0<|go 1<|Dv.Ch Q T Q Q<|Dv.I9 Q T Q Q<|go 1<|WP.block<|ws 0 [] 0 ?_
 refine lq (λj_ (pc:Int×Int)=>eO.l0 k a0 j_ pc.1 pc.2) (1,0) H [6] (λpc=>[(3,vI pc.1),(7,vI pc.2)]) (λ_=>[]) ?_
 rintro j_ ⟨xa,xb⟩ H
 rcases j_ with _ | ja
 ·exact(aW.no H).elim
 try dsimp only at H
 rw [eO.l0] at H
 refine so<|WP.seq<|cf H ?_ ?_ <;> intro H
 ·refine WP.exit ?_
  have H:=H.out
  exact jn (xa,xb,decide (xb<(min (max a0 0) 9))) H
 exact WP.skip<|WP.seq<|WP.block<|rg 4 0<|go 2<|Dv.I9 Q T Q Q<|go 1<|rg 2 0<|go 2<|bk ja (min (aE (2*xa)) 16,aE (xb+1)) H
theorem jW.c {p0_ p1_:OV} (h:jW.f k a0 a1 a2=some r):Tr prog 103 [eq p0_.1,eq p1_.1,vI a2] [aO.O p0_ a0,au.O p1_ a1] (γ:=Unit) (λ_=>True) (λg=>vB r.1) (λg=>[aO.O p0_ r.2,au.O p1_ a1]):=by
 refine tf func103 h λR0 F H=>?_
 refine so<|WP.seq<|wg (aO.eF 0 Q) λgb haa=>?_
 refine gr H λgc H=>wg (gT 3 Q (Bq gc)) λ_ _=>?_
 refine wg (jU.eF 0 Q) λgi hac=>?_
 refine dg mX 15 8192<|go 2<|Dv.aJ haa Q T Q<|fp haa Q T Q xw<|gl 2 [1]<|Dv.aJ haa Q T Q<|fp haa Q T Q nz<|gl 1 [1]<|Dv.aJ hac Q T Q<|fp hac Q T Q xy<|gl 2 [0]<|el H λta had H=>cx 5 [4,0,1,2,3] (cL 106) (mr.c had (p0_:=p1_)) pC λ_ _=>?_
 refine go 1<|WP.seq<|wr 3 0<|go 1<|Dv.jw Q T Q fk<|go 1<|ce H ?_ ?_ <;> intro H
 ·refine wr 4 8<|go 1<|Dv.aJ haa Q T Q<|fp haa Q T Q nz<|sy 2 ?_
  refine .fin<|so<|wg (fW (O:=jU.O)) λ_ _=>?_
  refine wg (aO.shut (p:=p0_) (m:=(⟨a0.bC,a0.av,a0.lf,a0.fX,none⟩:aO)) (gb.1,gb.2.1,gb.2.2.1,dK) haa (pm 6 [3,4,5,0,1,2])) λ_ _=>?_
  refine wg (jU.shut (p:=gb.2.2.2) (m:=a0.fair.getD default) gi hac (pm 3 [2,0,1])) λ_ _=>?_
  refine wg (qY (O:=jU.O) (o:=a0.fair) (Bq gc) 0 Q) λ_ _=>?_
  cases H.out;exact et () 3 [0,1,2] 1
 refine WP.skip<|wr 9 256<|go 1<|Dv.aJ haa Q T Q<|fp haa Q T Q nz<|gl 2 [2]<|Dv.aJ hac Q T Q<|fp hac Q T Q xy<|go 1<|sx 1 Q T Q Q (cells_one dR) zZ Q Q Q nofun ?_
 refine .fin<|wr 11 1024<|go 1<|Dv.aJ haa Q T Q<|fp haa Q T Q nz<|gl 1 [2]<|Dv.aJ hac Q T Q<|fp hac Q T Q xx<|gl 2 [1]<|Dv.aJ hac Q T Q<|fp hac Q T Q xx<|sy 1 ?_
 refine .fin<|wd mX 17 65536<|go 1<|Dv.aJ haa Q T Q<|fp haa Q T Q nz<|gl 3 [2]<|Dv.aJ haa Q T Q<|fp haa Q T Q nz<|gl 1 [2]<|Dv.aJ hac Q T Q<|fp hac Q T Q xx<|gl 1 [1]<|el H λtc hae H=>cl Q (cL 109) Q (eO.c hae)<|go 1<|Dv.aJ hac Q T Q<|fp hac Q T Q BB<|sv 1 ?_
 refine .fin<|so<|wg (jU.shut (p:=gb.2.2.2) (m:=(⟨(⟨((a0.fair.getD default).fp).sw,((a0.fair.getD default).fp).dL,((a0.fair.getD default).fp).yo,((a0.fair.getD default).fp).cC,ta⟩:km),aE (((a0.fair.getD default).pT)+1),aE (a2+tc)⟩:jU)) gi hac (pm 5 [1,0,2,3,4])) λ_ _=>?_
 refine wg (sQ (O:=jU.O) 0 Q) λ_ _=>?_
 refine wg (aO.shut (p:=p0_) (m:=(⟨a0.bC,a0.av,a0.lf,a0.fX,some (⟨(⟨((a0.fair.getD default).fp).sw,((a0.fair.getD default).fp).dL,((a0.fair.getD default).fp).yo,((a0.fair.getD default).fp).cC,ta⟩:km),aE (((a0.fair.getD default).pT)+1),aE (a2+tc)⟩:jU)⟩:aO)) (gb.1,gb.2.1,gb.2.2.1,gb.2.2.2) haa (pm 5 [2,3,4,0,1])) λ_ _=>?_
 cases H.out;exact et () 2 [0,1] 0
theorem fm.c {v0_0 v0_1 v0_2 v0_3 v0_4:OV} {b0_ d0_0 d0_1:Nat} {e0_0:v0_0.1 = .pointer (some ⟨d0_0,0,none⟩)} {e0_1:v0_1.1 = .pointer (some ⟨d0_1,0,none⟩)} (h:fm.f a0=some r):Tr prog 104 [iT b0_] [ar b0_ 161 [eq v0_0.1,vS a0.av,vS a0.lf,eq v0_1.1,eq v0_2.1],ar d0_0 211 [vI a0.bC.bw,eq v0_3.1,eq v0_4.1,vI a0.bC.da],own aZ.K v0_3.1 a0.bC.bA,mp aZ.kv (λx:ak=>agg (ak.enc x)) v0_4.1 a0.bC.dA,ar d0_1 137 [vI a0.fX.fn.fv,vI a0.fX.bw],ig jU.O v0_2 a0.fair] (γ:=Unit) (λ_=>True) (λg=>agg (km.enc r)) (λg=>[ar b0_ 161 [eq v0_0.1,vS a0.av,vS a0.lf,eq v0_1.1,eq v0_2.1],ar d0_0 211 [vI a0.bC.bw,eq v0_3.1,eq v0_4.1,vI a0.bC.da],own aZ.K v0_3.1 a0.bC.bA,mp aZ.kv (λx:ak=>agg (ak.enc x)) v0_4.1 a0.bC.dA,ar d0_1 137 [vI a0.fX.fn.fv,vI a0.fX.bw],ig jU.O v0_2 a0.fair]):=by
 refine tf func104 h λR0 F H=>?_
 refine wr 1 1<|al Q T vG nofun λba=>.fin<|wr 9 384<|gl 4 [1]<|gr H λgb H=>vg (gT 6 Q (Bq gb)) λ_ _=>?_
 refine Dv.mD jU.nn Q T Q (ab 0 Q)<|vg (jU.eF 0 Q) λgc haa=>?_
 refine fp haa Q T Q xy<|gl 1 [0]<|al Q T vG nofun λbc=>sy 0 ?_
 refine .fin<|wr 5 20<|gl 2 [0]<|el H λta hac H=>cx 8 [0,1,2,3,4,5,6,7] (cL 179) (hJ.c hac) nofun λgi _=>?_
 refine go 1<|sx 1 Q T Q Q (cells_one cS) zZ Q Q Q nofun ?_
 refine .fin<|wr 2 2<|gl 1 [1]<|sy 3 ?_
 refine .fin<|wg (jU.shut (p:=v0_2) (m:=a0.fair.getD default) gc haa (pm 9 [2,0,1,3,4,5,6,7,8])) λ_ _=>?_
 refine wg (qY (O:=jU.O) (o:=a0.fair) (Bq gb) 0 Q) λ_ _=>?_
 refine fz 1 [2] [0,1,1] ?_
 cases H.out;exact rt i2 Q () 8 [1,2,3,4,5,6,7,0] 2 (.cons (aL Q sF Q xt (ab 2 Q) Q) .nil)
theorem queue_Queue_All.c {v0_0 v0_1:OV} {b0_:Nat} (h:queue_Queue_All.f k a0=some r):Tr prog 107 [iT b0_] [ar b0_ 211 [vI a0.bw,eq v0_0.1,eq v0_1.1,vI a0.da],own aZ.K v0_0.1 a0.bA,mp aZ.kv (λx:ak=>agg (ak.enc x)) v0_1.1 a0.dA] (γ:=Unit) (λ_=>True) (λg=>sl ak.K r) (λg=>[ar b0_ 211 [vI a0.bw,eq v0_0.1,eq v0_1.1,vI a0.da],own aZ.K v0_0.1 a0.bA,mp aZ.kv (λx:ak=>agg (ak.enc x)) v0_1.1 a0.dA]):=by
 refine tf func107 h λR0 F H=>?_
 refine so<|so<|WP.kW H (λqa:(Int×Bool×(List ak))×OV=>qa.1) (λqa=>[(3,eq qa.2.1)]) (λqa=>[ar b0_ 211 [vI a0.bw,eq v0_0.1,eq v0_1.1,vI a0.da],own aZ.K v0_0.1 a0.bA,mp aZ.kv (λx:ak=>agg (ak.enc x)) v0_1.1 a0.dA,own ak.K qa.2.1 qa.1.2.2]++F) (λqa H=>?_) (λH=>?_)
 ·obtain⟨pa,va⟩:=qa
  refine so<|fz 3 [2] [] ?_
  cases H.out;exact et () 3 [0,1,2] 0
 refine wr 6 0<|gl 4 [0]<|Dv.kl Q T Q (ab 1 Q) nQ<|go 1<|WP.block<|wg (dX ak.K none) λ_ _=>?_
 refine ws 4 [1,2,3,0] 0 ?_
 refine lq (λj_ (pc:Int×(List ak)×OV)=>queue_Queue_All.l0 k a0 j_ pc.1 pc.2.1) (0,([]:List ak),iQ) H [0,9,10] (λpc=>[(3,eq pc.2.2.1),(11,vI pc.1)]) (λpc=>[(3,own ak.K pc.2.2.1 pc.2.1)]) ?_
 rintro j_ ⟨xa,xb,vb⟩ H
 rcases j_ with _ | ja
 ·exact(aW.no H).elim
 try dsimp only at H
 rw [queue_Queue_All.l0] at H
 refine so<|WP.seq<|cf H ?_ ?_ <;> intro H
 ·refine WP.exit ?_
  have H:=H.out
  exact jn ((xa,decide (xa<(a0.bA.length:Int)),xb),vb) H
 refine WP.skip<|WP.seq<|WP.block<|wr 4 12<|gr H λgb H=>?_
 have haa:xa.toNat<a0.bA.length:=cQ gb
 refine Dv.na Q T Q (ab 1 Q) Q nQ nM oM gb.1 gb.2<|Dv.kX (j:=xa.toNat) (f:=0) Q T Q (ab 1 Q) haa nM Q oM (Nat.le_of_ble_eq_true Q)<|al Q T Bt nofun λba=>sy 0 ?_
 refine .fin<|dg mX 10 256<|gl 6 [1,0]<|Dv.Ix (⟨0,eE,eE,eE,eE,false,false,0,0,0,0⟩:ak) Q T Q (ab 3 Q) Q (aZ.kq (a0.bA.getD xa.toNat default)) yC rH z80 (λ_=>⟨_,Q,Cs.Jo Q⟩)<|Dv.lit ak.K ([(mget a0.dA (a0.bA.getD xa.toNat default)).getD (⟨0,eE,eE,eE,eE,false,false,0,0,0,0⟩:ak)]:List ak) (css:=[ak.enc ((mget a0.dA (a0.bA.getD xa.toNat default)).getD (⟨0,eE,eE,eE,eE,false,false,0,0,0,0⟩:ak))]) Q T fk fO ij z80 Q dc dc Q ⟨(bx (ak.K.one _)),T⟩ Q Q Q<|gr H λgc H=>ap ak.K 4 ([(mget a0.dA (a0.bA.getD xa.toNat default)).getD (⟨0,eE,eE,eE,eE,false,false,0,0,0,0⟩:ak)]:List ak) dG fk (.inr ⟨_,fk⟩) qp gc pB λvd=>?_
 refine go 1<|rg 2 0<|go 2<|ns 5 [0,1,2,3,4] 1 ?_
 exact bk ja (aE (xa+1),xb++([(mget a0.dA (a0.bA.getD xa.toNat default)).getD (⟨0,eE,eE,eE,eE,false,false,0,0,0,0⟩:ak)]:List ak),vd) H
theorem jh.c {c0:ak} (h:jh.f a0 c0=some r):Pt prog 180 [agg (ak.enc a0),rp [vI c0.bf,vS c0.aj,vS c0.aC,vS c0.bP,vS c0.ah,vB c0.ay,vB c0.lO,vI c0.cX,vI c0.bU,vI c0.bK,vI c0.aS]] (vB r):=by
 refine pf func180 h λR0 F H=>?_
 refine wr 2 1<|Dv.box Q T Q cA nofun λba=>go 1<|wr 6 0<|gl 1 [0]<|Dv.GM (qs:=[vI a0.bf,vS a0.aj,vS a0.aC,vS a0.bP,vS a0.ah,vB a0.ay,vB a0.lO,vI a0.cX,vI a0.bU,vI a0.bK,vI a0.aS]) (css:=[ak.enc a0]) Q T H4 fO ij z310 Q ⟨(bx (ak.K.one _)),T⟩ Q Q<|mY Q T Q nP Q<|Dv.GM (qs:=[vI c0.bf,vS c0.aj,vS c0.aC,vS c0.bP,vS c0.ah,vB c0.ay,vB c0.lO,vI c0.cX,vI c0.bU,vI c0.bK,vI c0.aS]) (css:=[ak.enc c0]) Q T H4 fO ij z310 Q ⟨(bx (ak.K.one _)),T⟩ Q Q<|Dv.eqs [.int .i64 a0.bf,.string a0.aj,.string a0.aC,.string a0.bP,.string a0.ah,.bool a0.ay,.bool a0.lO,.int .i64 a0.cX,.int .i64 a0.bU,.int .i64 a0.bK,.int .i64 a0.aS] [.int .i64 c0.bf,.string c0.aj,.string c0.aC,.string c0.bP,.string c0.ah,.bool c0.ay,.bool c0.lO,.int .i64 c0.cX,.int .i64 c0.bU,.int .i64 c0.bK,.int .i64 c0.aS] Q T Q Q Q Q eg310 (λ_=>dJ 3 dc (λ_=>He H4 fO Q ij Q Q (yL a0 c0)))<|gq 1 ?_
 cases H.out;exact ek 1
theorem iy.c (h:iy.f k a0 a1=some r):Pt prog 181 [sl ak.K a0,gJ a1] (vB r):=by
 refine pf func181 h λR0 F H=>?_
 refine so<|wr 5 0<|go 2<|el H λta haa H=>cl Q (cL 236) Q (dI.c haa)<|gq 2 ?_
 cases H.out;exact ek 0
theorem gR.c {X1_:As} (h:gR.f k a0 a1=some r):Tr prog 181 [sl ak.K a0,lZ X1_ a1] [X1_] (γ:=Unit) (λ_=>True) (λg=>vB r) (λg=>[X1_]):=by
 refine tf func181 h λR0 F H=>?_
 refine so<|wr 5 0<|go 2<|el H λta haa H=>mH 1 [0] (cL 236) (dt.c haa (X1_:=X1_)) ?_
 refine gq 2 ?_
 cases H.out;exact et () 1 [0] 0
theorem queue_Queue_Keep.c {p0_:OV} (h:queue_Queue_Keep.f k a0 a1=some r):Tr prog 105 [eq p0_.1,sl ak.K a1] [cF.O p0_ a0] (γ:=Unit) (λ_=>True) (λg=>lg []) (λg=>[cF.O p0_ r]):=by
 refine tf func105 h λR0 F H=>?_
 refine wr 4 0<|go 1<|vg (cF.eF 0 Q) λgb haa=>?_
 refine el H λta hac H=>mH 3 [0,1,2] (cL 107) (Tr.fG (queue_Queue_All.c hac (b0_:=gb.1) (v0_0:=gb.2.1) (v0_1:=gb.2.2)) (.cons (eb haa) .nil)) ?_
 refine Dv.jw Q T Q fk<|go 1<|WP.block<|wg (cF.shut (p:=p0_) (m:=a0) (gb.1,gb.2.1,gb.2.2) haa (pm 3 [0,1,2])) λ_ _=>?_
 refine ws 1 [0] 0 ?_
 refine lq (λj_ (pa:Int×cF)=>queue_Queue_Keep.l0 k a1 ta j_ pa.1 pa.2) (0,a0) H [0,1,8,9] (λpa=>[(10,vI pa.1)]) (λpa=>[(0,cF.O p0_ pa.2)]) ?_
 rintro j_ ⟨xa,xb⟩ H
 rcases j_ with _ | ja
 ·exact(aW.no H).elim
 try dsimp only at H
 rw [queue_Queue_Keep.l0] at H
 refine so<|WP.seq<|cf H ?_ ?_ <;> intro H
 ·refine WP.exit ?_
  obtain rfl:=aW.out H
  exact re Q () 1 [0] 0 .nil
 refine WP.skip<|WP.seq<|WP.block<|wr 4 12<|gr H λgc H=>Dv.lE Q T Q Q fk fO ij gc.1 gc.2<|mY Q T Q nP Q<|al Q T qP nofun λba=>sy 0 ?_
 refine .fin<|wr 2 0<|Dv.gh (nB (E':=[(0,eq p0_.1),(1,sl ak.K a1),(5,rp [vI ((ak.K.at ta xa).bf),vS ((ak.K.at ta xa).aj),vS ((ak.K.at ta xa).aC),vS ((ak.K.at ta xa).bP),vS ((ak.K.at ta xa).ah),vB ((ak.K.at ta xa).ay),vB ((ak.K.at ta xa).lO),vI ((ak.K.at ta xa).cX),vI ((ak.K.at ta xa).bU),vI ((ak.K.at ta xa).bK),vI ((ak.K.at ta xa).aS)]),(8,sl ak.K ta),(9,vI (ta.length:Int)),(10,vI xa),(11,vB (decide (xa<(ta.length:Int))))]) (l':=[cF.O p0_ xb]++F) 0 Q (ao Q aB (ao Q aB (ao Q jx (ao Q aB (ao Q aB (ao Q aB (ao Q aB iG))))))) (fI (.cons bn .nil) λ_=>bn)) (λ_ _=>?_)
 refine Dv.Im (Q:=gV (λa0_=>jh.f a0_ (ak.K.at ta xa))) (L:=[]) (cL 180) (by rintro _ _ ⟨a0_,r_,h_,rfl,rfl⟩;exact(jh.c h_).tr) Q T Q Q<|go 1<|wr 4 0<|go 2<|el H λtc had H=>cl Q (cL 181) Q ((Tr.HO (A:=[]) (L:=[]) (gR.c had (X1_:=(pk [])))).pt)<|go 1<|cf H ?_ ?_ <;> intro H
 ·exact WP.skip<|rg 2 0<|go 2<|bk ja (aE (xa+1),xb) H
 refine rg 4 8<|go 1<|mY Q T Q nP Q<|el H λte hae H=>cl Q (cL 143) Q (nk.c hae)<|el H λtg haf H=>cx 1 [0] (cL 145) (bZ.c haf (p0_:=p0_)) nofun λ_ _=>?_
 exact .fin<|rg 2 0<|go 2<|bk ja (aE (xa+1),tg) H
theorem eu.c {p0_:OV} (h:eu.f k a0 a1=some r):Tr prog 108 [eq p0_.1,vI a1] [cF.O p0_ a0] (γ:=Unit) (λ_=>True) (λg=>sl ak.K r.1) (λg=>[cF.O p0_ r.2]):=by
 refine tf func108 h λR0 F H=>?_
 refine so<|wr 3 0<|go 1<|vg (cF.eF 0 Q) λgb haa=>?_
 refine el H λta hac H=>mH 3 [0,1,2] (cL 107) (Tr.fG (queue_Queue_All.c hac (b0_:=gb.1) (v0_0:=gb.2.1) (v0_1:=gb.2.2)) (.cons (eb haa) .nil)) ?_
 refine go 1<|wr 8 0<|go 2<|Dv.Ch Q T Q Q<|go 1<|Dv.jw Q T Q fk<|Dv.I9 Q T Q Q<|gr H λgc H=>Dv.sls Q T Q fk fO ij dQ (fg Q gc.1) gc.2.1 gc.2.2<|go 1<|WP.kW H id (λpa=>[(5,sl ak.K ((ta.take ((min (max a1 0) (ta.length:Int)).toNat)).drop 0))]) (λpa=>[cF.O p0_ pa.2.2]++F) (λpa H=>?_) (λH=>?_)
 ·refine sp ?_
  cases H.out;exact et () 1 [0] 0
 refine wr 3 0<|go 1<|Dv.jw Q T Q fk<|go 1<|WP.block<|wg (cF.shut (p:=p0_) (m:=a0) (gb.1,gb.2.1,gb.2.2) haa (pm 3 [0,1,2])) λ_ _=>?_
 refine ws 1 [0] 0 ?_
 refine lq (λj_ (pc:Int×cF)=>eu.l0 k a1 ta j_ pc.1 pc.2) (0,a0) H [0,5,17,18] (λpc=>[(19,vI pc.1)]) (λpc=>[(0,cF.O p0_ pc.2)]) ?_
 rintro j_ ⟨xa,xb⟩ H
 rcases j_ with _ | ja
 ·exact(aW.no H).elim
 try dsimp only at H
 rw [eu.l0] at H
 refine so<|WP.seq<|cf H ?_ ?_ <;> intro H
 ·refine WP.exit ?_
  have H:=H.out
  exact jn (xa,decide (xa<(((ta.take ((min (max a1 0) (ta.length:Int)).toNat)).drop 0).length:Int)),xb) H
 refine WP.skip<|WP.seq<|WP.block<|wr 4 12<|gr H λgi H=>Dv.lE Q T Q Q fk fO ij gi.1 gi.2<|mY Q T Q nP Q<|al Q T qP nofun λba=>sy 0 ?_
 refine .fin<|rg 4 8<|gl 2 [0]<|el H λtc had H=>cl Q (cL 143) Q (nk.c had)<|el H λte hae H=>cx 2 [1,0] (cL 145) (bZ.c hae (p0_:=p0_)) nofun λ_ _=>?_
 refine .fin<|rg 2 0<|go 2<|ns 2 [1,0] 1 ?_
 exact bk ja (aE (xa+1),te) H
theorem jq.c {p0_ p1_:OV} (h:jq.f k a0 a1 a2=some r):Tr prog 68 [eq p0_.1,eq p1_.1,vI a2] [aO.O p0_ a0,au.O p1_ a1] (γ:=Unit) (λ_=>True) (λg=>lg [agg (km.enc r.1),vB r.2.1,vI r.2.2.1]) (λg=>[aO.O p0_ r.2.2.2,au.O p1_ a1]):=by
 refine tf func68 h λR0 F H=>?_
 refine wr 3 1<|al Q T vG nofun λba=>go 2<|sr H id [0,1,2,6] (λ_=>[]) (λpa=>[(1,aO.O p0_ pa)]) (λpa H=>?_) (λH=>?_)
 rotate_left
 ·refine wr 5 0<|go 1<|Dv.mD aO.nn Q T Q (ab 1 Q)<|vg (aO.eF 1 Q) λgb haa=>?_
  refine fp haa Q T Q nz<|gl 1 [0]<|Dv.one0 (λ_=>jU.nn) Q T Q Q Ih (ab 3 Q)<|.fin<|cd H Q (λca H=>?_) (λ_ H=>?_)
  rotate_left
  ·refine WP.skip ?_
   have H:=H.out
   refine ng (aO.shut (p:=p0_) (m:=a0) (gb.1,gb.2.1,gb.2.2.1,gb.2.2.2) haa (pm 6 [0,1,2,3,4,5])) λ_ _=>?_
   refine ns 3 [1,0,2] 0 ?_
   exact jn a0 H
  refine wg (gT 3 Q (by simpa using ca)) λ_ _=>?_
  refine WP.seq<|wr 9 0<|go 2<|Dv.aJ haa Q T Q<|fp haa Q T Q nz<|gl 1 [1]<|Dv.mD jU.nn Q T Q (ab 0 Q)<|vg (jU.eF 0 Q) λgc hac=>?_
  refine fp hac Q T Q BB<|gl 2 [0]<|ce H ?_ ?_ <;> intro H
  ·refine wr 4 2<|Dv.lD (qs:=[vB false,vS eE,vS eE,vI 0,jQ]) (css:=[]) Q T sF yK z168 Q T Q Q<|sy 4 ?_
   refine go 2<|wg (jU.shut (p:=gb.2.2.2) (m:=a0.fair.getD default) gc hac (pm 6 [0,1,2,3,4,5])) λ_ _=>?_
   refine wg (qY (O:=jU.O) (o:=a0.fair) (by simpa using ca) 0 Q) λ_ _=>?_
   refine wg (aO.shut (p:=p0_) (m:=a0) (gb.1,gb.2.1,gb.2.2.1,gb.2.2.2) haa (pm 6 [1,2,3,0,4,5])) λ_ _=>?_
   have H:=H.cH
   cases H.out;exact rt i2 Q () 3 [1,0,2] 1 (.cons (sW (aL Q sF Q xt (ab 1 Q) Q) (qR (.cons cG (.cons cG (.cons cG (.cons cG (.cons kT .nil))))))) (.cons (aQ Q) (.cons (aQ Q) .nil)))
  refine WP.skip<|wr 4 8<|go 3<|vg (jU.shut (p:=gb.2.2.2) (m:=a0.fair.getD default) gc hac (pm 6 [0,1,2,3,4,5])) λ_ _=>?_
  refine vg (qY (O:=jU.O) (o:=a0.fair) (by simpa using ca) 0 Q) λ_ _=>?_
  refine vg (aO.shut (p:=p0_) (m:=a0) (gb.1,gb.2.1,gb.2.2.1,gb.2.2.2) haa (pm 6 [1,2,3,0,4,5])) λ_ _=>?_
  refine el H λta had H=>cx 3 [0,2,1] (cL 103) (jW.c had (p0_:=p0_) (p1_:=p1_)) nofun λ_ _=>?_
  refine .fin<|cf H ?_ ?_ <;> intro H
  ·refine WP.skip ?_
   have H:=H.out
   refine ns 3 [2,0,1] 0 ?_
   exact jn ta.2 H
  refine wr 5 4<|go 1<|vg (aO.eF 0 Q) λgi hae=>?_
  refine vg (cF.eF 1 Q) λgj haf=>?_
  refine vg (bI.eF 4 Q) λgk hag=>?_
  refine el H λtc hah H=>mH 8 [4,1,2,3,0,5,6,7] (cL 104) (Tr.fG (fm.c hah (b0_:=gi.1) (v0_0:=gi.2.1) (v0_1:=gi.2.2.1) (v0_2:=gi.2.2.2) (v0_3:=gj.2.1) (v0_4:=gj.2.2) (d0_0:=gj.1) (e0_0:=haf) (d0_1:=gk) (e0_1:=hag)) (.cons (eb hae) .nil)) ?_
  refine sy 7 ?_
  refine go 2<|wg (cF.shut (p:=gi.2.1) (m:=ta.2.bC) (gj.1,gj.2.1,gj.2.2) haf (pm 8 [1,2,3,0,4,5,6,7])) λ_ _=>?_
  refine wg (bI.shut (p:=gi.2.2.1) (m:=ta.2.fX) gk hag (pm 6 [1,0,2,3,4,5])) λ_ _=>?_
  refine wg (aO.shut (p:=p0_) (m:=ta.2) (gi.1,gi.2.1,gi.2.2.1,gi.2.2.2) hae (pm 6 [2,1,0,3,4,5])) λ_ _=>?_
  have H:=H.cH
  cases H.out;exact rt i2 Q () 3 [2,0,1] 1 (.cons (aL Q sF Q xt (ab 2 Q) Q) (.cons (aQ Q) (.cons (aQ Q) .nil)))
 refine WP.seq<|wg (aO.eF 1 Q) λgn hai=>?_
 refine wg (cF.eF 1 Q) λgt haj=>?_
 refine dg mX 16 49152<|go 1<|Dv.aJ hai Q T Q<|fp hai Q T Q rb<|gl 3 [3]<|Dv.aJ hai Q T Q<|fp hai Q T Q xw<|gl 2 [3]<|Dv.aJ hai Q T Q<|fp hai Q T Q rb<|gl 1 [3]<|el H λte hak H=>mH 8 [0,1,2,3,4,5,6,7] (cL 107) (Tr.fG (queue_Queue_All.c hak (b0_:=gt.1) (v0_0:=gt.2.1) (v0_1:=gt.2.2)) (.cons (eb haj) .nil)) ?_
 refine el H λtg ham H=>Dv.lS (pre:=[au.O p1_ a1]) (F:=[ar gt.1 211 [vI pa.bC.bw,eq gt.2.1.1,eq gt.2.2.1,vI pa.bC.da],own aZ.K gt.2.1.1 pa.bC.bA,mp aZ.kv (λx:ak=>agg (ak.enc x)) gt.2.2.1 pa.bC.dA,ar gn.1 161 [eq gn.2.1.1,vS pa.av,vS pa.lf,eq gn.2.2.1.1,eq gn.2.2.2.1],bI.O gn.2.2.1 pa.fX,ig jU.O gn.2.2.2 pa.fair,ar ba 168 [vB false,vS eE,vS eE,vI 0,jQ]]++F) (λ_:Unit=>[au.O p1_ a1,ar gt.1 211 [vI pa.bC.bw,eq gt.2.1.1,eq gt.2.2.1,vI pa.bC.da],own aZ.K gt.2.1.1 pa.bC.bA,mp aZ.kv (λx:ak=>agg (ak.enc x)) gt.2.2.1 pa.bC.dA,ar gn.1 161 [eq gn.2.1.1,vS pa.av,vS pa.lf,eq gn.2.2.1.1,eq gn.2.2.2.1],bI.O gn.2.2.1 pa.fX,ig jU.O gn.2.2.2 pa.fair,ar ba 168 [vB false,vS eE,vS eE,vI 0,jQ]]++F) Q T (cL 106) Q (mr.c ham (p0_:=p1_)) (bN (L:=[ar gt.1 211 [vI pa.bC.bw,eq gt.2.1.1,eq gt.2.2.1,vI pa.bC.da],own aZ.K gt.2.1.1 pa.bC.bA,mp aZ.kv (λx:ak=>agg (ak.enc x)) gt.2.2.1 pa.bC.dA,ar gn.1 161 [eq gn.2.1.1,vS pa.av,vS pa.lf,eq gn.2.2.1.1,eq gn.2.2.2.1],bI.O gn.2.2.1 pa.fX,ig jU.O gn.2.2.2 pa.fair,ar ba 168 [vB false,vS eE,vS eE,vI 0,jQ],au.O p1_ a1]) (F:=F) [7,0,1,2,3,4,5,6] kr Q Q) Q pE (λ_ _=>?_)
 refine el H λtj han H=>cx 8 [1,2,3,0,4,5,6,7] (cL 105) (Tr.pre (pre':=[ar gt.1 211 [vI pa.bC.bw,eq gt.2.1.1,eq gt.2.2.1,vI pa.bC.da],own aZ.K gt.2.1.1 pa.bC.bA,mp aZ.kv (λx:ak=>agg (ak.enc x)) gt.2.2.1 pa.bC.dA]) (queue_Queue_Keep.c han (p0_:=gn.2.1)) (λF R w=>cF.shut (p:=gn.2.1) (m:=pa.bC) (r:=F) (gt.1,gt.2.1,gt.2.2) haj (List.Perm.refl _) R w)) pC λ_ _=>?_
 refine .fin<|WP.seq<|wr 6 0<|go 1<|Dv.aJ hai Q T Q<|fp hai Q T Q rb<|gl 1 [2]<|vg (cF.eF 0 Q) λgu hao=>?_
 refine el H λtm hap H=>mH 8 [0,1,2,3,4,5,6,7] (cL 62) (Tr.fG (jE.c hap (b0_:=gu.1) (v0_0:=gu.2.1) (v0_1:=gu.2.2)) (.cons (eb hao) .nil)) ?_
 refine go 1<|ce H ?_ ?_ <;> intro H
 ·refine wr 4 2<|Dv.lD (qs:=[vB false,vS eE,vS eE,vI 0,jQ]) (css:=[]) Q T sF yK z168 Q T Q Q<|sy 7 ?_
  refine go 2<|wg (cF.shut (p:=gn.2.1) (m:=tj) (gu.1,gu.2.1,gu.2.2) hao (pm 8 [0,1,2,3,4,5,6,7])) λ_ _=>?_
  refine wg (aO.shut (p:=p0_) (m:=(⟨tj,pa.av,pa.lf,pa.fX,pa.fair⟩:aO)) (gn.1,gn.2.1,gn.2.2.1,gn.2.2.2) hai (pm 6 [2,0,3,4,1,5])) λ_ _=>?_
  cases H.out;exact rt i2 Q () 3 [2,0,1] 1 (.cons (sW (aL Q sF Q xt (ab 2 Q) Q) (qR (.cons cG (.cons cG (.cons cG (.cons cG (.cons kT .nil))))))) (.cons (aQ Q) (.cons (aQ Q) .nil)))
 refine WP.skip<|wr 10 16<|go 1<|Dv.aJ hai Q T Q<|fp hai Q T Q Fl<|gl 1 [4]<|el H λtn haq H=>cx 8 [5,0,1,2,3,4,6,7] (cL 80) (dy.c haq (p0_:=gn.2.2.1)) nofun λ_ _=>?_
 refine go 1<|dZ Q T Q Q<|dZ Q T Q Q<|go 2<|WP.seq<|so<|ce H ?_ ?_ <;> intro H
 ·refine wr 5 4<|Dv.lD (qs:=[vB false,vS eE,vS eE,vI 0,jQ]) (css:=[]) Q T sF yK z168 Q T Q Q<|go 1<|sy 7 ?_
  refine go 2<|wg (cF.shut (p:=gn.2.1) (m:=tj) (gu.1,gu.2.1,gu.2.2) hao (pm 8 [1,2,3,0,4,5,6,7])) λ_ _=>?_
  refine wg (aO.shut (p:=p0_) (m:=(⟨tj,pa.av,pa.lf,tn.2.2,pa.fair⟩:aO)) (gn.1,gn.2.1,gn.2.2.1,gn.2.2.2) hai (pm 6 [3,0,1,4,2,5])) λ_ _=>?_
  cases H.out;exact rt i2 Q () 3 [2,0,1] 1 (.cons (sW (aL Q sF Q xt (ab 2 Q) Q) (qR (.cons cG (.cons cG (.cons cG (.cons cG (.cons kT .nil))))))) (.cons (aQ Q) (.cons (aQ Q) .nil)))
 refine WP.skip<|WP.seq<|WP.Jh (kf:=15) mX [(0,false),(1,false),(2,false),(3,false),(4,false),(5,false),(6,false),(7,false),(8,false),(9,false),(10,false),(11,false),(12,false),(13,true),(14,false)] [(16,true)] Q kr<|go 1<|Dv.aJ hai Q T Q<|fp hai Q T Q GP<|gl 2 [5]<|Dv.aJ hai Q T Q<|fp hai Q T Q xw<|gl 3 [5]<|Dv.aJ hai Q T Q<|fp hai Q T Q rb<|gl 1 [5]<|Dv.float ?_ (λhk_=>?_)
 rotate_left
 ·refine el H λtp har H=>Dv.lS (pre:=[ar gu.1 211 [vI tj.bw,eq gu.2.1.1,eq gu.2.2.1,vI tj.da],own aZ.K gu.2.1.1 tj.bA,mp aZ.kv (λx:ak=>agg (ak.enc x)) gu.2.2.1 tj.dA]) (F:=[bI.O gn.2.2.1 tn.2.2,au.O p1_ a1,ar gn.1 161 [eq gn.2.1.1,vS pa.av,vS pa.lf,eq gn.2.2.1.1,eq gn.2.2.2.1],ig jU.O gn.2.2.2 pa.fair,ar ba 168 [vB false,vS eE,vS eE,vI 0,jQ]]++F) (λ_:Unit=>[cF.O gn.2.1 tp.2,bI.O gn.2.2.1 tn.2.2,au.O p1_ a1,ar gn.1 161 [eq gn.2.1.1,vS pa.av,vS pa.lf,eq gn.2.2.1.1,eq gn.2.2.2.1],ig jU.O gn.2.2.2 pa.fair,ar ba 168 [vB false,vS eE,vS eE,vI 0,jQ]]++F) Q T (cL 108) Q (Tr.pre (pre':=[ar gu.1 211 [vI tj.bw,eq gu.2.1.1,eq gu.2.2.1,vI tj.da],own aZ.K gu.2.1.1 tj.bA,mp aZ.kv (λx:ak=>agg (ak.enc x)) gu.2.2.1 tj.dA]) (eu.c har (p0_:=gn.2.1)) (λF R w=>cF.shut (p:=gn.2.1) (m:=tj) (r:=F) (gu.1,gu.2.1,gu.2.2) hao (List.Perm.refl _) R w)) (bN (L:=[bI.O gn.2.2.1 tn.2.2,ar gu.1 211 [vI tj.bw,eq gu.2.1.1,eq gu.2.2.1,vI tj.da],own aZ.K gu.2.1.1 tj.bA,mp aZ.kv (λx:ak=>agg (ak.enc x)) gu.2.2.1 tj.dA,au.O p1_ a1,ar gn.1 161 [eq gn.2.1.1,vS pa.av,vS pa.lf,eq gn.2.2.1.1,eq gn.2.2.2.1],ig jU.O gn.2.2.2 pa.fair,ar ba 168 [vB false,vS eE,vS eE,vI 0,jQ]]) (F:=F) [1,2,3,0,4,5,6,7] kr Q Q) Q pE (λ_ _=>?_)
  refine Dv.lD (qs:=[vB false,vS pa.av,vS pa.lf,vI tn.1,sl ak.K tp.1]) (css:=[[vS pa.av],[vS pa.lf],[vI tn.1],[sl ak.K tp.1]]) Q T sF yK z168 Q ⟨(cells_one (ai Q)),⟨(cells_one (ai Q)),⟨(cells_one (ai Q)),⟨(cells_one dR),T⟩⟩⟩⟩ Q Q<|.fin<|qn Q T vG pU (λbc=>?_)
  refine sv 0 ?_
  refine .fin<|wd mX 10 576<|gl 3 [0]<|el H λtq hau H=>cl Q (cL 109) Q (eO.c hau)<|go 1<|Dv.lD (qs:=[vB false,vS pa.av,vS pa.lf,vI tn.1,sl ak.K tp.1,vI 0,vI (aE (a2+tq))]) (css:=[[vB false,vS pa.av,vS pa.lf,vI tn.1,sl ak.K tp.1],[vI 0],[vI (aE (a2+tq))]]) Q T EK HB z227 Q ⟨(bx (ae (ai Q) (ae (ai Q) (ae (ai Q) (ae (ai Q) (ae dR cN)))))),⟨(cells_one (ai Q)),⟨(cells_one (ai Q)),T⟩⟩⟩ Q Q<|Dv.box Q T Q cA pD λbd=>Dv.aJ hai Q T Q<|fp hai Q T Q nz<|sv 5 ?_
  refine .fin<|wr 5 4<|go 1<|vg (cF.eF 2 Q) λgv hav=>?_
  refine vg (bI.eF 5 Q) λgw haw=>?_
  refine vg (jU.shut (p:=(⟨.pointer (some ⟨bd,0,none⟩),Q⟩:OV)) (m:=(⟨(⟨false,pa.av,pa.lf,tn.1,tp.1⟩:km),0,aE (a2+tq)⟩:jU)) bd Q (pm 10 [4,0,1,2,3,5,6,7,8,9])) λ_ _=>?_
  refine vg (sQ (O:=jU.O) 0 Q) λ_ _=>?_
  refine el H λtu hax H=>mH 10 [7,2,3,4,1,0,5,6,8,9] (cL 104) (Tr.fG (fm.c hax (b0_:=gn.1) (v0_0:=gn.2.1) (v0_1:=gn.2.2.1) (v0_2:=(⟨.pointer (some ⟨bd,0,none⟩),Q⟩:OV)) (v0_3:=gv.2.1) (v0_4:=gv.2.2) (d0_0:=gv.1) (e0_0:=hav) (d0_1:=gw) (e0_1:=haw)) (.cons (eb hai) .nil)) ?_
  refine sy 9 ?_
  refine go 2<|wg (cF.shut (p:=gn.2.1) (m:=tp.2) (gv.1,gv.2.1,gv.2.2) hav (pm 10 [2,3,4,0,1,5,6,7,8,9])) λ_ _=>?_
  refine wg (bI.shut (p:=gn.2.2.1) (m:=tn.2.2) gw haw (pm 8 [2,0,1,3,4,5,6,7])) λ_ _=>?_
  refine wg (aO.shut (p:=p0_) (m:=(⟨tp.2,pa.av,pa.lf,tn.2.2,some (⟨(⟨false,pa.av,pa.lf,tn.1,tp.1⟩:km),0,aE (a2+tq)⟩:jU)⟩:aO)) (gn.1,gn.2.1,gn.2.2.1,(⟨.pointer (some ⟨bd,0,none⟩),Q⟩:OV)) hai (pm 8 [5,1,0,2,3,4,6,7])) λ_ _=>?_
  cases H.out;exact rt i2 Q () 5 [1,3,4,0,2] 3 (.cons (aL Q sF Q xt (ab 4 Q) Q) (.cons (aQ Q) (.cons (aQ Q) .nil)))
 refine qn Q T vG pU (λbe=>?_)
 refine el H λtv hay H=>Dv.lS (pre:=[ar gu.1 211 [vI tj.bw,eq gu.2.1.1,eq gu.2.2.1,vI tj.da],own aZ.K gu.2.1.1 tj.bA,mp aZ.kv (λx:ak=>agg (ak.enc x)) gu.2.2.1 tj.dA]) (F:=[ar be 168 [vB false,vS eE,vS eE,vI 0,jQ],bI.O gn.2.2.1 tn.2.2,au.O p1_ a1,ar gn.1 161 [eq gn.2.1.1,vS pa.av,vS pa.lf,eq gn.2.2.1.1,eq gn.2.2.2.1],ig jU.O gn.2.2.2 pa.fair,ar ba 168 [vB false,vS eE,vS eE,vI 0,jQ]]++F) (λ_:Unit=>[cF.O gn.2.1 tv.2,ar be 168 [vB false,vS eE,vS eE,vI 0,jQ],bI.O gn.2.2.1 tn.2.2,au.O p1_ a1,ar gn.1 161 [eq gn.2.1.1,vS pa.av,vS pa.lf,eq gn.2.2.1.1,eq gn.2.2.2.1],ig jU.O gn.2.2.2 pa.fair,ar ba 168 [vB false,vS eE,vS eE,vI 0,jQ]]++F) Q T (cL 108) Q (Tr.pre (pre':=[ar gu.1 211 [vI tj.bw,eq gu.2.1.1,eq gu.2.2.1,vI tj.da],own aZ.K gu.2.1.1 tj.bA,mp aZ.kv (λx:ak=>agg (ak.enc x)) gu.2.2.1 tj.dA]) (eu.c hay (p0_:=gn.2.1)) (λF R w=>cF.shut (p:=gn.2.1) (m:=tj) (r:=F) (gu.1,gu.2.1,gu.2.2) hao (List.Perm.refl _) R w)) (bN (L:=[ar be 168 [vB false,vS eE,vS eE,vI 0,jQ],bI.O gn.2.2.1 tn.2.2,ar gu.1 211 [vI tj.bw,eq gu.2.1.1,eq gu.2.2.1,vI tj.da],own aZ.K gu.2.1.1 tj.bA,mp aZ.kv (λx:ak=>agg (ak.enc x)) gu.2.2.1 tj.dA,au.O p1_ a1,ar gn.1 161 [eq gn.2.1.1,vS pa.av,vS pa.lf,eq gn.2.2.1.1,eq gn.2.2.2.1],ig jU.O gn.2.2.2 pa.fair,ar ba 168 [vB false,vS eE,vS eE,vI 0,jQ]]) (F:=F) [2,3,4,0,1,5,6,7,8] kr Q Q) Q pE (λ_ _=>?_)
 refine Dv.lD (qs:=[vB false,vS pa.av,vS pa.lf,vI tn.1,sl ak.K tv.1]) (css:=[[vS pa.av],[vS pa.lf],[vI tn.1],[sl ak.K tv.1]]) Q T sF yK z168 Q ⟨(cells_one (ai Q)),⟨(cells_one (ai Q)),⟨(cells_one (ai Q)),⟨(cells_one dR),T⟩⟩⟩⟩ Q Q<|sv 1 ?_
 refine .fin<|wd mX 10 576<|gl 3 [1]<|el H λtq hau H=>cl Q (cL 109) Q (eO.c hau)<|go 1<|Dv.lD (qs:=[vB false,vS pa.av,vS pa.lf,vI tn.1,sl ak.K tv.1,vI 0,vI (aE (a2+tq))]) (css:=[[vB false,vS pa.av,vS pa.lf,vI tn.1,sl ak.K tv.1],[vI 0],[vI (aE (a2+tq))]]) Q T EK HB z227 Q ⟨(bx (ae (ai Q) (ae (ai Q) (ae (ai Q) (ae (ai Q) (ae dR cN)))))),⟨(cells_one (ai Q)),⟨(cells_one (ai Q)),T⟩⟩⟩ Q Q<|Dv.box Q T Q cA pD λbd=>Dv.aJ hai Q T Q<|fp hai Q T Q nz<|sv 5 ?_
 refine .fin<|wr 5 4<|go 1<|vg (cF.eF 1 Q) λgv hav=>?_
 refine vg (bI.eF 5 Q) λgw haw=>?_
 refine vg (jU.shut (p:=(⟨.pointer (some ⟨bd,0,none⟩),Q⟩:OV)) (m:=(⟨(⟨false,pa.av,pa.lf,tn.1,tv.1⟩:km),0,aE (a2+tq)⟩:jU)) bd Q (pm 10 [4,0,1,2,3,5,6,7,8,9])) λ_ _=>?_
 refine vg (sQ (O:=jU.O) 0 Q) λ_ _=>?_
 refine el H λtu hax H=>mH 10 [7,2,3,4,1,0,5,6,8,9] (cL 104) (Tr.fG (fm.c hax (b0_:=gn.1) (v0_0:=gn.2.1) (v0_1:=gn.2.2.1) (v0_2:=(⟨.pointer (some ⟨bd,0,none⟩),Q⟩:OV)) (v0_3:=gv.2.1) (v0_4:=gv.2.2) (d0_0:=gv.1) (e0_0:=hav) (d0_1:=gw) (e0_1:=haw)) (.cons (eb hai) .nil)) ?_
 refine sy 9 ?_
 refine go 2<|wg (cF.shut (p:=gn.2.1) (m:=tv.2) (gv.1,gv.2.1,gv.2.2) hav (pm 10 [2,3,4,0,1,5,6,7,8,9])) λ_ _=>?_
 refine wg (bI.shut (p:=gn.2.2.1) (m:=tn.2.2) gw haw (pm 8 [2,0,1,3,4,5,6,7])) λ_ _=>?_
 refine wg (aO.shut (p:=p0_) (m:=(⟨tv.2,pa.av,pa.lf,tn.2.2,some (⟨(⟨false,pa.av,pa.lf,tn.1,tv.1⟩:km),0,aE (a2+tq)⟩:jU)⟩:aO)) (gn.1,gn.2.1,gn.2.2.1,(⟨.pointer (some ⟨bd,0,none⟩),Q⟩:OV)) hai (pm 8 [5,1,0,2,3,4,6,7])) λ_ _=>?_
 cases H.out;exact rt i2 Q () 5 [1,3,4,0,2] 3 (.cons (aL Q sF Q xt (ab 4 Q) Q) (.cons (aQ Q) (.cons (aQ Q) .nil)))
theorem oq.c (h:oq.f k a0=some r):Pt prog 185 [agg (ak.enc a0)] (vB r):=by
 refine pf func185 h λR0 F H=>?_
 refine wr 2 1<|Dv.box Q T Q cA nofun λba=>go 1<|wr 4 0<|gl 1 [0]<|el H λta haa H=>cl Q (cL 142) Q (jX.c haa)<|gq 2 ?_
 cases H.out;exact ek 1
theorem qc.c (h:qc.f k a0=some r):Pt prog 110 [agg (km.enc a0)] (vB r):=by
 refine pf func110 h λR0 F H=>?_
 refine wr 2 1<|Dv.box Q T Q cA nofun λba=>go 1<|wr 4 0<|gl 2 [0]<|el H λta haa H=>cl Q (cL 181) Q (Pt.fG (iy.c haa) (.cons cG (.cons (tA (cL 185) (by rintro _ _ ⟨a0_,r_,h_,rfl,rfl⟩;exact oq.c h_)) .nil)))<|go 1<|wr 47 0<|gl 2 [0]<|el H λtc hac H=>cl Q (cL 26) Q (ew.c hac)<|gp 1 ?_
 cases ca:tc
 ·have H:=H.cf ca
  refine gq 43 ?_
  cases H.out;exact ek 1
 have H:=H.ct ca
 refine gl 2 [0]<|el H λte had H=>Dv.call Q (gg Q) (cL 26) Q (ew.c had)<|gp 2 ?_
 cases cb:te
 ·have H:=H.cf cb
  refine gq 38 ?_
  cases H.out;exact ek 1
 have H:=H.ct cb
 refine jf 7 [0,0] ?_
 cases cg:!decide (a0.dL=a0.yo)
 ·have H:=H.cf cg
  refine gq 31 ?_
  cases H.out;exact ek 1
 have H:=H.ct cg
 refine jf 5 [0] ?_
 cases ci:decide (1<=a0.cC)
 ·have H:=H.cf ci
  refine gq 26 ?_
  cases H.out;exact ek 1
 have H:=H.ct ci
 refine jf 5 [0] ?_
 cases cj:decide (a0.cC<=1099511627776)
 ·have H:=H.cf cj
  refine gq 21 ?_
  cases H.out;exact ek 1
 have H:=H.ct cj
 refine gl 2 [0]<|Dv.jw Q (gg Q) Q fk<|gp 3 ?_
 cases ck:decide ((a0.ke.length:Int)<=100)
 ·have H:=H.cf ck
  refine gq 15 ?_
  cases H.out;exact ek 1
 have H:=H.ct ck
 refine gp 4 ?_
 cases cn:!ta
 ·have H:=H.cf cn
  refine gq 11 ?_
  cases H.out;exact ek 1
 have H:=H.ct cn
 refine jf 4 [0] ?_
 cases co:!a0.sw
 rotate_left
 ·have H:=H.ct co
  refine gq 7 ?_
  cases H.out;exact ek 1
 have H:=H.cf co
 refine gl 2 [0]<|Dv.jw Q (gg Q) Q fk<|gq 4 ?_
 cases H.out;exact ek 1
theorem ri.c (h:ri.f k a0=some r):Tr prog 114 [agg (ak.enc a0)] [] (γ:=OV) (λ_=>True) (λg=>lg [eq g.1,vI r.2]) (λg=>[own (aP .u8) g.1 r.1]):=by
 refine tf func114 h λR0 F H=>?_
 refine wr 3 1<|Dv.box Q T Q cA nofun λba=>go 2<|WP.seq<|wr 3 0<|gl 1 [0]<|el H λta haa H=>cl Q (cL 142) Q (jX.c haa)<|go 1<|ce H ?_ ?_ <;> intro H
 ·refine so<|wg (dX (aP .u8) none) λ_ _=>?_
  cases H.out;exact et iQ 2 [1,0] 1
 refine WP.skip<|wr 4 2<|gl 1 [0]<|el H λtc hac H=>cx 1 [0] (cL 186) (du.c hac) nofun λgb _=>?_
 refine gq 2 ?_
 cases H.out;exact et gb 2 [1,0] 1
theorem ic.c (h:ic.f k a0=some r):Tr prog 69 [agg (km.enc a0)] [] (γ:=OV) (λ_=>True) (λg=>lg [eq g.1,vI r.2]) (λg=>[own (aP .u8) g.1 r.1]):=by
 refine tf func69 h λR0 F H=>?_
 refine wr 3 1<|Dv.box Q T Q cA nofun λba=>go 2<|WP.seq<|wr 3 0<|gl 1 [0]<|el H λta haa H=>cl Q (cL 110) Q (qc.c haa)<|go 1<|ce H ?_ ?_ <;> intro H
 ·refine so<|wg (dX (aP .u8) none) λ_ _=>?_
  cases H.out;exact et iQ 2 [1,0] 1
 refine WP.skip<|wr 4 4<|gl 2 [0]<|vg (dX (aP .u8) none) λ_ _=>?_
 refine el H λtc hac H=>cx 2 [0,1] (cL 111) (nF.c hac (p0_:=iQ)) nofun λgb _=>?_
 refine go 1<|wr 5 8<|gl 3 [1]<|el H λte had H=>cx 2 [0,1] (cL 112) (kH.c had (p0_:=gb)) nofun λgc _=>?_
 refine go 1<|wr 5 8<|gl 3 [1]<|el H λtg hae H=>cx 2 [0,1] (cL 112) (kH.c hae (p0_:=gc)) nofun λgi _=>?_
 refine go 1<|wr 5 8<|gl 3 [1]<|el H λtj haf H=>cx 2 [0,1] (cL 113) (lay_Number.c haf (p0_:=gi)) nofun λgj _=>?_
 refine go 1<|wr 6 16<|gl 3 [1]<|Dv.jw Q T Q fk<|el H λtm hag H=>cx 2 [0,1] (cL 113) (lay_Number.c hag (p0_:=gj)) nofun λgk _=>?_
 refine go 1<|WP.kW H (λqa:(Int×Bool×(List Int))×OV=>qa.1) (λqa=>[(4,eq qa.2.1)]) (λqa=>[ar ba 168 (km.enc a0),own (aP .u8) qa.2.1 qa.1.2.2]++F) (λqa H=>?_) (λH=>?_)
 ·obtain⟨pa,va⟩:=qa
  refine sp ?_
  cases H.out;exact et va 2 [0,1] 1
 refine wr 4 0<|gl 2 [1]<|Dv.jw Q T Q fk<|go 1<|WP.block<|ws 2 [1,0] 0 ?_
 refine lq (λj_ (pc:Int×(List Int)×OV)=>ic.l0 k a0 j_ pc.1 pc.2.1) (0,tm,gk) H [33,34] (λpc=>[(4,eq pc.2.2.1),(35,vI pc.1)]) (λpc=>[(1,own (aP .u8) pc.2.2.1 pc.2.1)]) ?_
 rintro j_ ⟨xa,xb,vb⟩ H
 rcases j_ with _ | ja
 ·exact(aW.no H).elim
 try dsimp only at H
 rw [ic.l0] at H
 refine so<|WP.seq<|cf H ?_ ?_ <;> intro H
 ·refine WP.exit ?_
  have H:=H.out
  exact jn ((xa,decide (xa<(a0.ke.length:Int)),xb),vb) H
 refine WP.skip<|WP.seq<|WP.block<|wr 4 12<|gr H λgn H=>Dv.lE Q T Q Q fk fO ij gn.1 gn.2<|mY Q T Q nP Q<|al Q T qP nofun λbc=>sy 0 ?_
 refine .fin<|wr 7 2<|gl 1 [0]<|el H λtn hah H=>cx 3 [0,1,2] (cL 114) (ri.c hah) nofun λgt _=>?_
 refine go 1<|dZ Q T Q Q<|dZ Q T Q Q<|go 2<|rg 5 8<|go 2<|Dv.gh (o4 (E':=[(4,eq vb.1),(6,iT bc),(7,sl (aP .u8) tn.1),(33,sl ak.K a0.ke),(34,vI (a0.ke.length:Int)),(35,vI xa),(36,vB (decide (xa<(a0.ke.length:Int)))),(44,eq vb.1),(45,sl (aP .u8) tn.1)]) (l':=[ar bc 80 (ak.enc (ak.K.at a0.ke xa)),ar ba 168 (km.enc a0),own (aP .u8) vb.1 xb]++F) 0 Q (ao Q aB (ao Q aB (ao Q jx (ao Q aB (ao Q aB (ao Q aB (ao Q aB (ao Q aB (ao Q jx iG))))))))) (fI (.cons bn (.cons bn (.cons bn .nil))) λ_=>bn)) (λ_ _=>?_)
 refine Dv.cvbs Q T Q Aj U5 U9<|el H λtp hai H=>cx 3 [2,0,1] (cL 112) (kH.c hai (p0_:=vb)) nofun λgu _=>?_
 refine go 1<|rg 2 0<|go 2<|ns 3 [1,2,0] 1 ?_
 exact bk ja (aE (xa+1),tp,gu) H
theorem server_Server_Send.c {p0_:OV} (h:server_Server_Send.f k a0=some r):Tr prog 40 [eq p0_.1] [bY.O p0_ a0] (γ:=OV) (λ_=>True) (λg=>eq g.1) (λg=>[bY.O p0_ r.2,own (kF (aP .u8)) g.1 r.1]):=by
  unfold server_Server_Send.f at h
  refine tb func40 ntmps40 h λR0 F H=>?_
  refine WP.seq ?_
  refine rg 1 0 ?_
  refine Dv.uW Q T Q ?_
  refine .fin ?_
  refine WP.seq ?_
  refine rg 1 0 ?_
  refine Dv.uW Q T Q ?_
  refine .fin ?_
  obtain⟨gb,H⟩:=aW.aF H
  refine WP.xX (β:=List Nat×OV) (λb=>b.1.Perm (List.range a0.aa.length)) (λb=>[(3,eq b.2.1),(0,eq p0_.1)]) (λb=>[own az b.2.1 (eD a0.aa (λe=>some e.1) b.1),bY.O p0_ a0]++F) (λb hb=>?_) ?_
  · obtain⟨is,va⟩:=b
    replace hb:is.Perm (List.range a0.aa.length):=hb
    have hp:=pP (f:=(λe=>some e.1)) hb
    have hs:slices_Sort_string.f (eD a0.aa (λe=>some e.1) is)=some (aY (a0.aa.map (·.1))):=by
      have e7:a0.aa.filterMap (λe=>some e.1)=a0.aa.map (·.1):=by rw [<- List.filterMap_eq_map];rfl
      rw [e7] at hp
      unfold slices_Sort_string.f Sp.aF
      rw [if_pos (by rw [hp.length_eq,List.length_map];omega),xG hp]
    refine wr 2 2<|go 1<|cx 2 [0,1] (cL 67) (slices_Sort_string.c hs (p0_:=va)) nofun λ_ _=>.fin ?_
    refine WP.gh (l':=λ_:Unit=>[own az va.1 (aY (a0.aa.map (·.1))),bY.O p0_ a0]++F) (bL (ok:=λ_=>True) λR w k=>⟨(),T,k⟩) (λ_ _=>?_)
    refine WP.seq ?_
    refine rg 1 0 ?_
    refine Dv.uW Q T Q ?_
    refine .fin ?_
    refine WP.kW H (λqa:(Int×Bool×bY×(List (List Int)))×OV=>qa.1) (λqa=>[(5,eq qa.2.1)]) (λqa=>[own az va.1 (aY (a0.aa.map (·.1))),bY.O p0_ qa.1.2.2.1,own (kF (aP .u8)) qa.2.1 qa.1.2.2.2]++F) (λqa H=>?_) (λH=>?_)
    · obtain⟨pa,vb⟩:=qa
      refine WP.seq ?_
      refine rg 2 0 ?_
      refine Dv.mv Q T Q ?_
      refine Dv.uW Q T Q ?_
      refine .fin ?_
      obtain rfl:=aW.out H
      exact WP.u7 (λ_ _ h=>h) Q vb T (.cons (aQ Q) .nil) Q (oX (L:=[own az va.1 (aY (a0.aa.map (·.1))),bY.O p0_ pa.2.2.1,own (kF (aP .u8)) vb.1 pa.2.2.2]) (F:=F) [0,1,2] 1 Q Q Q)
    · refine WP.seq ?_
      refine rg 3 0 ?_
      refine Dv.mv Q T Q ?_
      refine Dv.kl Q T Q (ab 0 Q) iu ?_
      refine Dv.mv Q T Q ?_
      refine .fin ?_
      refine WP.block ?_
      refine WP.gh (bL (dX (kF (aP .u8)) none)) (λ_ _=>?_)
      refine WP.gh (l':=λ_=>[own az va.1 (aY (a0.aa.map (·.1))),bY.O p0_ a0,own (kF (aP .u8)) iQ.1 ([]:List (List Int))]++F) (bL (nX (L:=[own (kF (aP .u8)) iQ.1 ([]:List (List Int)),own az va.1 (aY (a0.aa.map (·.1))),bY.O p0_ a0]) (F:=F) [1,2,0] 0 Q Q Q)) (λ_ _=>?_)
      refine WP.HE (λj_ (pc:Int×bY×(List (List Int))×OV)=>server_Server_Send.l0 k a0 j_ pc.1 pc.2.1 pc.2.2.1) (0,a0,([]:List (List Int)),iQ) H (λpc=>[(0,eq p0_.1),(5,eq pc.2.2.2.1),(28,eq va.1),(29,vI ((aY (a0.aa.map (·.1))).length:Int)),(30,vI pc.1)]) (λpc=>[own az va.1 (aY (a0.aa.map (·.1))),bY.O p0_ pc.2.1,own (kF (aP .u8)) pc.2.2.2.1 pc.2.2.1]++F) (aH Q (aH Q (aH Q (aH Q (aH Q dD))))) (List.Perm.refl _) ?_
      rintro j_ ⟨xa,xb,xc,vd⟩ H
      rcases j_ with _ | ja
      · exact(aW.no H).elim
      try dsimp only at H
      rw [server_Server_Send.l0] at H
      refine WP.seq ?_
      refine rg 1 0 ?_
      refine Dv.bin Q T Q Q (λ_=>E7) ?_
      refine .fin ?_
      refine WP.seq ?_
      refine WP.cond Q (λca=>?_) (λca=>?_)
      · have H:=H.ct ca
        refine WP.skip ?_
        refine WP.seq ?_
        refine WP.block ?_
        refine WP.seq ?_
        refine rg 3 0 ?_
        obtain⟨gc,H⟩:=aW.aF H
        have haa:xa.toNat<(aY (a0.aa.map (·.1))).length:=cQ gc
        refine Dv.na Q T Q (ab 0 Q) Q iu U9 c9 gc.1 gc.2 ?_
        refine Dv.D5 (j:=xa.toNat) (f:=0) (p:=vS ((aY (a0.aa.map (·.1))).getD xa.toNat default)) Q T Q (ab 0 Q) haa U9 Q Q ?_
        refine Dv.uW Q T Q ?_
        refine .fin ?_
        refine WP.seq ?_
        refine WP.gh (l':=λ(gi:Nat×OV×OV×OV×OV×OV×OV×OV×OV×OV)=>[ar gi.1 102 [vS xb.av,eq gi.2.1.1,eq gi.2.2.1.1,eq gi.2.2.2.1.1,eq gi.2.2.2.2.1.1,eq gi.2.2.2.2.2.1.1,eq gi.2.2.2.2.2.2.1.1,eq gi.2.2.2.2.2.2.2.1.1,eq gi.2.2.2.2.2.2.2.2.1.1,eq gi.2.2.2.2.2.2.2.2.2.1],bI.O gi.2.1 xb.aG,bI.O gi.2.2.1 xb.aq,au.O gi.2.2.2.1 xb.fall.aK,dE.O gi.2.2.2.2.1 xb.fall.aA,bG.O gi.2.2.2.2.2.1 xb.fall.ax,bJ.O gi.2.2.2.2.2.2.1 xb.fall.an,bE.O gi.2.2.2.2.2.2.2.1 xb.fall.bQ,Seen.O gi.2.2.2.2.2.2.2.2.1 xb.aI,iq Value.string aO.O gi.2.2.2.2.2.2.2.2.2.1 xb.aa,own az va.1 (aY (a0.aa.map (·.1))),own (kF (aP .u8)) vd.1 xc]++F) (bL (bY.eF 1 Q)) (λgi hac=>?_)
        refine WP.gh (l':=λza:List OV=>[mp Value.string (λp:OV=>eq p.1) gi.2.2.2.2.2.2.2.2.2.1 (aU xb.aa za),lQ aO.O xb.aa za,ar gi.1 102 [vS xb.av,eq gi.2.1.1,eq gi.2.2.1.1,eq gi.2.2.2.1.1,eq gi.2.2.2.2.1.1,eq gi.2.2.2.2.2.1.1,eq gi.2.2.2.2.2.2.1.1,eq gi.2.2.2.2.2.2.2.1.1,eq gi.2.2.2.2.2.2.2.2.1.1,eq gi.2.2.2.2.2.2.2.2.2.1],bI.O gi.2.1 xb.aG,bI.O gi.2.2.1 xb.aq,au.O gi.2.2.2.1 xb.fall.aK,dE.O gi.2.2.2.2.1 xb.fall.aA,bG.O gi.2.2.2.2.2.1 xb.fall.ax,bJ.O gi.2.2.2.2.2.2.1 xb.fall.an,bE.O gi.2.2.2.2.2.2.2.1 xb.fall.bQ,Seen.O gi.2.2.2.2.2.2.2.2.1 xb.aI,own az va.1 (aY (a0.aa.map (·.1))),own (kF (aP .u8)) vd.1 xc]++F) (bL (kn 9 Q)) (λza had=>?_)
        obtain⟨gj,H⟩:=aW.aF H
        refine WP.gh (l':=λ_:Unit=>[aO.O ((mget (aU xb.aa za) ((aY (a0.aa.map (·.1))).getD xa.toNat default)).getD dK) ((mget xb.aa ((aY (a0.aa.map (·.1))).getD xa.toNat default)).getD default),lX aO.O xb.aa za ((aY (a0.aa.map (·.1))).getD xa.toNat default),mp Value.string (λp:OV=>eq p.1) gi.2.2.2.2.2.2.2.2.2.1 (aU xb.aa za),ar gi.1 102 [vS xb.av,eq gi.2.1.1,eq gi.2.2.1.1,eq gi.2.2.2.1.1,eq gi.2.2.2.2.1.1,eq gi.2.2.2.2.2.1.1,eq gi.2.2.2.2.2.2.1.1,eq gi.2.2.2.2.2.2.2.1.1,eq gi.2.2.2.2.2.2.2.2.1.1,eq gi.2.2.2.2.2.2.2.2.2.1],bI.O gi.2.1 xb.aG,bI.O gi.2.2.1 xb.aq,au.O gi.2.2.2.1 xb.fall.aK,dE.O gi.2.2.2.2.1 xb.fall.aA,bG.O gi.2.2.2.2.2.1 xb.fall.ax,bJ.O gi.2.2.2.2.2.2.1 xb.fall.an,bE.O gi.2.2.2.2.2.2.2.1 xb.fall.bQ,Seen.O gi.2.2.2.2.2.2.2.2.1 xb.aI,own az va.1 (aY (a0.aa.map (·.1))),own (kF (aP .u8)) vd.1 xc]++F) (bL (oi had Q gj (bN (L:=[mp Value.string (λp:OV=>eq p.1) gi.2.2.2.2.2.2.2.2.2.1 (aU xb.aa za),lQ aO.O xb.aa za,ar gi.1 102 [vS xb.av,eq gi.2.1.1,eq gi.2.2.1.1,eq gi.2.2.2.1.1,eq gi.2.2.2.2.1.1,eq gi.2.2.2.2.2.1.1,eq gi.2.2.2.2.2.2.1.1,eq gi.2.2.2.2.2.2.2.1.1,eq gi.2.2.2.2.2.2.2.2.1.1,eq gi.2.2.2.2.2.2.2.2.2.1],bI.O gi.2.1 xb.aG,bI.O gi.2.2.1 xb.aq,au.O gi.2.2.2.1 xb.fall.aK,dE.O gi.2.2.2.2.1 xb.fall.aA,bG.O gi.2.2.2.2.2.1 xb.fall.ax,bJ.O gi.2.2.2.2.2.2.1 xb.fall.an,bE.O gi.2.2.2.2.2.2.2.1 xb.fall.bQ,Seen.O gi.2.2.2.2.2.2.2.2.1 xb.aI,own az va.1 (aY (a0.aa.map (·.1))),own (kF (aP .u8)) vd.1 xc]) (F:=F) [1,0,2,3,4,5,6,7,8,9,10,11,12] kr Q Q))) (λ_ _=>?_)
        refine WP.Jh (kf:=18) mX [(0,false),(1,false),(2,false),(3,false),(4,false),(5,false),(6,false),(7,false),(8,false),(9,false),(10,false),(11,false),(12,false),(13,true),(14,false),(15,false),(16,false),(17,false)] [(19,true),(20,false),(21,false)] Q kr ?_
        refine Dv.mv Q T Q ?_
        refine Dv.aJ hac Q T Q ?_
        refine fp hac Q T Q p9 ?_
        refine jf 1 [3] ?_
        refine Dv.mv Q T Q ?_
        refine Dv.Be dK Q T Q (ab 2 Q) Q yW (dP U9) GX (λ_=>Q) ?_
        refine Dv.mv Q T Q ?_
        refine Dv.aJ hac Q T Q ?_
        refine fp hac Q T Q iS ?_
        refine gp 1 ?_
        refine jf 1 [3] ?_
        refine Dv.mv Q T Q ?_
        obtain⟨ta,hae,H⟩:=aW.call H
        refine Dv.D1 (B:=[ar gi.1 102 [vS xb.av,eq gi.2.1.1,eq gi.2.2.1.1,eq gi.2.2.2.1.1,eq gi.2.2.2.2.1.1,eq gi.2.2.2.2.2.1.1,eq gi.2.2.2.2.2.2.1.1,eq gi.2.2.2.2.2.2.2.1.1,eq gi.2.2.2.2.2.2.2.2.1.1,eq gi.2.2.2.2.2.2.2.2.2.1],bI.O gi.2.1 xb.aG]) (F:=[aO.O ((mget (aU xb.aa za) ((aY (a0.aa.map (·.1))).getD xa.toNat default)).getD dK) ((mget xb.aa ((aY (a0.aa.map (·.1))).getD xa.toNat default)).getD default),lX aO.O xb.aa za ((aY (a0.aa.map (·.1))).getD xa.toNat default),mp Value.string (λp:OV=>eq p.1) gi.2.2.2.2.2.2.2.2.2.1 (aU xb.aa za),bI.O gi.2.2.1 xb.aq,au.O gi.2.2.2.1 xb.fall.aK,dE.O gi.2.2.2.2.1 xb.fall.aA,bG.O gi.2.2.2.2.2.1 xb.fall.ax,bJ.O gi.2.2.2.2.2.2.1 xb.fall.an,bE.O gi.2.2.2.2.2.2.2.1 xb.fall.bQ,Seen.O gi.2.2.2.2.2.2.2.2.1 xb.aI,own az va.1 (aY (a0.aa.map (·.1))),own (kF (aP .u8)) vd.1 xc]++F) Q T (cL 9) Q (Tr.fG (eJ.c (b:=gi.1) (qs:=[vS xb.av,eq gi.2.1.1,eq gi.2.2.1.1,eq gi.2.2.2.1.1,eq gi.2.2.2.2.1.1,eq gi.2.2.2.2.2.1.1,eq gi.2.2.2.2.2.2.1.1,eq gi.2.2.2.2.2.2.2.1.1,eq gi.2.2.2.2.2.2.2.2.1.1,eq gi.2.2.2.2.2.2.2.2.2.1]) (p:=gi.2.1) Q hae) (.cons (eb hac) .nil)) (bN (L:=[aO.O ((mget (aU xb.aa za) ((aY (a0.aa.map (·.1))).getD xa.toNat default)).getD dK) ((mget xb.aa ((aY (a0.aa.map (·.1))).getD xa.toNat default)).getD default),lX aO.O xb.aa za ((aY (a0.aa.map (·.1))).getD xa.toNat default),mp Value.string (λp:OV=>eq p.1) gi.2.2.2.2.2.2.2.2.2.1 (aU xb.aa za),ar gi.1 102 [vS xb.av,eq gi.2.1.1,eq gi.2.2.1.1,eq gi.2.2.2.1.1,eq gi.2.2.2.2.1.1,eq gi.2.2.2.2.2.1.1,eq gi.2.2.2.2.2.2.1.1,eq gi.2.2.2.2.2.2.2.1.1,eq gi.2.2.2.2.2.2.2.2.1.1,eq gi.2.2.2.2.2.2.2.2.2.1],bI.O gi.2.1 xb.aG,bI.O gi.2.2.1 xb.aq,au.O gi.2.2.2.1 xb.fall.aK,dE.O gi.2.2.2.2.1 xb.fall.aA,bG.O gi.2.2.2.2.2.1 xb.fall.ax,bJ.O gi.2.2.2.2.2.2.1 xb.fall.an,bE.O gi.2.2.2.2.2.2.2.1 xb.fall.bQ,Seen.O gi.2.2.2.2.2.2.2.2.1 xb.aI,own az va.1 (aY (a0.aa.map (·.1))),own (kF (aP .u8)) vd.1 xc]) (F:=F) [3,4,0,1,2,5,6,7,8,9,10,11,12,13] kr Q Q) ?_
        refine Dv.float ?_ (λhk_=>?_)
        · refine qn Q T vG (mA (λba=>qV (L:=[ar ba 168 [vB false,vS eE,vS eE,vI 0,jQ],aO.O ((mget (aU xb.aa za) ((aY (a0.aa.map (·.1))).getD xa.toNat default)).getD dK) ((mget xb.aa ((aY (a0.aa.map (·.1))).getD xa.toNat default)).getD default),lX aO.O xb.aa za ((aY (a0.aa.map (·.1))).getD xa.toNat default),mp Value.string (λp:OV=>eq p.1) gi.2.2.2.2.2.2.2.2.2.1 (aU xb.aa za),ar gi.1 102 [vS xb.av,eq gi.2.1.1,eq gi.2.2.1.1,eq gi.2.2.2.1.1,eq gi.2.2.2.2.1.1,eq gi.2.2.2.2.2.1.1,eq gi.2.2.2.2.2.2.1.1,eq gi.2.2.2.2.2.2.2.1.1,eq gi.2.2.2.2.2.2.2.2.1.1,eq gi.2.2.2.2.2.2.2.2.2.1],bI.O gi.2.1 xb.aG,bI.O gi.2.2.1 xb.aq,au.O gi.2.2.2.1 xb.fall.aK,dE.O gi.2.2.2.2.1 xb.fall.aA,bG.O gi.2.2.2.2.2.1 xb.fall.ax,bJ.O gi.2.2.2.2.2.2.1 xb.fall.an,bE.O gi.2.2.2.2.2.2.2.1 xb.fall.bQ,Seen.O gi.2.2.2.2.2.2.2.2.1 xb.aI,own az va.1 (aY (a0.aa.map (·.1))),own (kF (aP .u8)) vd.1 xc]) (F:=F) ([ar ba 168 [vB false,vS eE,vS eE,vI 0,jQ],aO.O ((mget (aU xb.aa za) ((aY (a0.aa.map (·.1))).getD xa.toNat default)).getD dK) ((mget xb.aa ((aY (a0.aa.map (·.1))).getD xa.toNat default)).getD default),lX aO.O xb.aa za ((aY (a0.aa.map (·.1))).getD xa.toNat default),mp Value.string (λp:OV=>eq p.1) gi.2.2.2.2.2.2.2.2.2.1 (aU xb.aa za),bI.O gi.2.2.1 xb.aq,au.O gi.2.2.2.1 xb.fall.aK,dE.O gi.2.2.2.2.1 xb.fall.aA,bG.O gi.2.2.2.2.2.1 xb.fall.ax,bJ.O gi.2.2.2.2.2.2.1 xb.fall.an,bE.O gi.2.2.2.2.2.2.2.1 xb.fall.bQ,Seen.O gi.2.2.2.2.2.2.2.2.1 xb.aI,own az va.1 (aY (a0.aa.map (·.1))),own (kF (aP .u8)) vd.1 xc]++F) [4,5,0,1,2,3,6,7,8,9,10,11,12,13,14] kr Q Q) pU) (λba=>?_)
          obtain⟨tc,haf,H⟩:=aW.call H
          refine Dv.lS (pre:=[aO.O ((mget (aU xb.aa za) ((aY (a0.aa.map (·.1))).getD xa.toNat default)).getD dK) ((mget xb.aa ((aY (a0.aa.map (·.1))).getD xa.toNat default)).getD default),au.O gi.2.2.2.1 xb.fall.aK]) (F:=[ar ba 168 [vB false,vS eE,vS eE,vI 0,jQ],lX aO.O xb.aa za ((aY (a0.aa.map (·.1))).getD xa.toNat default),mp Value.string (λp:OV=>eq p.1) gi.2.2.2.2.2.2.2.2.2.1 (aU xb.aa za),ar gi.1 102 [vS xb.av,eq gi.2.1.1,eq gi.2.2.1.1,eq gi.2.2.2.1.1,eq gi.2.2.2.2.1.1,eq gi.2.2.2.2.2.1.1,eq gi.2.2.2.2.2.2.1.1,eq gi.2.2.2.2.2.2.2.1.1,eq gi.2.2.2.2.2.2.2.2.1.1,eq gi.2.2.2.2.2.2.2.2.2.1],bI.O gi.2.1 xb.aG,bI.O gi.2.2.1 xb.aq,dE.O gi.2.2.2.2.1 xb.fall.aA,bG.O gi.2.2.2.2.2.1 xb.fall.ax,bJ.O gi.2.2.2.2.2.2.1 xb.fall.an,bE.O gi.2.2.2.2.2.2.2.1 xb.fall.bQ,Seen.O gi.2.2.2.2.2.2.2.2.1 xb.aI,own az va.1 (aY (a0.aa.map (·.1))),own (kF (aP .u8)) vd.1 xc]++F) (λ_:Unit=>[aO.O ((mget (aU xb.aa za) ((aY (a0.aa.map (·.1))).getD xa.toNat default)).getD dK) tc.2.2.2,au.O gi.2.2.2.1 xb.fall.aK,ar ba 168 [vB false,vS eE,vS eE,vI 0,jQ],lX aO.O xb.aa za ((aY (a0.aa.map (·.1))).getD xa.toNat default),mp Value.string (λp:OV=>eq p.1) gi.2.2.2.2.2.2.2.2.2.1 (aU xb.aa za),ar gi.1 102 [vS xb.av,eq gi.2.1.1,eq gi.2.2.1.1,eq gi.2.2.2.1.1,eq gi.2.2.2.2.1.1,eq gi.2.2.2.2.2.1.1,eq gi.2.2.2.2.2.2.1.1,eq gi.2.2.2.2.2.2.2.1.1,eq gi.2.2.2.2.2.2.2.2.1.1,eq gi.2.2.2.2.2.2.2.2.2.1],bI.O gi.2.1 xb.aG,bI.O gi.2.2.1 xb.aq,dE.O gi.2.2.2.2.1 xb.fall.aA,bG.O gi.2.2.2.2.2.1 xb.fall.ax,bJ.O gi.2.2.2.2.2.2.1 xb.fall.an,bE.O gi.2.2.2.2.2.2.2.1 xb.fall.bQ,Seen.O gi.2.2.2.2.2.2.2.2.1 xb.aI,own az va.1 (aY (a0.aa.map (·.1))),own (kF (aP .u8)) vd.1 xc]++F) Q T (cL 68) Q (jq.c haf (p0_:=((mget (aU xb.aa za) ((aY (a0.aa.map (·.1))).getD xa.toNat default)).getD dK)) (p1_:=gi.2.2.2.1)) (bN (L:=[ar ba 168 [vB false,vS eE,vS eE,vI 0,jQ],aO.O ((mget (aU xb.aa za) ((aY (a0.aa.map (·.1))).getD xa.toNat default)).getD dK) ((mget xb.aa ((aY (a0.aa.map (·.1))).getD xa.toNat default)).getD default),lX aO.O xb.aa za ((aY (a0.aa.map (·.1))).getD xa.toNat default),mp Value.string (λp:OV=>eq p.1) gi.2.2.2.2.2.2.2.2.2.1 (aU xb.aa za),ar gi.1 102 [vS xb.av,eq gi.2.1.1,eq gi.2.2.1.1,eq gi.2.2.2.1.1,eq gi.2.2.2.2.1.1,eq gi.2.2.2.2.2.1.1,eq gi.2.2.2.2.2.2.1.1,eq gi.2.2.2.2.2.2.2.1.1,eq gi.2.2.2.2.2.2.2.2.1.1,eq gi.2.2.2.2.2.2.2.2.2.1],bI.O gi.2.1 xb.aG,bI.O gi.2.2.1 xb.aq,au.O gi.2.2.2.1 xb.fall.aK,dE.O gi.2.2.2.2.1 xb.fall.aA,bG.O gi.2.2.2.2.2.1 xb.fall.ax,bJ.O gi.2.2.2.2.2.2.1 xb.fall.an,bE.O gi.2.2.2.2.2.2.2.1 xb.fall.bQ,Seen.O gi.2.2.2.2.2.2.2.2.1 xb.aI,own az va.1 (aY (a0.aa.map (·.1))),own (kF (aP .u8)) vd.1 xc]) (F:=F) [1,7,0,2,3,4,5,6,8,9,10,11,12,13,14] kr Q Q) Q (λ_=>BG (ee kr)) (λ_ _=>?_)
          refine Dv.mv Q T Q ?_
          refine Dv.ext Q T Q Q ?_
          refine Dv.ext Q T Q Q ?_
          refine Dv.ext Q T Q Q ?_
          refine sx 2 Q T Q Q (bx (km.K.one _)) HX Q Q Q pD ?_
          refine Dv.uW Q T Q ?_
          refine Dv.uW Q T Q ?_
          refine .fin ?_
          refine WP.seq ?_
          refine rg 1 0 ?_
          refine Dv.mv Q T Q ?_
          refine .fin ?_
          refine WP.cond Q (λcb=>?_) (λcb=>?_)
          · have H:=H.ct cb
            refine WP.seq ?_
            refine rg 7 2 ?_
            refine jf 1 [2] ?_
            obtain⟨te,hag,H⟩:=aW.call H
            refine Dv.lS (pre:=[]) (F:=[aO.O ((mget (aU xb.aa za) ((aY (a0.aa.map (·.1))).getD xa.toNat default)).getD dK) tc.2.2.2,au.O gi.2.2.2.1 xb.fall.aK,ar ba 168 (km.enc tc.1),lX aO.O xb.aa za ((aY (a0.aa.map (·.1))).getD xa.toNat default),mp Value.string (λp:OV=>eq p.1) gi.2.2.2.2.2.2.2.2.2.1 (aU xb.aa za),ar gi.1 102 [vS xb.av,eq gi.2.1.1,eq gi.2.2.1.1,eq gi.2.2.2.1.1,eq gi.2.2.2.2.1.1,eq gi.2.2.2.2.2.1.1,eq gi.2.2.2.2.2.2.1.1,eq gi.2.2.2.2.2.2.2.1.1,eq gi.2.2.2.2.2.2.2.2.1.1,eq gi.2.2.2.2.2.2.2.2.2.1],bI.O gi.2.1 xb.aG,bI.O gi.2.2.1 xb.aq,dE.O gi.2.2.2.2.1 xb.fall.aA,bG.O gi.2.2.2.2.2.1 xb.fall.ax,bJ.O gi.2.2.2.2.2.2.1 xb.fall.an,bE.O gi.2.2.2.2.2.2.2.1 xb.fall.bQ,Seen.O gi.2.2.2.2.2.2.2.2.1 xb.aI,own az va.1 (aY (a0.aa.map (·.1))),own (kF (aP .u8)) vd.1 xc]++F) (λgk:OV=>[own (aP .u8) gk.1 te.1,aO.O ((mget (aU xb.aa za) ((aY (a0.aa.map (·.1))).getD xa.toNat default)).getD dK) tc.2.2.2,au.O gi.2.2.2.1 xb.fall.aK,ar ba 168 (km.enc tc.1),lX aO.O xb.aa za ((aY (a0.aa.map (·.1))).getD xa.toNat default),mp Value.string (λp:OV=>eq p.1) gi.2.2.2.2.2.2.2.2.2.1 (aU xb.aa za),ar gi.1 102 [vS xb.av,eq gi.2.1.1,eq gi.2.2.1.1,eq gi.2.2.2.1.1,eq gi.2.2.2.2.1.1,eq gi.2.2.2.2.2.1.1,eq gi.2.2.2.2.2.2.1.1,eq gi.2.2.2.2.2.2.2.1.1,eq gi.2.2.2.2.2.2.2.2.1.1,eq gi.2.2.2.2.2.2.2.2.2.1],bI.O gi.2.1 xb.aG,bI.O gi.2.2.1 xb.aq,dE.O gi.2.2.2.2.1 xb.fall.aA,bG.O gi.2.2.2.2.2.1 xb.fall.ax,bJ.O gi.2.2.2.2.2.2.1 xb.fall.an,bE.O gi.2.2.2.2.2.2.2.1 xb.fall.bQ,Seen.O gi.2.2.2.2.2.2.2.2.1 xb.aI,own az va.1 (aY (a0.aa.map (·.1))),own (kF (aP .u8)) vd.1 xc]++F) Q T (cL 69) Q (ic.c hag) (bN (L:=[aO.O ((mget (aU xb.aa za) ((aY (a0.aa.map (·.1))).getD xa.toNat default)).getD dK) tc.2.2.2,au.O gi.2.2.2.1 xb.fall.aK,ar ba 168 (km.enc tc.1),lX aO.O xb.aa za ((aY (a0.aa.map (·.1))).getD xa.toNat default),mp Value.string (λp:OV=>eq p.1) gi.2.2.2.2.2.2.2.2.2.1 (aU xb.aa za),ar gi.1 102 [vS xb.av,eq gi.2.1.1,eq gi.2.2.1.1,eq gi.2.2.2.1.1,eq gi.2.2.2.2.1.1,eq gi.2.2.2.2.2.1.1,eq gi.2.2.2.2.2.2.1.1,eq gi.2.2.2.2.2.2.2.1.1,eq gi.2.2.2.2.2.2.2.2.1.1,eq gi.2.2.2.2.2.2.2.2.2.1],bI.O gi.2.1 xb.aG,bI.O gi.2.2.1 xb.aq,dE.O gi.2.2.2.2.1 xb.fall.aA,bG.O gi.2.2.2.2.2.1 xb.fall.ax,bJ.O gi.2.2.2.2.2.2.1 xb.fall.an,bE.O gi.2.2.2.2.2.2.2.1 xb.fall.bQ,Seen.O gi.2.2.2.2.2.2.2.2.1 xb.aI,own az va.1 (aY (a0.aa.map (·.1))),own (kF (aP .u8)) vd.1 xc]) (F:=F) [0,1,2,3,4,5,6,7,8,9,10,11,12,13,14] kr Q Q) Q nofun (λgk _=>?_)
            refine Dv.mv Q T Q ?_
            refine Dv.ext Q T Q Q ?_
            refine Dv.ext Q T Q Q ?_
            refine Dv.uW Q T Q ?_
            refine Dv.uW Q T Q ?_
            refine .fin ?_
            refine rg 5 8 ?_
            refine Dv.mv Q T Q ?_
            refine Dv.mv Q T Q ?_
            refine Dv.gh (o4 (E':=[(0,eq p0_.1),(5,eq vd.1),(7,vS ((aY (a0.aa.map (·.1))).getD xa.toNat default)),(8,iT ba),(9,vB tc.2.1),(11,sl (aP .u8) te.1),(28,eq va.1),(29,vI ((aY (a0.aa.map (·.1))).length:Int)),(30,vI xa),(31,vB (decide (xa<((aY (a0.aa.map (·.1))).length:Int)))),(52,vB tc.2.1),(58,eq vd.1),(59,sl (aP .u8) te.1)]) (l':=[aO.O ((mget (aU xb.aa za) ((aY (a0.aa.map (·.1))).getD xa.toNat default)).getD dK) tc.2.2.2,au.O gi.2.2.2.1 xb.fall.aK,ar ba 168 (km.enc tc.1),lX aO.O xb.aa za ((aY (a0.aa.map (·.1))).getD xa.toNat default),mp Value.string (λp:OV=>eq p.1) gi.2.2.2.2.2.2.2.2.2.1 (aU xb.aa za),ar gi.1 102 [vS xb.av,eq gi.2.1.1,eq gi.2.2.1.1,eq gi.2.2.2.1.1,eq gi.2.2.2.2.1.1,eq gi.2.2.2.2.2.1.1,eq gi.2.2.2.2.2.2.1.1,eq gi.2.2.2.2.2.2.2.1.1,eq gi.2.2.2.2.2.2.2.2.1.1,eq gi.2.2.2.2.2.2.2.2.2.1],bI.O gi.2.1 xb.aG,bI.O gi.2.2.1 xb.aq,dE.O gi.2.2.2.2.1 xb.fall.aA,bG.O gi.2.2.2.2.2.1 xb.fall.ax,bJ.O gi.2.2.2.2.2.2.1 xb.fall.an,bE.O gi.2.2.2.2.2.2.2.1 xb.fall.bQ,Seen.O gi.2.2.2.2.2.2.2.2.1 xb.aI,own az va.1 (aY (a0.aa.map (·.1))),own (kF (aP .u8)) vd.1 xc]++F) 0 Q (ao Q aB (ao Q aB (ao Q aB (ao Q aB (ao Q aB (ao Q jx (ao Q aB (ao Q aB (ao Q aB (ao Q aB (ao Q aB (ao Q aB (ao Q jx iG))))))))))))) (fI (.cons bn (.cons bn (.cons bn (.cons bn (.cons bn (.cons bn (.cons bn (.cons bn (.cons bn (.cons bn (.cons bn (.cons bn (.cons bn (.cons bn (.cons bn .nil))))))))))))))) λ_=>bn)) (λ_ _=>?_)
            refine Dv.lit (kF (aP .u8)) ([te.1]:List (List Int)) (css:=[[sl (aP .u8) te.1]]) Q T Ap Aj c41 z41 Q dc dc Q ⟨(cells_one dR),T⟩ Q Q Q ?_
            obtain⟨gn,H⟩:=aW.aF H
            refine Dv.uX (Kd:=(kF (aP .u8))) (jj:=14) (ys:=([te.1]:List (List Int))) (λve:OV=>[aO.O ((mget (aU xb.aa za) ((aY (a0.aa.map (·.1))).getD xa.toNat default)).getD dK) tc.2.2.2,au.O gi.2.2.2.1 xb.fall.aK,ar ba 168 (km.enc tc.1),lX aO.O xb.aa za ((aY (a0.aa.map (·.1))).getD xa.toNat default),mp Value.string (λp:OV=>eq p.1) gi.2.2.2.2.2.2.2.2.2.1 (aU xb.aa za),ar gi.1 102 [vS xb.av,eq gi.2.1.1,eq gi.2.2.1.1,eq gi.2.2.2.1.1,eq gi.2.2.2.2.1.1,eq gi.2.2.2.2.2.1.1,eq gi.2.2.2.2.2.2.1.1,eq gi.2.2.2.2.2.2.2.1.1,eq gi.2.2.2.2.2.2.2.2.1.1,eq gi.2.2.2.2.2.2.2.2.2.1],bI.O gi.2.1 xb.aG,bI.O gi.2.2.1 xb.aq,dE.O gi.2.2.2.2.1 xb.fall.aA,bG.O gi.2.2.2.2.2.1 xb.fall.ax,bJ.O gi.2.2.2.2.2.2.1 xb.fall.an,bE.O gi.2.2.2.2.2.2.2.1 xb.fall.bQ,Seen.O gi.2.2.2.2.2.2.2.2.1 xb.aI,own az va.1 (aY (a0.aa.map (·.1))),own (kF (aP .u8)) ve.1 (xc++([te.1]:List (List Int)))]++F) Q T Q Q Q dG Ap (.inr ⟨_,Ap⟩) HL Q dc gn Q nofun (λve=>?_)
            refine Dv.uW Q T Q ?_
            refine .fin ?_
            refine rg 2 0 ?_
            refine Dv.bin Q T Q Q (λ_=>q9) ?_
            refine Dv.mv Q T Q ?_
            refine .fin ?_
            refine Dn.gh (l':=λ_:Unit=>[lQ aO.O (mput xb.aa ((aY (a0.aa.map (·.1))).getD xa.toNat default) tc.2.2.2) za,au.O gi.2.2.2.1 xb.fall.aK,ar ba 168 (km.enc tc.1),mp Value.string (λp:OV=>eq p.1) gi.2.2.2.2.2.2.2.2.2.1 (aU xb.aa za),ar gi.1 102 [vS xb.av,eq gi.2.1.1,eq gi.2.2.1.1,eq gi.2.2.2.1.1,eq gi.2.2.2.2.1.1,eq gi.2.2.2.2.2.1.1,eq gi.2.2.2.2.2.2.1.1,eq gi.2.2.2.2.2.2.2.1.1,eq gi.2.2.2.2.2.2.2.2.1.1,eq gi.2.2.2.2.2.2.2.2.2.1],bI.O gi.2.1 xb.aG,bI.O gi.2.2.1 xb.aq,dE.O gi.2.2.2.2.1 xb.fall.aA,bG.O gi.2.2.2.2.2.1 xb.fall.ax,bJ.O gi.2.2.2.2.2.2.1 xb.fall.an,bE.O gi.2.2.2.2.2.2.2.1 xb.fall.bQ,Seen.O gi.2.2.2.2.2.2.2.2.1 xb.aI,own az va.1 (aY (a0.aa.map (·.1))),own (kF (aP .u8)) ve.1 (xc++([te.1]:List (List Int)))]++F) (bL (n9 had Q gj (bN (L:=[aO.O ((mget (aU xb.aa za) ((aY (a0.aa.map (·.1))).getD xa.toNat default)).getD dK) tc.2.2.2,au.O gi.2.2.2.1 xb.fall.aK,ar ba 168 (km.enc tc.1),lX aO.O xb.aa za ((aY (a0.aa.map (·.1))).getD xa.toNat default),mp Value.string (λp:OV=>eq p.1) gi.2.2.2.2.2.2.2.2.2.1 (aU xb.aa za),ar gi.1 102 [vS xb.av,eq gi.2.1.1,eq gi.2.2.1.1,eq gi.2.2.2.1.1,eq gi.2.2.2.2.1.1,eq gi.2.2.2.2.2.1.1,eq gi.2.2.2.2.2.2.1.1,eq gi.2.2.2.2.2.2.2.1.1,eq gi.2.2.2.2.2.2.2.2.1.1,eq gi.2.2.2.2.2.2.2.2.2.1],bI.O gi.2.1 xb.aG,bI.O gi.2.2.1 xb.aq,dE.O gi.2.2.2.2.1 xb.fall.aA,bG.O gi.2.2.2.2.2.1 xb.fall.ax,bJ.O gi.2.2.2.2.2.2.1 xb.fall.an,bE.O gi.2.2.2.2.2.2.2.1 xb.fall.bQ,Seen.O gi.2.2.2.2.2.2.2.2.1 xb.aI,own az va.1 (aY (a0.aa.map (·.1))),own (kF (aP .u8)) ve.1 (xc++([te.1]:List (List Int)))]) (F:=F) [0,3,1,2,4,5,6,7,8,9,10,11,12,13,14] kr Q Q))) (λ_ hah=>?_)
            refine Dn.gh (l':=λ_:Unit=>[iq Value.string aO.O gi.2.2.2.2.2.2.2.2.2.1 (mput xb.aa ((aY (a0.aa.map (·.1))).getD xa.toNat default) tc.2.2.2),au.O gi.2.2.2.1 xb.fall.aK,ar ba 168 (km.enc tc.1),ar gi.1 102 [vS xb.av,eq gi.2.1.1,eq gi.2.2.1.1,eq gi.2.2.2.1.1,eq gi.2.2.2.2.1.1,eq gi.2.2.2.2.2.1.1,eq gi.2.2.2.2.2.2.1.1,eq gi.2.2.2.2.2.2.2.1.1,eq gi.2.2.2.2.2.2.2.2.1.1,eq gi.2.2.2.2.2.2.2.2.2.1],bI.O gi.2.1 xb.aG,bI.O gi.2.2.1 xb.aq,dE.O gi.2.2.2.2.1 xb.fall.aA,bG.O gi.2.2.2.2.2.1 xb.fall.ax,bJ.O gi.2.2.2.2.2.2.1 xb.fall.an,bE.O gi.2.2.2.2.2.2.2.1 xb.fall.bQ,Seen.O gi.2.2.2.2.2.2.2.2.1 xb.aI,own az va.1 (aY (a0.aa.map (·.1))),own (kF (aP .u8)) ve.1 (xc++([te.1]:List (List Int)))]++F) (bL (eL hah (lM Q gj) (bN (L:=[lQ aO.O (mput xb.aa ((aY (a0.aa.map (·.1))).getD xa.toNat default) tc.2.2.2) za,au.O gi.2.2.2.1 xb.fall.aK,ar ba 168 (km.enc tc.1),mp Value.string (λp:OV=>eq p.1) gi.2.2.2.2.2.2.2.2.2.1 (aU xb.aa za),ar gi.1 102 [vS xb.av,eq gi.2.1.1,eq gi.2.2.1.1,eq gi.2.2.2.1.1,eq gi.2.2.2.2.1.1,eq gi.2.2.2.2.2.1.1,eq gi.2.2.2.2.2.2.1.1,eq gi.2.2.2.2.2.2.2.1.1,eq gi.2.2.2.2.2.2.2.2.1.1,eq gi.2.2.2.2.2.2.2.2.2.1],bI.O gi.2.1 xb.aG,bI.O gi.2.2.1 xb.aq,dE.O gi.2.2.2.2.1 xb.fall.aA,bG.O gi.2.2.2.2.2.1 xb.fall.ax,bJ.O gi.2.2.2.2.2.2.1 xb.fall.an,bE.O gi.2.2.2.2.2.2.2.1 xb.fall.bQ,Seen.O gi.2.2.2.2.2.2.2.2.1 xb.aI,own az va.1 (aY (a0.aa.map (·.1))),own (kF (aP .u8)) ve.1 (xc++([te.1]:List (List Int)))]) (F:=F) [3,0,1,2,4,5,6,7,8,9,10,11,12,13] kr Q Q))) (λ_ _=>?_)
            refine Dn.gh (l':=λ_:Unit=>[bY.O p0_ (⟨xb.av,xb.aG,xb.aq,xb.fall,xb.aI,mput xb.aa ((aY (a0.aa.map (·.1))).getD xa.toNat default) tc.2.2.2⟩:bY),ar ba 168 (km.enc tc.1),own az va.1 (aY (a0.aa.map (·.1))),own (kF (aP .u8)) ve.1 (xc++([te.1]:List (List Int)))]++F) (bL (bY.shut (p:=p0_) (m:=(⟨xb.av,xb.aG,xb.aq,xb.fall,xb.aI,mput xb.aa ((aY (a0.aa.map (·.1))).getD xa.toNat default) tc.2.2.2⟩:bY)) (r:=[ar ba 168 (km.enc tc.1),own az va.1 (aY (a0.aa.map (·.1))),own (kF (aP .u8)) ve.1 (xc++([te.1]:List (List Int)))]++F) (gi.1,gi.2.1,gi.2.2.1,gi.2.2.2.1,gi.2.2.2.2.1,gi.2.2.2.2.2.1,gi.2.2.2.2.2.2.1,gi.2.2.2.2.2.2.2.1,gi.2.2.2.2.2.2.2.2.1,gi.2.2.2.2.2.2.2.2.2) hac (bN (L:=[iq Value.string aO.O gi.2.2.2.2.2.2.2.2.2.1 (mput xb.aa ((aY (a0.aa.map (·.1))).getD xa.toNat default) tc.2.2.2),au.O gi.2.2.2.1 xb.fall.aK,ar ba 168 (km.enc tc.1),ar gi.1 102 [vS xb.av,eq gi.2.1.1,eq gi.2.2.1.1,eq gi.2.2.2.1.1,eq gi.2.2.2.2.1.1,eq gi.2.2.2.2.2.1.1,eq gi.2.2.2.2.2.2.1.1,eq gi.2.2.2.2.2.2.2.1.1,eq gi.2.2.2.2.2.2.2.2.1.1,eq gi.2.2.2.2.2.2.2.2.2.1],bI.O gi.2.1 xb.aG,bI.O gi.2.2.1 xb.aq,dE.O gi.2.2.2.2.1 xb.fall.aA,bG.O gi.2.2.2.2.2.1 xb.fall.ax,bJ.O gi.2.2.2.2.2.2.1 xb.fall.an,bE.O gi.2.2.2.2.2.2.2.1 xb.fall.bQ,Seen.O gi.2.2.2.2.2.2.2.2.1 xb.aI,own az va.1 (aY (a0.aa.map (·.1))),own (kF (aP .u8)) ve.1 (xc++([te.1]:List (List Int)))]) (F:=F) [3,4,5,1,6,7,8,9,10,0,2,11,12] kr Q Q))) (λ_ _=>?_)
            refine Dn.gh (l':=λ_:Unit=>[own az va.1 (aY (a0.aa.map (·.1))),bY.O p0_ (⟨xb.av,xb.aG,xb.aq,xb.fall,xb.aI,mput xb.aa ((aY (a0.aa.map (·.1))).getD xa.toNat default) tc.2.2.2⟩:bY),own (kF (aP .u8)) ve.1 (xc++([te.1]:List (List Int)))]++F) (bL (nX (L:=[bY.O p0_ (⟨xb.av,xb.aG,xb.aq,xb.fall,xb.aI,mput xb.aa ((aY (a0.aa.map (·.1))).getD xa.toNat default) tc.2.2.2⟩:bY),ar ba 168 (km.enc tc.1),own az va.1 (aY (a0.aa.map (·.1))),own (kF (aP .u8)) ve.1 (xc++([te.1]:List (List Int)))]) (F:=F) [1,2,0,3] 1 Q Q Q)) (λ_ _=>?_)
            exact qt.mk ja (aE (xa+1),(⟨xb.av,xb.aG,xb.aq,xb.fall,xb.aI,mput xb.aa ((aY (a0.aa.map (·.1))).getD xa.toNat default) tc.2.2.2⟩:bY),xc++([te.1]:List (List Int)),ve) (Nat.lt_succ_self _) H (aH Q (aH Q (aH Q (aH Q (aH Q dD))))) (List.Perm.refl _)
          · have H:=H.cf cb
            refine WP.skip ?_
            refine rg 2 0 ?_
            refine Dv.bin Q T Q Q (λ_=>q9) ?_
            refine Dv.mv Q T Q ?_
            refine .fin ?_
            refine Dn.gh (l':=λ_:Unit=>[lQ aO.O (mput xb.aa ((aY (a0.aa.map (·.1))).getD xa.toNat default) tc.2.2.2) za,au.O gi.2.2.2.1 xb.fall.aK,ar ba 168 (km.enc tc.1),mp Value.string (λp:OV=>eq p.1) gi.2.2.2.2.2.2.2.2.2.1 (aU xb.aa za),ar gi.1 102 [vS xb.av,eq gi.2.1.1,eq gi.2.2.1.1,eq gi.2.2.2.1.1,eq gi.2.2.2.2.1.1,eq gi.2.2.2.2.2.1.1,eq gi.2.2.2.2.2.2.1.1,eq gi.2.2.2.2.2.2.2.1.1,eq gi.2.2.2.2.2.2.2.2.1.1,eq gi.2.2.2.2.2.2.2.2.2.1],bI.O gi.2.1 xb.aG,bI.O gi.2.2.1 xb.aq,dE.O gi.2.2.2.2.1 xb.fall.aA,bG.O gi.2.2.2.2.2.1 xb.fall.ax,bJ.O gi.2.2.2.2.2.2.1 xb.fall.an,bE.O gi.2.2.2.2.2.2.2.1 xb.fall.bQ,Seen.O gi.2.2.2.2.2.2.2.2.1 xb.aI,own az va.1 (aY (a0.aa.map (·.1))),own (kF (aP .u8)) vd.1 xc]++F) (bL (n9 had Q gj (bN (L:=[aO.O ((mget (aU xb.aa za) ((aY (a0.aa.map (·.1))).getD xa.toNat default)).getD dK) tc.2.2.2,au.O gi.2.2.2.1 xb.fall.aK,ar ba 168 (km.enc tc.1),lX aO.O xb.aa za ((aY (a0.aa.map (·.1))).getD xa.toNat default),mp Value.string (λp:OV=>eq p.1) gi.2.2.2.2.2.2.2.2.2.1 (aU xb.aa za),ar gi.1 102 [vS xb.av,eq gi.2.1.1,eq gi.2.2.1.1,eq gi.2.2.2.1.1,eq gi.2.2.2.2.1.1,eq gi.2.2.2.2.2.1.1,eq gi.2.2.2.2.2.2.1.1,eq gi.2.2.2.2.2.2.2.1.1,eq gi.2.2.2.2.2.2.2.2.1.1,eq gi.2.2.2.2.2.2.2.2.2.1],bI.O gi.2.1 xb.aG,bI.O gi.2.2.1 xb.aq,dE.O gi.2.2.2.2.1 xb.fall.aA,bG.O gi.2.2.2.2.2.1 xb.fall.ax,bJ.O gi.2.2.2.2.2.2.1 xb.fall.an,bE.O gi.2.2.2.2.2.2.2.1 xb.fall.bQ,Seen.O gi.2.2.2.2.2.2.2.2.1 xb.aI,own az va.1 (aY (a0.aa.map (·.1))),own (kF (aP .u8)) vd.1 xc]) (F:=F) [0,3,1,2,4,5,6,7,8,9,10,11,12,13,14] kr Q Q))) (λ_ hai=>?_)
            refine Dn.gh (l':=λ_:Unit=>[iq Value.string aO.O gi.2.2.2.2.2.2.2.2.2.1 (mput xb.aa ((aY (a0.aa.map (·.1))).getD xa.toNat default) tc.2.2.2),au.O gi.2.2.2.1 xb.fall.aK,ar ba 168 (km.enc tc.1),ar gi.1 102 [vS xb.av,eq gi.2.1.1,eq gi.2.2.1.1,eq gi.2.2.2.1.1,eq gi.2.2.2.2.1.1,eq gi.2.2.2.2.2.1.1,eq gi.2.2.2.2.2.2.1.1,eq gi.2.2.2.2.2.2.2.1.1,eq gi.2.2.2.2.2.2.2.2.1.1,eq gi.2.2.2.2.2.2.2.2.2.1],bI.O gi.2.1 xb.aG,bI.O gi.2.2.1 xb.aq,dE.O gi.2.2.2.2.1 xb.fall.aA,bG.O gi.2.2.2.2.2.1 xb.fall.ax,bJ.O gi.2.2.2.2.2.2.1 xb.fall.an,bE.O gi.2.2.2.2.2.2.2.1 xb.fall.bQ,Seen.O gi.2.2.2.2.2.2.2.2.1 xb.aI,own az va.1 (aY (a0.aa.map (·.1))),own (kF (aP .u8)) vd.1 xc]++F) (bL (eL hai (lM Q gj) (bN (L:=[lQ aO.O (mput xb.aa ((aY (a0.aa.map (·.1))).getD xa.toNat default) tc.2.2.2) za,au.O gi.2.2.2.1 xb.fall.aK,ar ba 168 (km.enc tc.1),mp Value.string (λp:OV=>eq p.1) gi.2.2.2.2.2.2.2.2.2.1 (aU xb.aa za),ar gi.1 102 [vS xb.av,eq gi.2.1.1,eq gi.2.2.1.1,eq gi.2.2.2.1.1,eq gi.2.2.2.2.1.1,eq gi.2.2.2.2.2.1.1,eq gi.2.2.2.2.2.2.1.1,eq gi.2.2.2.2.2.2.2.1.1,eq gi.2.2.2.2.2.2.2.2.1.1,eq gi.2.2.2.2.2.2.2.2.2.1],bI.O gi.2.1 xb.aG,bI.O gi.2.2.1 xb.aq,dE.O gi.2.2.2.2.1 xb.fall.aA,bG.O gi.2.2.2.2.2.1 xb.fall.ax,bJ.O gi.2.2.2.2.2.2.1 xb.fall.an,bE.O gi.2.2.2.2.2.2.2.1 xb.fall.bQ,Seen.O gi.2.2.2.2.2.2.2.2.1 xb.aI,own az va.1 (aY (a0.aa.map (·.1))),own (kF (aP .u8)) vd.1 xc]) (F:=F) [3,0,1,2,4,5,6,7,8,9,10,11,12,13] kr Q Q))) (λ_ _=>?_)
            refine Dn.gh (l':=λ_:Unit=>[bY.O p0_ (⟨xb.av,xb.aG,xb.aq,xb.fall,xb.aI,mput xb.aa ((aY (a0.aa.map (·.1))).getD xa.toNat default) tc.2.2.2⟩:bY),ar ba 168 (km.enc tc.1),own az va.1 (aY (a0.aa.map (·.1))),own (kF (aP .u8)) vd.1 xc]++F) (bL (bY.shut (p:=p0_) (m:=(⟨xb.av,xb.aG,xb.aq,xb.fall,xb.aI,mput xb.aa ((aY (a0.aa.map (·.1))).getD xa.toNat default) tc.2.2.2⟩:bY)) (r:=[ar ba 168 (km.enc tc.1),own az va.1 (aY (a0.aa.map (·.1))),own (kF (aP .u8)) vd.1 xc]++F) (gi.1,gi.2.1,gi.2.2.1,gi.2.2.2.1,gi.2.2.2.2.1,gi.2.2.2.2.2.1,gi.2.2.2.2.2.2.1,gi.2.2.2.2.2.2.2.1,gi.2.2.2.2.2.2.2.2.1,gi.2.2.2.2.2.2.2.2.2) hac (bN (L:=[iq Value.string aO.O gi.2.2.2.2.2.2.2.2.2.1 (mput xb.aa ((aY (a0.aa.map (·.1))).getD xa.toNat default) tc.2.2.2),au.O gi.2.2.2.1 xb.fall.aK,ar ba 168 (km.enc tc.1),ar gi.1 102 [vS xb.av,eq gi.2.1.1,eq gi.2.2.1.1,eq gi.2.2.2.1.1,eq gi.2.2.2.2.1.1,eq gi.2.2.2.2.2.1.1,eq gi.2.2.2.2.2.2.1.1,eq gi.2.2.2.2.2.2.2.1.1,eq gi.2.2.2.2.2.2.2.2.1.1,eq gi.2.2.2.2.2.2.2.2.2.1],bI.O gi.2.1 xb.aG,bI.O gi.2.2.1 xb.aq,dE.O gi.2.2.2.2.1 xb.fall.aA,bG.O gi.2.2.2.2.2.1 xb.fall.ax,bJ.O gi.2.2.2.2.2.2.1 xb.fall.an,bE.O gi.2.2.2.2.2.2.2.1 xb.fall.bQ,Seen.O gi.2.2.2.2.2.2.2.2.1 xb.aI,own az va.1 (aY (a0.aa.map (·.1))),own (kF (aP .u8)) vd.1 xc]) (F:=F) [3,4,5,1,6,7,8,9,10,0,2,11,12] kr Q Q))) (λ_ _=>?_)
            refine Dn.gh (l':=λ_:Unit=>[own az va.1 (aY (a0.aa.map (·.1))),bY.O p0_ (⟨xb.av,xb.aG,xb.aq,xb.fall,xb.aI,mput xb.aa ((aY (a0.aa.map (·.1))).getD xa.toNat default) tc.2.2.2⟩:bY),own (kF (aP .u8)) vd.1 xc]++F) (bL (nX (L:=[bY.O p0_ (⟨xb.av,xb.aG,xb.aq,xb.fall,xb.aI,mput xb.aa ((aY (a0.aa.map (·.1))).getD xa.toNat default) tc.2.2.2⟩:bY),ar ba 168 (km.enc tc.1),own az va.1 (aY (a0.aa.map (·.1))),own (kF (aP .u8)) vd.1 xc]) (F:=F) [1,2,0,3] 1 Q Q Q)) (λ_ _=>?_)
            exact qt.mk ja (aE (xa+1),(⟨xb.av,xb.aG,xb.aq,xb.fall,xb.aI,mput xb.aa ((aY (a0.aa.map (·.1))).getD xa.toNat default) tc.2.2.2⟩:bY),xc,vd) (Nat.lt_succ_self _) H (aH Q (aH Q (aH Q (aH Q (aH Q dD))))) (List.Perm.refl _)
        · obtain⟨tg,haj,H⟩:=aW.call H
          refine Dv.lS (pre:=[aO.O ((mget (aU xb.aa za) ((aY (a0.aa.map (·.1))).getD xa.toNat default)).getD dK) ((mget xb.aa ((aY (a0.aa.map (·.1))).getD xa.toNat default)).getD default),au.O gi.2.2.2.1 xb.fall.aK]) (F:=[lX aO.O xb.aa za ((aY (a0.aa.map (·.1))).getD xa.toNat default),mp Value.string (λp:OV=>eq p.1) gi.2.2.2.2.2.2.2.2.2.1 (aU xb.aa za),ar gi.1 102 [vS xb.av,eq gi.2.1.1,eq gi.2.2.1.1,eq gi.2.2.2.1.1,eq gi.2.2.2.2.1.1,eq gi.2.2.2.2.2.1.1,eq gi.2.2.2.2.2.2.1.1,eq gi.2.2.2.2.2.2.2.1.1,eq gi.2.2.2.2.2.2.2.2.1.1,eq gi.2.2.2.2.2.2.2.2.2.1],bI.O gi.2.1 xb.aG,bI.O gi.2.2.1 xb.aq,dE.O gi.2.2.2.2.1 xb.fall.aA,bG.O gi.2.2.2.2.2.1 xb.fall.ax,bJ.O gi.2.2.2.2.2.2.1 xb.fall.an,bE.O gi.2.2.2.2.2.2.2.1 xb.fall.bQ,Seen.O gi.2.2.2.2.2.2.2.2.1 xb.aI,own az va.1 (aY (a0.aa.map (·.1))),own (kF (aP .u8)) vd.1 xc]++F) (λ_:Unit=>[aO.O ((mget (aU xb.aa za) ((aY (a0.aa.map (·.1))).getD xa.toNat default)).getD dK) tg.2.2.2,au.O gi.2.2.2.1 xb.fall.aK,lX aO.O xb.aa za ((aY (a0.aa.map (·.1))).getD xa.toNat default),mp Value.string (λp:OV=>eq p.1) gi.2.2.2.2.2.2.2.2.2.1 (aU xb.aa za),ar gi.1 102 [vS xb.av,eq gi.2.1.1,eq gi.2.2.1.1,eq gi.2.2.2.1.1,eq gi.2.2.2.2.1.1,eq gi.2.2.2.2.2.1.1,eq gi.2.2.2.2.2.2.1.1,eq gi.2.2.2.2.2.2.2.1.1,eq gi.2.2.2.2.2.2.2.2.1.1,eq gi.2.2.2.2.2.2.2.2.2.1],bI.O gi.2.1 xb.aG,bI.O gi.2.2.1 xb.aq,dE.O gi.2.2.2.2.1 xb.fall.aA,bG.O gi.2.2.2.2.2.1 xb.fall.ax,bJ.O gi.2.2.2.2.2.2.1 xb.fall.an,bE.O gi.2.2.2.2.2.2.2.1 xb.fall.bQ,Seen.O gi.2.2.2.2.2.2.2.2.1 xb.aI,own az va.1 (aY (a0.aa.map (·.1))),own (kF (aP .u8)) vd.1 xc]++F) Q T (cL 68) Q (jq.c haj (p0_:=((mget (aU xb.aa za) ((aY (a0.aa.map (·.1))).getD xa.toNat default)).getD dK)) (p1_:=gi.2.2.2.1)) (bN (L:=[aO.O ((mget (aU xb.aa za) ((aY (a0.aa.map (·.1))).getD xa.toNat default)).getD dK) ((mget xb.aa ((aY (a0.aa.map (·.1))).getD xa.toNat default)).getD default),lX aO.O xb.aa za ((aY (a0.aa.map (·.1))).getD xa.toNat default),mp Value.string (λp:OV=>eq p.1) gi.2.2.2.2.2.2.2.2.2.1 (aU xb.aa za),ar gi.1 102 [vS xb.av,eq gi.2.1.1,eq gi.2.2.1.1,eq gi.2.2.2.1.1,eq gi.2.2.2.2.1.1,eq gi.2.2.2.2.2.1.1,eq gi.2.2.2.2.2.2.1.1,eq gi.2.2.2.2.2.2.2.1.1,eq gi.2.2.2.2.2.2.2.2.1.1,eq gi.2.2.2.2.2.2.2.2.2.1],bI.O gi.2.1 xb.aG,bI.O gi.2.2.1 xb.aq,au.O gi.2.2.2.1 xb.fall.aK,dE.O gi.2.2.2.2.1 xb.fall.aA,bG.O gi.2.2.2.2.2.1 xb.fall.ax,bJ.O gi.2.2.2.2.2.2.1 xb.fall.an,bE.O gi.2.2.2.2.2.2.2.1 xb.fall.bQ,Seen.O gi.2.2.2.2.2.2.2.2.1 xb.aI,own az va.1 (aY (a0.aa.map (·.1))),own (kF (aP .u8)) vd.1 xc]) (F:=F) [0,6,1,2,3,4,5,7,8,9,10,11,12,13] kr Q Q) Q (λ_=>BG (ee kr)) (λ_ _=>?_)
          refine Dv.mv Q T Q ?_
          refine Dv.ext Q T Q Q ?_
          refine Dv.ext Q T Q Q ?_
          refine Dv.ext Q T Q Q ?_
          refine .fin ?_
          refine qn Q T vG pU (λbc=>?_)
          refine sx 0 Q T Q Q (bx (km.K.one _)) HX Q Q Q pD ?_
          refine Dv.uW Q T Q ?_
          refine Dv.uW Q T Q ?_
          refine .fin ?_
          refine WP.seq ?_
          refine rg 1 0 ?_
          refine Dv.mv Q T Q ?_
          refine .fin ?_
          refine WP.cond Q (λcb=>?_) (λcb=>?_)
          · have H:=H.ct cb
            refine WP.seq ?_
            refine rg 7 2 ?_
            refine jf 1 [0] ?_
            obtain⟨te,hag,H⟩:=aW.call H
            refine Dv.lS (pre:=[]) (F:=[ar bc 168 (km.enc tg.1),aO.O ((mget (aU xb.aa za) ((aY (a0.aa.map (·.1))).getD xa.toNat default)).getD dK) tg.2.2.2,au.O gi.2.2.2.1 xb.fall.aK,lX aO.O xb.aa za ((aY (a0.aa.map (·.1))).getD xa.toNat default),mp Value.string (λp:OV=>eq p.1) gi.2.2.2.2.2.2.2.2.2.1 (aU xb.aa za),ar gi.1 102 [vS xb.av,eq gi.2.1.1,eq gi.2.2.1.1,eq gi.2.2.2.1.1,eq gi.2.2.2.2.1.1,eq gi.2.2.2.2.2.1.1,eq gi.2.2.2.2.2.2.1.1,eq gi.2.2.2.2.2.2.2.1.1,eq gi.2.2.2.2.2.2.2.2.1.1,eq gi.2.2.2.2.2.2.2.2.2.1],bI.O gi.2.1 xb.aG,bI.O gi.2.2.1 xb.aq,dE.O gi.2.2.2.2.1 xb.fall.aA,bG.O gi.2.2.2.2.2.1 xb.fall.ax,bJ.O gi.2.2.2.2.2.2.1 xb.fall.an,bE.O gi.2.2.2.2.2.2.2.1 xb.fall.bQ,Seen.O gi.2.2.2.2.2.2.2.2.1 xb.aI,own az va.1 (aY (a0.aa.map (·.1))),own (kF (aP .u8)) vd.1 xc]++F) (λgk:OV=>[own (aP .u8) gk.1 te.1,ar bc 168 (km.enc tg.1),aO.O ((mget (aU xb.aa za) ((aY (a0.aa.map (·.1))).getD xa.toNat default)).getD dK) tg.2.2.2,au.O gi.2.2.2.1 xb.fall.aK,lX aO.O xb.aa za ((aY (a0.aa.map (·.1))).getD xa.toNat default),mp Value.string (λp:OV=>eq p.1) gi.2.2.2.2.2.2.2.2.2.1 (aU xb.aa za),ar gi.1 102 [vS xb.av,eq gi.2.1.1,eq gi.2.2.1.1,eq gi.2.2.2.1.1,eq gi.2.2.2.2.1.1,eq gi.2.2.2.2.2.1.1,eq gi.2.2.2.2.2.2.1.1,eq gi.2.2.2.2.2.2.2.1.1,eq gi.2.2.2.2.2.2.2.2.1.1,eq gi.2.2.2.2.2.2.2.2.2.1],bI.O gi.2.1 xb.aG,bI.O gi.2.2.1 xb.aq,dE.O gi.2.2.2.2.1 xb.fall.aA,bG.O gi.2.2.2.2.2.1 xb.fall.ax,bJ.O gi.2.2.2.2.2.2.1 xb.fall.an,bE.O gi.2.2.2.2.2.2.2.1 xb.fall.bQ,Seen.O gi.2.2.2.2.2.2.2.2.1 xb.aI,own az va.1 (aY (a0.aa.map (·.1))),own (kF (aP .u8)) vd.1 xc]++F) Q T (cL 69) Q (ic.c hag) (bN (L:=[ar bc 168 (km.enc tg.1),aO.O ((mget (aU xb.aa za) ((aY (a0.aa.map (·.1))).getD xa.toNat default)).getD dK) tg.2.2.2,au.O gi.2.2.2.1 xb.fall.aK,lX aO.O xb.aa za ((aY (a0.aa.map (·.1))).getD xa.toNat default),mp Value.string (λp:OV=>eq p.1) gi.2.2.2.2.2.2.2.2.2.1 (aU xb.aa za),ar gi.1 102 [vS xb.av,eq gi.2.1.1,eq gi.2.2.1.1,eq gi.2.2.2.1.1,eq gi.2.2.2.2.1.1,eq gi.2.2.2.2.2.1.1,eq gi.2.2.2.2.2.2.1.1,eq gi.2.2.2.2.2.2.2.1.1,eq gi.2.2.2.2.2.2.2.2.1.1,eq gi.2.2.2.2.2.2.2.2.2.1],bI.O gi.2.1 xb.aG,bI.O gi.2.2.1 xb.aq,dE.O gi.2.2.2.2.1 xb.fall.aA,bG.O gi.2.2.2.2.2.1 xb.fall.ax,bJ.O gi.2.2.2.2.2.2.1 xb.fall.an,bE.O gi.2.2.2.2.2.2.2.1 xb.fall.bQ,Seen.O gi.2.2.2.2.2.2.2.2.1 xb.aI,own az va.1 (aY (a0.aa.map (·.1))),own (kF (aP .u8)) vd.1 xc]) (F:=F) [0,1,2,3,4,5,6,7,8,9,10,11,12,13,14] kr Q Q) Q nofun (λgk _=>?_)
            refine Dv.mv Q T Q ?_
            refine Dv.ext Q T Q Q ?_
            refine Dv.ext Q T Q Q ?_
            refine Dv.uW Q T Q ?_
            refine Dv.uW Q T Q ?_
            refine .fin ?_
            refine rg 5 8 ?_
            refine Dv.mv Q T Q ?_
            refine Dv.mv Q T Q ?_
            refine Dv.gh (o4 (E':=[(0,eq p0_.1),(5,eq vd.1),(7,vS ((aY (a0.aa.map (·.1))).getD xa.toNat default)),(8,iT bc),(9,vB tg.2.1),(11,sl (aP .u8) te.1),(28,eq va.1),(29,vI ((aY (a0.aa.map (·.1))).length:Int)),(30,vI xa),(31,vB (decide (xa<((aY (a0.aa.map (·.1))).length:Int)))),(52,vB tg.2.1),(58,eq vd.1),(59,sl (aP .u8) te.1)]) (l':=[ar bc 168 (km.enc tg.1),aO.O ((mget (aU xb.aa za) ((aY (a0.aa.map (·.1))).getD xa.toNat default)).getD dK) tg.2.2.2,au.O gi.2.2.2.1 xb.fall.aK,lX aO.O xb.aa za ((aY (a0.aa.map (·.1))).getD xa.toNat default),mp Value.string (λp:OV=>eq p.1) gi.2.2.2.2.2.2.2.2.2.1 (aU xb.aa za),ar gi.1 102 [vS xb.av,eq gi.2.1.1,eq gi.2.2.1.1,eq gi.2.2.2.1.1,eq gi.2.2.2.2.1.1,eq gi.2.2.2.2.2.1.1,eq gi.2.2.2.2.2.2.1.1,eq gi.2.2.2.2.2.2.2.1.1,eq gi.2.2.2.2.2.2.2.2.1.1,eq gi.2.2.2.2.2.2.2.2.2.1],bI.O gi.2.1 xb.aG,bI.O gi.2.2.1 xb.aq,dE.O gi.2.2.2.2.1 xb.fall.aA,bG.O gi.2.2.2.2.2.1 xb.fall.ax,bJ.O gi.2.2.2.2.2.2.1 xb.fall.an,bE.O gi.2.2.2.2.2.2.2.1 xb.fall.bQ,Seen.O gi.2.2.2.2.2.2.2.2.1 xb.aI,own az va.1 (aY (a0.aa.map (·.1))),own (kF (aP .u8)) vd.1 xc]++F) 0 Q (ao Q aB (ao Q aB (ao Q aB (ao Q aB (ao Q aB (ao Q jx (ao Q aB (ao Q aB (ao Q aB (ao Q aB (ao Q aB (ao Q aB (ao Q jx iG))))))))))))) (fI (.cons bn (.cons bn (.cons bn (.cons bn (.cons bn (.cons bn (.cons bn (.cons bn (.cons bn (.cons bn (.cons bn (.cons bn (.cons bn (.cons bn (.cons bn .nil))))))))))))))) λ_=>bn)) (λ_ _=>?_)
            refine Dv.lit (kF (aP .u8)) ([te.1]:List (List Int)) (css:=[[sl (aP .u8) te.1]]) Q T Ap Aj c41 z41 Q dc dc Q ⟨(cells_one dR),T⟩ Q Q Q ?_
            obtain⟨gn,H⟩:=aW.aF H
            refine Dv.uX (Kd:=(kF (aP .u8))) (jj:=14) (ys:=([te.1]:List (List Int))) (λve:OV=>[ar bc 168 (km.enc tg.1),aO.O ((mget (aU xb.aa za) ((aY (a0.aa.map (·.1))).getD xa.toNat default)).getD dK) tg.2.2.2,au.O gi.2.2.2.1 xb.fall.aK,lX aO.O xb.aa za ((aY (a0.aa.map (·.1))).getD xa.toNat default),mp Value.string (λp:OV=>eq p.1) gi.2.2.2.2.2.2.2.2.2.1 (aU xb.aa za),ar gi.1 102 [vS xb.av,eq gi.2.1.1,eq gi.2.2.1.1,eq gi.2.2.2.1.1,eq gi.2.2.2.2.1.1,eq gi.2.2.2.2.2.1.1,eq gi.2.2.2.2.2.2.1.1,eq gi.2.2.2.2.2.2.2.1.1,eq gi.2.2.2.2.2.2.2.2.1.1,eq gi.2.2.2.2.2.2.2.2.2.1],bI.O gi.2.1 xb.aG,bI.O gi.2.2.1 xb.aq,dE.O gi.2.2.2.2.1 xb.fall.aA,bG.O gi.2.2.2.2.2.1 xb.fall.ax,bJ.O gi.2.2.2.2.2.2.1 xb.fall.an,bE.O gi.2.2.2.2.2.2.2.1 xb.fall.bQ,Seen.O gi.2.2.2.2.2.2.2.2.1 xb.aI,own az va.1 (aY (a0.aa.map (·.1))),own (kF (aP .u8)) ve.1 (xc++([te.1]:List (List Int)))]++F) Q T Q Q Q dG Ap (.inr ⟨_,Ap⟩) HL Q dc gn Q nofun (λve=>?_)
            refine Dv.uW Q T Q ?_
            refine .fin ?_
            refine rg 2 0 ?_
            refine Dv.bin Q T Q Q (λ_=>q9) ?_
            refine Dv.mv Q T Q ?_
            refine .fin ?_
            refine Dn.gh (l':=λ_:Unit=>[lQ aO.O (mput xb.aa ((aY (a0.aa.map (·.1))).getD xa.toNat default) tg.2.2.2) za,ar bc 168 (km.enc tg.1),au.O gi.2.2.2.1 xb.fall.aK,mp Value.string (λp:OV=>eq p.1) gi.2.2.2.2.2.2.2.2.2.1 (aU xb.aa za),ar gi.1 102 [vS xb.av,eq gi.2.1.1,eq gi.2.2.1.1,eq gi.2.2.2.1.1,eq gi.2.2.2.2.1.1,eq gi.2.2.2.2.2.1.1,eq gi.2.2.2.2.2.2.1.1,eq gi.2.2.2.2.2.2.2.1.1,eq gi.2.2.2.2.2.2.2.2.1.1,eq gi.2.2.2.2.2.2.2.2.2.1],bI.O gi.2.1 xb.aG,bI.O gi.2.2.1 xb.aq,dE.O gi.2.2.2.2.1 xb.fall.aA,bG.O gi.2.2.2.2.2.1 xb.fall.ax,bJ.O gi.2.2.2.2.2.2.1 xb.fall.an,bE.O gi.2.2.2.2.2.2.2.1 xb.fall.bQ,Seen.O gi.2.2.2.2.2.2.2.2.1 xb.aI,own az va.1 (aY (a0.aa.map (·.1))),own (kF (aP .u8)) ve.1 (xc++([te.1]:List (List Int)))]++F) (bL (n9 had Q gj (bN (L:=[ar bc 168 (km.enc tg.1),aO.O ((mget (aU xb.aa za) ((aY (a0.aa.map (·.1))).getD xa.toNat default)).getD dK) tg.2.2.2,au.O gi.2.2.2.1 xb.fall.aK,lX aO.O xb.aa za ((aY (a0.aa.map (·.1))).getD xa.toNat default),mp Value.string (λp:OV=>eq p.1) gi.2.2.2.2.2.2.2.2.2.1 (aU xb.aa za),ar gi.1 102 [vS xb.av,eq gi.2.1.1,eq gi.2.2.1.1,eq gi.2.2.2.1.1,eq gi.2.2.2.2.1.1,eq gi.2.2.2.2.2.1.1,eq gi.2.2.2.2.2.2.1.1,eq gi.2.2.2.2.2.2.2.1.1,eq gi.2.2.2.2.2.2.2.2.1.1,eq gi.2.2.2.2.2.2.2.2.2.1],bI.O gi.2.1 xb.aG,bI.O gi.2.2.1 xb.aq,dE.O gi.2.2.2.2.1 xb.fall.aA,bG.O gi.2.2.2.2.2.1 xb.fall.ax,bJ.O gi.2.2.2.2.2.2.1 xb.fall.an,bE.O gi.2.2.2.2.2.2.2.1 xb.fall.bQ,Seen.O gi.2.2.2.2.2.2.2.2.1 xb.aI,own az va.1 (aY (a0.aa.map (·.1))),own (kF (aP .u8)) ve.1 (xc++([te.1]:List (List Int)))]) (F:=F) [1,3,0,2,4,5,6,7,8,9,10,11,12,13,14] kr Q Q))) (λ_ hah=>?_)
            refine Dn.gh (l':=λ_:Unit=>[iq Value.string aO.O gi.2.2.2.2.2.2.2.2.2.1 (mput xb.aa ((aY (a0.aa.map (·.1))).getD xa.toNat default) tg.2.2.2),ar bc 168 (km.enc tg.1),au.O gi.2.2.2.1 xb.fall.aK,ar gi.1 102 [vS xb.av,eq gi.2.1.1,eq gi.2.2.1.1,eq gi.2.2.2.1.1,eq gi.2.2.2.2.1.1,eq gi.2.2.2.2.2.1.1,eq gi.2.2.2.2.2.2.1.1,eq gi.2.2.2.2.2.2.2.1.1,eq gi.2.2.2.2.2.2.2.2.1.1,eq gi.2.2.2.2.2.2.2.2.2.1],bI.O gi.2.1 xb.aG,bI.O gi.2.2.1 xb.aq,dE.O gi.2.2.2.2.1 xb.fall.aA,bG.O gi.2.2.2.2.2.1 xb.fall.ax,bJ.O gi.2.2.2.2.2.2.1 xb.fall.an,bE.O gi.2.2.2.2.2.2.2.1 xb.fall.bQ,Seen.O gi.2.2.2.2.2.2.2.2.1 xb.aI,own az va.1 (aY (a0.aa.map (·.1))),own (kF (aP .u8)) ve.1 (xc++([te.1]:List (List Int)))]++F) (bL (eL hah (lM Q gj) (bN (L:=[lQ aO.O (mput xb.aa ((aY (a0.aa.map (·.1))).getD xa.toNat default) tg.2.2.2) za,ar bc 168 (km.enc tg.1),au.O gi.2.2.2.1 xb.fall.aK,mp Value.string (λp:OV=>eq p.1) gi.2.2.2.2.2.2.2.2.2.1 (aU xb.aa za),ar gi.1 102 [vS xb.av,eq gi.2.1.1,eq gi.2.2.1.1,eq gi.2.2.2.1.1,eq gi.2.2.2.2.1.1,eq gi.2.2.2.2.2.1.1,eq gi.2.2.2.2.2.2.1.1,eq gi.2.2.2.2.2.2.2.1.1,eq gi.2.2.2.2.2.2.2.2.1.1,eq gi.2.2.2.2.2.2.2.2.2.1],bI.O gi.2.1 xb.aG,bI.O gi.2.2.1 xb.aq,dE.O gi.2.2.2.2.1 xb.fall.aA,bG.O gi.2.2.2.2.2.1 xb.fall.ax,bJ.O gi.2.2.2.2.2.2.1 xb.fall.an,bE.O gi.2.2.2.2.2.2.2.1 xb.fall.bQ,Seen.O gi.2.2.2.2.2.2.2.2.1 xb.aI,own az va.1 (aY (a0.aa.map (·.1))),own (kF (aP .u8)) ve.1 (xc++([te.1]:List (List Int)))]) (F:=F) [3,0,1,2,4,5,6,7,8,9,10,11,12,13] kr Q Q))) (λ_ _=>?_)
            refine Dn.gh (l':=λ_:Unit=>[bY.O p0_ (⟨xb.av,xb.aG,xb.aq,xb.fall,xb.aI,mput xb.aa ((aY (a0.aa.map (·.1))).getD xa.toNat default) tg.2.2.2⟩:bY),ar bc 168 (km.enc tg.1),own az va.1 (aY (a0.aa.map (·.1))),own (kF (aP .u8)) ve.1 (xc++([te.1]:List (List Int)))]++F) (bL (bY.shut (p:=p0_) (m:=(⟨xb.av,xb.aG,xb.aq,xb.fall,xb.aI,mput xb.aa ((aY (a0.aa.map (·.1))).getD xa.toNat default) tg.2.2.2⟩:bY)) (r:=[ar bc 168 (km.enc tg.1),own az va.1 (aY (a0.aa.map (·.1))),own (kF (aP .u8)) ve.1 (xc++([te.1]:List (List Int)))]++F) (gi.1,gi.2.1,gi.2.2.1,gi.2.2.2.1,gi.2.2.2.2.1,gi.2.2.2.2.2.1,gi.2.2.2.2.2.2.1,gi.2.2.2.2.2.2.2.1,gi.2.2.2.2.2.2.2.2.1,gi.2.2.2.2.2.2.2.2.2) hac (bN (L:=[iq Value.string aO.O gi.2.2.2.2.2.2.2.2.2.1 (mput xb.aa ((aY (a0.aa.map (·.1))).getD xa.toNat default) tg.2.2.2),ar bc 168 (km.enc tg.1),au.O gi.2.2.2.1 xb.fall.aK,ar gi.1 102 [vS xb.av,eq gi.2.1.1,eq gi.2.2.1.1,eq gi.2.2.2.1.1,eq gi.2.2.2.2.1.1,eq gi.2.2.2.2.2.1.1,eq gi.2.2.2.2.2.2.1.1,eq gi.2.2.2.2.2.2.2.1.1,eq gi.2.2.2.2.2.2.2.2.1.1,eq gi.2.2.2.2.2.2.2.2.2.1],bI.O gi.2.1 xb.aG,bI.O gi.2.2.1 xb.aq,dE.O gi.2.2.2.2.1 xb.fall.aA,bG.O gi.2.2.2.2.2.1 xb.fall.ax,bJ.O gi.2.2.2.2.2.2.1 xb.fall.an,bE.O gi.2.2.2.2.2.2.2.1 xb.fall.bQ,Seen.O gi.2.2.2.2.2.2.2.2.1 xb.aI,own az va.1 (aY (a0.aa.map (·.1))),own (kF (aP .u8)) ve.1 (xc++([te.1]:List (List Int)))]) (F:=F) [3,4,5,2,6,7,8,9,10,0,1,11,12] kr Q Q))) (λ_ _=>?_)
            refine Dn.gh (l':=λ_:Unit=>[own az va.1 (aY (a0.aa.map (·.1))),bY.O p0_ (⟨xb.av,xb.aG,xb.aq,xb.fall,xb.aI,mput xb.aa ((aY (a0.aa.map (·.1))).getD xa.toNat default) tg.2.2.2⟩:bY),own (kF (aP .u8)) ve.1 (xc++([te.1]:List (List Int)))]++F) (bL (nX (L:=[bY.O p0_ (⟨xb.av,xb.aG,xb.aq,xb.fall,xb.aI,mput xb.aa ((aY (a0.aa.map (·.1))).getD xa.toNat default) tg.2.2.2⟩:bY),ar bc 168 (km.enc tg.1),own az va.1 (aY (a0.aa.map (·.1))),own (kF (aP .u8)) ve.1 (xc++([te.1]:List (List Int)))]) (F:=F) [1,2,0,3] 1 Q Q Q)) (λ_ _=>?_)
            exact qt.mk ja (aE (xa+1),(⟨xb.av,xb.aG,xb.aq,xb.fall,xb.aI,mput xb.aa ((aY (a0.aa.map (·.1))).getD xa.toNat default) tg.2.2.2⟩:bY),xc++([te.1]:List (List Int)),ve) (Nat.lt_succ_self _) H (aH Q (aH Q (aH Q (aH Q (aH Q dD))))) (List.Perm.refl _)
          · have H:=H.cf cb
            refine WP.skip ?_
            refine rg 2 0 ?_
            refine Dv.bin Q T Q Q (λ_=>q9) ?_
            refine Dv.mv Q T Q ?_
            refine .fin ?_
            refine Dn.gh (l':=λ_:Unit=>[lQ aO.O (mput xb.aa ((aY (a0.aa.map (·.1))).getD xa.toNat default) tg.2.2.2) za,ar bc 168 (km.enc tg.1),au.O gi.2.2.2.1 xb.fall.aK,mp Value.string (λp:OV=>eq p.1) gi.2.2.2.2.2.2.2.2.2.1 (aU xb.aa za),ar gi.1 102 [vS xb.av,eq gi.2.1.1,eq gi.2.2.1.1,eq gi.2.2.2.1.1,eq gi.2.2.2.2.1.1,eq gi.2.2.2.2.2.1.1,eq gi.2.2.2.2.2.2.1.1,eq gi.2.2.2.2.2.2.2.1.1,eq gi.2.2.2.2.2.2.2.2.1.1,eq gi.2.2.2.2.2.2.2.2.2.1],bI.O gi.2.1 xb.aG,bI.O gi.2.2.1 xb.aq,dE.O gi.2.2.2.2.1 xb.fall.aA,bG.O gi.2.2.2.2.2.1 xb.fall.ax,bJ.O gi.2.2.2.2.2.2.1 xb.fall.an,bE.O gi.2.2.2.2.2.2.2.1 xb.fall.bQ,Seen.O gi.2.2.2.2.2.2.2.2.1 xb.aI,own az va.1 (aY (a0.aa.map (·.1))),own (kF (aP .u8)) vd.1 xc]++F) (bL (n9 had Q gj (bN (L:=[ar bc 168 (km.enc tg.1),aO.O ((mget (aU xb.aa za) ((aY (a0.aa.map (·.1))).getD xa.toNat default)).getD dK) tg.2.2.2,au.O gi.2.2.2.1 xb.fall.aK,lX aO.O xb.aa za ((aY (a0.aa.map (·.1))).getD xa.toNat default),mp Value.string (λp:OV=>eq p.1) gi.2.2.2.2.2.2.2.2.2.1 (aU xb.aa za),ar gi.1 102 [vS xb.av,eq gi.2.1.1,eq gi.2.2.1.1,eq gi.2.2.2.1.1,eq gi.2.2.2.2.1.1,eq gi.2.2.2.2.2.1.1,eq gi.2.2.2.2.2.2.1.1,eq gi.2.2.2.2.2.2.2.1.1,eq gi.2.2.2.2.2.2.2.2.1.1,eq gi.2.2.2.2.2.2.2.2.2.1],bI.O gi.2.1 xb.aG,bI.O gi.2.2.1 xb.aq,dE.O gi.2.2.2.2.1 xb.fall.aA,bG.O gi.2.2.2.2.2.1 xb.fall.ax,bJ.O gi.2.2.2.2.2.2.1 xb.fall.an,bE.O gi.2.2.2.2.2.2.2.1 xb.fall.bQ,Seen.O gi.2.2.2.2.2.2.2.2.1 xb.aI,own az va.1 (aY (a0.aa.map (·.1))),own (kF (aP .u8)) vd.1 xc]) (F:=F) [1,3,0,2,4,5,6,7,8,9,10,11,12,13,14] kr Q Q))) (λ_ hai=>?_)
            refine Dn.gh (l':=λ_:Unit=>[iq Value.string aO.O gi.2.2.2.2.2.2.2.2.2.1 (mput xb.aa ((aY (a0.aa.map (·.1))).getD xa.toNat default) tg.2.2.2),ar bc 168 (km.enc tg.1),au.O gi.2.2.2.1 xb.fall.aK,ar gi.1 102 [vS xb.av,eq gi.2.1.1,eq gi.2.2.1.1,eq gi.2.2.2.1.1,eq gi.2.2.2.2.1.1,eq gi.2.2.2.2.2.1.1,eq gi.2.2.2.2.2.2.1.1,eq gi.2.2.2.2.2.2.2.1.1,eq gi.2.2.2.2.2.2.2.2.1.1,eq gi.2.2.2.2.2.2.2.2.2.1],bI.O gi.2.1 xb.aG,bI.O gi.2.2.1 xb.aq,dE.O gi.2.2.2.2.1 xb.fall.aA,bG.O gi.2.2.2.2.2.1 xb.fall.ax,bJ.O gi.2.2.2.2.2.2.1 xb.fall.an,bE.O gi.2.2.2.2.2.2.2.1 xb.fall.bQ,Seen.O gi.2.2.2.2.2.2.2.2.1 xb.aI,own az va.1 (aY (a0.aa.map (·.1))),own (kF (aP .u8)) vd.1 xc]++F) (bL (eL hai (lM Q gj) (bN (L:=[lQ aO.O (mput xb.aa ((aY (a0.aa.map (·.1))).getD xa.toNat default) tg.2.2.2) za,ar bc 168 (km.enc tg.1),au.O gi.2.2.2.1 xb.fall.aK,mp Value.string (λp:OV=>eq p.1) gi.2.2.2.2.2.2.2.2.2.1 (aU xb.aa za),ar gi.1 102 [vS xb.av,eq gi.2.1.1,eq gi.2.2.1.1,eq gi.2.2.2.1.1,eq gi.2.2.2.2.1.1,eq gi.2.2.2.2.2.1.1,eq gi.2.2.2.2.2.2.1.1,eq gi.2.2.2.2.2.2.2.1.1,eq gi.2.2.2.2.2.2.2.2.1.1,eq gi.2.2.2.2.2.2.2.2.2.1],bI.O gi.2.1 xb.aG,bI.O gi.2.2.1 xb.aq,dE.O gi.2.2.2.2.1 xb.fall.aA,bG.O gi.2.2.2.2.2.1 xb.fall.ax,bJ.O gi.2.2.2.2.2.2.1 xb.fall.an,bE.O gi.2.2.2.2.2.2.2.1 xb.fall.bQ,Seen.O gi.2.2.2.2.2.2.2.2.1 xb.aI,own az va.1 (aY (a0.aa.map (·.1))),own (kF (aP .u8)) vd.1 xc]) (F:=F) [3,0,1,2,4,5,6,7,8,9,10,11,12,13] kr Q Q))) (λ_ _=>?_)
            refine Dn.gh (l':=λ_:Unit=>[bY.O p0_ (⟨xb.av,xb.aG,xb.aq,xb.fall,xb.aI,mput xb.aa ((aY (a0.aa.map (·.1))).getD xa.toNat default) tg.2.2.2⟩:bY),ar bc 168 (km.enc tg.1),own az va.1 (aY (a0.aa.map (·.1))),own (kF (aP .u8)) vd.1 xc]++F) (bL (bY.shut (p:=p0_) (m:=(⟨xb.av,xb.aG,xb.aq,xb.fall,xb.aI,mput xb.aa ((aY (a0.aa.map (·.1))).getD xa.toNat default) tg.2.2.2⟩:bY)) (r:=[ar bc 168 (km.enc tg.1),own az va.1 (aY (a0.aa.map (·.1))),own (kF (aP .u8)) vd.1 xc]++F) (gi.1,gi.2.1,gi.2.2.1,gi.2.2.2.1,gi.2.2.2.2.1,gi.2.2.2.2.2.1,gi.2.2.2.2.2.2.1,gi.2.2.2.2.2.2.2.1,gi.2.2.2.2.2.2.2.2.1,gi.2.2.2.2.2.2.2.2.2) hac (bN (L:=[iq Value.string aO.O gi.2.2.2.2.2.2.2.2.2.1 (mput xb.aa ((aY (a0.aa.map (·.1))).getD xa.toNat default) tg.2.2.2),ar bc 168 (km.enc tg.1),au.O gi.2.2.2.1 xb.fall.aK,ar gi.1 102 [vS xb.av,eq gi.2.1.1,eq gi.2.2.1.1,eq gi.2.2.2.1.1,eq gi.2.2.2.2.1.1,eq gi.2.2.2.2.2.1.1,eq gi.2.2.2.2.2.2.1.1,eq gi.2.2.2.2.2.2.2.1.1,eq gi.2.2.2.2.2.2.2.2.1.1,eq gi.2.2.2.2.2.2.2.2.2.1],bI.O gi.2.1 xb.aG,bI.O gi.2.2.1 xb.aq,dE.O gi.2.2.2.2.1 xb.fall.aA,bG.O gi.2.2.2.2.2.1 xb.fall.ax,bJ.O gi.2.2.2.2.2.2.1 xb.fall.an,bE.O gi.2.2.2.2.2.2.2.1 xb.fall.bQ,Seen.O gi.2.2.2.2.2.2.2.2.1 xb.aI,own az va.1 (aY (a0.aa.map (·.1))),own (kF (aP .u8)) vd.1 xc]) (F:=F) [3,4,5,2,6,7,8,9,10,0,1,11,12] kr Q Q))) (λ_ _=>?_)
            refine Dn.gh (l':=λ_:Unit=>[own az va.1 (aY (a0.aa.map (·.1))),bY.O p0_ (⟨xb.av,xb.aG,xb.aq,xb.fall,xb.aI,mput xb.aa ((aY (a0.aa.map (·.1))).getD xa.toNat default) tg.2.2.2⟩:bY),own (kF (aP .u8)) vd.1 xc]++F) (bL (nX (L:=[bY.O p0_ (⟨xb.av,xb.aG,xb.aq,xb.fall,xb.aI,mput xb.aa ((aY (a0.aa.map (·.1))).getD xa.toNat default) tg.2.2.2⟩:bY),ar bc 168 (km.enc tg.1),own az va.1 (aY (a0.aa.map (·.1))),own (kF (aP .u8)) vd.1 xc]) (F:=F) [1,2,0,3] 1 Q Q Q)) (λ_ _=>?_)
            exact qt.mk ja (aE (xa+1),(⟨xb.av,xb.aG,xb.aq,xb.fall,xb.aI,mput xb.aa ((aY (a0.aa.map (·.1))).getD xa.toNat default) tg.2.2.2⟩:bY),xc,vd) (Nat.lt_succ_self _) H (aH Q (aH Q (aH Q (aH Q (aH Q dD))))) (List.Perm.refl _)
      · have H:=H.cf ca
        refine WP.exit ?_
        have H:=H.out
        exact Jn.mk ((xa,decide (xa<((aY (a0.aa.map (·.1))).length:Int)),xb,xc),vd) H (aH Q dD) (List.Perm.refl _)
  · refine WP.seq ?_
    refine rg 5 16 ?_
    refine Dv.mv Q T Q ?_
    refine Dv.mD bY.nn Q T Q (ab 0 Q) ?_
    refine Dv.gh (l':=λ(gt:Nat×OV×OV×OV×OV×OV×OV×OV×OV×OV)=>[ar gt.1 102 [vS a0.av,eq gt.2.1.1,eq gt.2.2.1.1,eq gt.2.2.2.1.1,eq gt.2.2.2.2.1.1,eq gt.2.2.2.2.2.1.1,eq gt.2.2.2.2.2.2.1.1,eq gt.2.2.2.2.2.2.2.1.1,eq gt.2.2.2.2.2.2.2.2.1.1,eq gt.2.2.2.2.2.2.2.2.2.1],bI.O gt.2.1 a0.aG,bI.O gt.2.2.1 a0.aq,au.O gt.2.2.2.1 a0.fall.aK,dE.O gt.2.2.2.2.1 a0.fall.aA,bG.O gt.2.2.2.2.2.1 a0.fall.ax,bJ.O gt.2.2.2.2.2.2.1 a0.fall.an,bE.O gt.2.2.2.2.2.2.2.1 a0.fall.bQ,Seen.O gt.2.2.2.2.2.2.2.2.1 a0.aI,iq Value.string aO.O gt.2.2.2.2.2.2.2.2.2.1 a0.aa]++F) (bL (bY.eF 0 Q)) (λgt hak=>?_)
    refine fp hak Q T Q p9 ?_
    refine jf 1 [0] ?_
    refine Dv.gh (l':=λzb:List OV=>[mp Value.string (λp:OV=>eq p.1) gt.2.2.2.2.2.2.2.2.2.1 (aU a0.aa zb),lQ aO.O a0.aa zb,ar gt.1 102 [vS a0.av,eq gt.2.1.1,eq gt.2.2.1.1,eq gt.2.2.2.1.1,eq gt.2.2.2.2.1.1,eq gt.2.2.2.2.2.1.1,eq gt.2.2.2.2.2.2.1.1,eq gt.2.2.2.2.2.2.2.1.1,eq gt.2.2.2.2.2.2.2.2.1.1,eq gt.2.2.2.2.2.2.2.2.2.1],bI.O gt.2.1 a0.aG,bI.O gt.2.2.1 a0.aq,au.O gt.2.2.2.1 a0.fall.aK,dE.O gt.2.2.2.2.1 a0.fall.aA,bG.O gt.2.2.2.2.2.1 a0.fall.ax,bJ.O gt.2.2.2.2.2.2.1 a0.fall.an,bE.O gt.2.2.2.2.2.2.2.1 a0.fall.bQ,Seen.O gt.2.2.2.2.2.2.2.2.1 a0.aI]++F) (bL (kn 9 Q)) (λzb ham=>?_)
    refine Dv.Jp (jj:=0) Q T Q Q yW nofun (λqb=>?_)
    refine .fin ?_
    refine WP.gh (l':=λ_:Unit=>[kG Value.string (λp:OV=>eq p.1) gt.2.2.2.2.2.2.2.2.2.1 qb.1 (aU a0.aa zb) [],lQ aO.O a0.aa zb,ar gt.1 102 [vS a0.av,eq gt.2.1.1,eq gt.2.2.1.1,eq gt.2.2.2.1.1,eq gt.2.2.2.2.1.1,eq gt.2.2.2.2.2.1.1,eq gt.2.2.2.2.2.2.1.1,eq gt.2.2.2.2.2.2.2.1.1,eq gt.2.2.2.2.2.2.2.2.1.1,eq gt.2.2.2.2.2.2.2.2.2.1],bI.O gt.2.1 a0.aG,bI.O gt.2.2.1 a0.aq,au.O gt.2.2.2.1 a0.fall.aK,dE.O gt.2.2.2.2.1 a0.fall.aA,bG.O gt.2.2.2.2.2.1 a0.fall.ax,bJ.O gt.2.2.2.2.2.2.1 a0.fall.an,bE.O gt.2.2.2.2.2.2.2.1 a0.fall.bQ,Seen.O gt.2.2.2.2.2.2.2.2.1 a0.aI]++F) (bL (ok:=λ_=>True) λR w k=>⟨(),T,k⟩) (λ_ _=>?_)
    refine WP.gh (l':=λ_:Unit=>[own az iQ.1 [],kG Value.string (λp:OV=>eq p.1) gt.2.2.2.2.2.2.2.2.2.1 qb.1 (aU a0.aa zb) [],lQ aO.O a0.aa zb,ar gt.1 102 [vS a0.av,eq gt.2.1.1,eq gt.2.2.1.1,eq gt.2.2.2.1.1,eq gt.2.2.2.2.1.1,eq gt.2.2.2.2.2.1.1,eq gt.2.2.2.2.2.2.1.1,eq gt.2.2.2.2.2.2.2.1.1,eq gt.2.2.2.2.2.2.2.2.1.1,eq gt.2.2.2.2.2.2.2.2.2.1],bI.O gt.2.1 a0.aG,bI.O gt.2.2.1 a0.aq,au.O gt.2.2.2.1 a0.fall.aK,dE.O gt.2.2.2.2.1 a0.fall.aA,bG.O gt.2.2.2.2.2.1 a0.fall.ax,bJ.O gt.2.2.2.2.2.2.1 a0.fall.an,bE.O gt.2.2.2.2.2.2.2.1 a0.fall.bQ,Seen.O gt.2.2.2.2.2.2.2.2.1 a0.aI]++F) (bL (dX az none)) (λ_ _=>?_)
    refine WP.block ?_
    refine WP.fG (E':=(λb:List Nat×OV=>[(3,eq b.2.1),(17,eq qb.1),(0,eq p0_.1)]) ([],iQ)) (aH Q (aH Q (aH Q dD))) (WP.loop (β:=List Nat×OV) (λkk b=>b.1.length+kk=a0.aa.length) (λb=>[(3,eq b.2.1),(17,eq qb.1),(0,eq p0_.1)]) (λb=>[own az b.2.1 (eD a0.aa (λe=>some e.1) b.1),kG Value.string (λp:OV=>eq p.1) gt.2.2.2.2.2.2.2.2.2.1 qb.1 (aU a0.aa zb) b.1,lQ aO.O a0.aa zb,ar gt.1 102 [vS a0.av,eq gt.2.1.1,eq gt.2.2.1.1,eq gt.2.2.2.1.1,eq gt.2.2.2.2.1.1,eq gt.2.2.2.2.2.1.1,eq gt.2.2.2.2.2.2.1.1,eq gt.2.2.2.2.2.2.2.1.1,eq gt.2.2.2.2.2.2.2.2.1.1,eq gt.2.2.2.2.2.2.2.2.2.1],bI.O gt.2.1 a0.aG,bI.O gt.2.2.1 a0.aq,au.O gt.2.2.2.1 a0.fall.aK,dE.O gt.2.2.2.2.1 a0.fall.aA,bG.O gt.2.2.2.2.2.1 a0.fall.ax,bJ.O gt.2.2.2.2.2.2.1 a0.fall.an,bE.O gt.2.2.2.2.2.2.2.1 a0.fall.bQ,Seen.O gt.2.2.2.2.2.2.2.2.1 a0.aI]++F) ?_ (k:=a0.aa.length) (b:=([],iQ)) (Nat.zero_add _))
    rintro kk ⟨is,v⟩ hk
    replace hk:is.length+kk=a0.aa.length:=hk
    refine wr 2 1<|Dv.Jg (jj:=1) Q T Q Q nofun (λz hz=>?_)
    rcases z with _ | j
    · have hz:is.Perm (List.range (aU a0.aa zb).length):=hz
      rw [mR ham.1] at hz
      refine dZ Q T Q Q<|.fin<|WP.seq<|WP.cond Q nofun (λ_=>WP.exit ?_)
      refine Dn.gh (l':=λ_:Unit=>[own az v.1 (eD a0.aa (λe=>some e.1) is),kG Value.string (λp:OV=>eq p.1) gt.2.2.2.2.2.2.2.2.2.1 qb.1 (aU a0.aa zb) is,lQ aO.O a0.aa zb,ar gt.1 102 [vS a0.av,eq gt.2.1.1,eq gt.2.2.1.1,eq gt.2.2.2.1.1,eq gt.2.2.2.2.1.1,eq gt.2.2.2.2.2.1.1,eq gt.2.2.2.2.2.2.1.1,eq gt.2.2.2.2.2.2.2.1.1,eq gt.2.2.2.2.2.2.2.2.1.1,eq gt.2.2.2.2.2.2.2.2.2.1],bI.O gt.2.1 a0.aG,bI.O gt.2.2.1 a0.aq,au.O gt.2.2.2.1 a0.fall.aK,dE.O gt.2.2.2.2.1 a0.fall.aA,bG.O gt.2.2.2.2.2.1 a0.fall.ax,bJ.O gt.2.2.2.2.2.2.1 a0.fall.an,bE.O gt.2.2.2.2.2.2.2.1 a0.fall.bQ,Seen.O gt.2.2.2.2.2.2.2.2.1 a0.aI]++F) (bL (ok:=λ_=>True) λR w k=>⟨(),T,k⟩) (λ_ _=>?_)
      refine Dn.gh (l':=λ_:Unit=>[mp Value.string (λp:OV=>eq p.1) gt.2.2.2.2.2.2.2.2.2.1 (aU a0.aa zb),own az v.1 (eD a0.aa (λe=>some e.1) is),lQ aO.O a0.aa zb,ar gt.1 102 [vS a0.av,eq gt.2.1.1,eq gt.2.2.1.1,eq gt.2.2.2.1.1,eq gt.2.2.2.2.1.1,eq gt.2.2.2.2.2.1.1,eq gt.2.2.2.2.2.2.1.1,eq gt.2.2.2.2.2.2.2.1.1,eq gt.2.2.2.2.2.2.2.2.1.1,eq gt.2.2.2.2.2.2.2.2.2.1],bI.O gt.2.1 a0.aG,bI.O gt.2.2.1 a0.aq,au.O gt.2.2.2.1 a0.fall.aK,dE.O gt.2.2.2.2.1 a0.fall.aA,bG.O gt.2.2.2.2.2.1 a0.fall.ax,bJ.O gt.2.2.2.2.2.2.1 a0.fall.an,bE.O gt.2.2.2.2.2.2.2.1 a0.fall.bQ,Seen.O gt.2.2.2.2.2.2.2.2.1 a0.aI]++F) (bL (rB (pm 12 [1,0,2,3,4,5,6,7,8,9,10,11]))) (λ_ _=>?_)
      refine Dn.gh (l':=λ_:Unit=>[iq Value.string aO.O gt.2.2.2.2.2.2.2.2.2.1 a0.aa,own az v.1 (eD a0.aa (λe=>some e.1) is),ar gt.1 102 [vS a0.av,eq gt.2.1.1,eq gt.2.2.1.1,eq gt.2.2.2.1.1,eq gt.2.2.2.2.1.1,eq gt.2.2.2.2.2.1.1,eq gt.2.2.2.2.2.2.1.1,eq gt.2.2.2.2.2.2.2.1.1,eq gt.2.2.2.2.2.2.2.2.1.1,eq gt.2.2.2.2.2.2.2.2.2.1],bI.O gt.2.1 a0.aG,bI.O gt.2.2.1 a0.aq,au.O gt.2.2.2.1 a0.fall.aK,dE.O gt.2.2.2.2.1 a0.fall.aA,bG.O gt.2.2.2.2.2.1 a0.fall.ax,bJ.O gt.2.2.2.2.2.2.1 a0.fall.an,bE.O gt.2.2.2.2.2.2.2.1 a0.fall.bQ,Seen.O gt.2.2.2.2.2.2.2.2.1 a0.aI]++F) (bL (eL ham Q (bN (L:=[mp Value.string (λp:OV=>eq p.1) gt.2.2.2.2.2.2.2.2.2.1 (aU a0.aa zb),own az v.1 (eD a0.aa (λe=>some e.1) is),lQ aO.O a0.aa zb,ar gt.1 102 [vS a0.av,eq gt.2.1.1,eq gt.2.2.1.1,eq gt.2.2.2.1.1,eq gt.2.2.2.2.1.1,eq gt.2.2.2.2.2.1.1,eq gt.2.2.2.2.2.2.1.1,eq gt.2.2.2.2.2.2.2.1.1,eq gt.2.2.2.2.2.2.2.2.1.1,eq gt.2.2.2.2.2.2.2.2.2.1],bI.O gt.2.1 a0.aG,bI.O gt.2.2.1 a0.aq,au.O gt.2.2.2.1 a0.fall.aK,dE.O gt.2.2.2.2.1 a0.fall.aA,bG.O gt.2.2.2.2.2.1 a0.fall.ax,bJ.O gt.2.2.2.2.2.2.1 a0.fall.an,bE.O gt.2.2.2.2.2.2.2.1 a0.fall.bQ,Seen.O gt.2.2.2.2.2.2.2.2.1 a0.aI]) (F:=F) [0,2,1,3,4,5,6,7,8,9,10,11] kr Q Q))) (λ_ _=>?_)
      refine Dn.gh (l':=λ_:Unit=>[bY.O p0_ a0,own az v.1 (eD a0.aa (λe=>some e.1) is)]++F) (bL (bY.shut (p:=p0_) (m:=a0) (r:=[own az v.1 (eD a0.aa (λe=>some e.1) is)]++F) (gt.1,gt.2.1,gt.2.2.1,gt.2.2.2.1,gt.2.2.2.2.1,gt.2.2.2.2.2.1,gt.2.2.2.2.2.2.1,gt.2.2.2.2.2.2.2.1,gt.2.2.2.2.2.2.2.2.1,gt.2.2.2.2.2.2.2.2.2) hak (bN (L:=[iq Value.string aO.O gt.2.2.2.2.2.2.2.2.2.1 a0.aa,own az v.1 (eD a0.aa (λe=>some e.1) is),ar gt.1 102 [vS a0.av,eq gt.2.1.1,eq gt.2.2.1.1,eq gt.2.2.2.1.1,eq gt.2.2.2.2.1.1,eq gt.2.2.2.2.2.1.1,eq gt.2.2.2.2.2.2.1.1,eq gt.2.2.2.2.2.2.2.1.1,eq gt.2.2.2.2.2.2.2.2.1.1,eq gt.2.2.2.2.2.2.2.2.2.1],bI.O gt.2.1 a0.aG,bI.O gt.2.2.1 a0.aq,au.O gt.2.2.2.1 a0.fall.aK,dE.O gt.2.2.2.2.1 a0.fall.aA,bG.O gt.2.2.2.2.2.1 a0.fall.ax,bJ.O gt.2.2.2.2.2.2.1 a0.fall.an,bE.O gt.2.2.2.2.2.2.2.1 a0.fall.bQ,Seen.O gt.2.2.2.2.2.2.2.2.1 a0.aI]) (F:=F) [2,3,4,5,6,7,8,9,10,0,1] kr Q Q))) (λ_ _=>?_)
      refine Dn.gh (l':=λ_:Unit=>[own az v.1 (eD a0.aa (λe=>some e.1) is),bY.O p0_ a0]++F) (bL (nX (L:=[bY.O p0_ a0,own az v.1 (eD a0.aa (λe=>some e.1) is)]) (F:=F) [1,0] 0 Q Q Q)) (λ_ _=>?_)
      exact Jn.mk (is,v) hz (aH Q (aH Q dD)) (List.Perm.refl _)
    have hz:j<(aU a0.aa zb).length/\j ∉ is/\is.length<(aU a0.aa zb).length:=hz
    obtain⟨e,p,he,hp,hep⟩:=r6 ham hz.1
    have hlt:is.length<a0.aa.length:=by rw [<- mR ham.1];exact hz.2.2
    have hsl:=Nat.le_trans (qJ (m:=a0.aa) (f:=(λe=>some e.1)) (is:=is)) (Nat.le_of_lt hlt)
    have e1:nxV Value.string (λp:OV=>eq p.1) (aU a0.aa zb) (some j)=lg [vB true,vS e.1,eq p.1]:=by simp only [nxV,hep]
    rw [e1]
    refine dZ Q T Q Q<|.fin<|WP.seq<|WP.cond Q (λ_=>WP.skip ?_) nofun
    refine WP.gh (l':=λ_:Unit=>[own az v.1 (eD a0.aa (λe=>some e.1) is),kG Value.string (λp:OV=>eq p.1) gt.2.2.2.2.2.2.2.2.2.1 qb.1 (aU a0.aa zb) (is++[j]),lQ aO.O a0.aa zb,ar gt.1 102 [vS a0.av,eq gt.2.1.1,eq gt.2.2.1.1,eq gt.2.2.2.1.1,eq gt.2.2.2.2.1.1,eq gt.2.2.2.2.2.1.1,eq gt.2.2.2.2.2.2.1.1,eq gt.2.2.2.2.2.2.2.1.1,eq gt.2.2.2.2.2.2.2.2.1.1,eq gt.2.2.2.2.2.2.2.2.2.1],bI.O gt.2.1 a0.aG,bI.O gt.2.2.1 a0.aq,au.O gt.2.2.2.1 a0.fall.aK,dE.O gt.2.2.2.2.1 a0.fall.aA,bG.O gt.2.2.2.2.2.1 a0.fall.ax,bJ.O gt.2.2.2.2.2.2.1 a0.fall.an,bE.O gt.2.2.2.2.2.2.2.1 a0.fall.bQ,Seen.O gt.2.2.2.2.2.2.2.2.1 a0.aI]++F) (bL (ok:=λ_=>True) λR w k=>⟨(),T,k⟩) (λ_ _=>?_)
    refine WP.block<|wr 3 0<|Dv.Jr 1 Q T Q Q hep ?_
    refine dZ Q T Q Q<|gq 1 ?_
    have e6:=o7 (f:=(λe=>some e.1)) (is:=is) he rfl
    have hbd:(eD a0.aa (λe=>some e.1) is).length+([e.1]:List BA).length<=9223372036854775807/\((eD a0.aa (λe=>some e.1) is).length+([e.1]:List BA).length)*16<=140737488355328:=by rw [List.length_singleton];omega
    refine rg 5 8<|go 2<|Dv.lit az ([e.1]:List BA) (css:=[[vS e.1]]) Q T iu U9 c9 z9 Q dc dc Q ⟨(cells_one (ai Q)),T⟩ Q Q Q<|ap az 0 ([e.1]:List BA) dG iu (.inr ⟨_,iu⟩) wE hbd nofun λv9=>go 1 ?_
    rw [e6]
    exact qt.mk (kk-1) (is++[j],v9) om (by show(is++[j]).length+(kk-1)=_;rw [List.length_append,List.length_singleton];omega) (aH Q (aH Q (aH Q dD))) (List.Perm.refl _)
theorem ia.c (h:ia.f k a0 a1=some r):Pt prog 41 [sl az a0,sl az a1] (vB r):=by
 refine pf func41 h λR0 F H=>?_
 refine so<|WP.seq<|wr 5 0<|go 1<|Dv.jw Q T Q iu<|go 1<|Dv.jw Q T Q iu<|go 1<|ce H ?_ ?_ <;> intro H
 ·refine sp ?_
  cases H.out;exact ek 0
 refine WP.skip<|sr H id [] (λ_=>[]) (λ_=>[]) (λpa H=>?_) (λH=>?_)
 ·refine sp ?_
  cases H.out;exact ek 0
 refine so<|WP.block<|ws 0 [] 0 ?_
 refine lq (λj_ (pc:Int)=>ia.l0 k a0 a1 j_ pc) 0 H [0,1] (λpc=>[(5,vI pc)]) (λ_=>[]) ?_
 rintro j_ xa H
 rcases j_ with _ | ja
 ·exact(aW.no H).elim
 try dsimp only at H
 rw [ia.l0] at H
 refine WP.seq<|wr 4 0<|go 2<|Dv.jw Q T Q iu<|go 1<|cf H ?_ ?_ <;> intro H
 ·refine WP.exit ?_
  have H:=H.out
  exact jn (xa,decide (xa<(a0.length:Int))) H
 refine WP.skip<|WP.seq<|WP.block<|wd mX 9 0<|go 2<|gr H λgb H=>Dv.lE Q T Q Q iu U9 c9 gb.1 gb.2<|nK Q T Q o6 Q<|go 2<|gr H λgc H=>Dv.lE Q T Q Q iu U9 c9 gc.1 gc.2<|nK Q T Q o6 Q<|go 1<|cf H ?_ ?_ <;> intro H
 ·exact WP.skip<|rg 3 0<|go 3<|bk ja (aE (xa+1)) H
 refine sp ?_
 have H:=H.cH
 cases H.out;exact ek 0
theorem kg.c {v0_0 v0_1:OV} {b0_:Nat} (h:kg.f k a0 a1 a2 a3=some r):Tr prog 188 [iT b0_,vS a1,vS a2,vI a3] [ar b0_ 154 [eq v0_0.1,eq v0_1.1],own ak.K v0_0.1 a0.fl] (γ:=Unit) (λ_=>True) (λg=>vB r) (λg=>[ar b0_ 154 [eq v0_0.1,eq v0_1.1],own ak.K v0_0.1 a0.fl]):=by
 refine tf func188 h λR0 F H=>?_
 refine so<|wr 10 0<|go 3<|Dv.lD (qs:=[vI 0,vS a1,vS a2,vS eE,vS eE,vB false,vB false,vI 0,vI 0,vI 0,vI 0]) (css:=[[vS a1],[vS a2]]) Q T fO s5 z80 Q ⟨(cells_one (ai Q)),⟨(cells_one (ai Q)),T⟩⟩ Q Q<|el H λta haa H=>mH 2 [0,1] (cL 209) (gX.c haa (b0_:=b0_) (v0_0:=v0_0) (v0_1:=v0_1)) ?_
 refine go 1<|dZ Q T Q Q<|dZ Q T Q Q<|go 2<|wr 24 0<|gp 2 ?_
 cases ca:ta.2
 ·have H:=H.cf ca
  refine gq 22 ?_
  cases H.out;exact et () 2 [0,1] 0
 have H:=H.ct ca
 refine gl 5 [0]<|gr H λgb H=>?_
 have hac:ta.1.toNat<a0.fl.length:=cQ gb
 refine Dv.na Q (gg Q) Q (ab 1 Q) Q fk fO ij gb.1 gb.2<|fw Q (gg Q) Q IE<|Dv.D5 (j:=ta.1.toNat) (f:=6) (p:=vB ((a0.fl.getD ta.1.toNat default).lO)) Q (gg Q) Q (ab 1 Q) hac U4 Q Q<|gp 2 ?_
 cases cb:(a0.fl.getD ta.1.toNat default).lO
 ·have H:=H.cf cb
  refine gq 12 ?_
  cases H.out;exact et () 2 [0,1] 0
 have H:=H.ct cb
 refine gl 6 [0]<|gr H λgc H=>?_
 have had:ta.1.toNat<a0.fl.length:=cQ gc
 refine Dv.na Q (gg Q) Q (ab 1 Q) Q fk fO ij gc.1 gc.2<|Dv.kX (j:=ta.1.toNat) (f:=0) Q (gg Q) Q (ab 1 Q) had fO Q ij (Nat.le_of_ble_eq_true Q)<|el H λtc hae H=>Dv.call Q (gg Q) (cL 213) Q (nj.c hae)<|gq 3 ?_
 cases H.out;exact et () 2 [0,1] 0
theorem dz.c {v0_0 v0_1:OV} {b0_:Nat} (h:dz.f k a0 a1 a2=some r):Tr prog 116 [iT b0_,vS a1,vI a2] [ar b0_ 154 [eq v0_0.1,eq v0_1.1],own ak.K v0_0.1 a0.fl] (γ:=OV) (λ_=>True) (λg=>eq g.1) (λg=>[ar b0_ 154 [eq v0_0.1,eq v0_1.1],own ak.K v0_0.1 a0.fl,own az g.1 r]):=by
 refine tf func116 h λR0 F H=>?_
 refine so<|so<|wr 3 0<|go 1<|Dv.mkc (fst:=#[.pointer (some ⟨b0_,0,none⟩)]) Q T Q<|go 1<|WP.kW H (λqa:(Int×Bool×(List BA))×OV=>qa.1) (λqa=>[(7,eq qa.2.1)]) (λqa=>[ar b0_ 154 [eq v0_0.1,eq v0_1.1],own ak.K v0_0.1 a0.fl,own az qa.2.1 qa.1.2.2]++F) (λqa H=>?_) (λH=>?_)
 ·obtain⟨pa,va⟩:=qa
  refine sp ?_
  cases H.out;exact et va 3 [0,1,2] 0
 refine wr 6 0<|gl 4 [0]<|Dv.kl Q T Q (ab 1 Q) fk<|go 1<|WP.block<|wg (dX az none) λ_ _=>?_
 refine ws 3 [1,2,0] 0 ?_
 refine lq (λj_ (pc:Int×(List BA)×OV)=>dz.l0 k a0 a1 a2 j_ pc.1 pc.2.1) (0,([]:List BA),iQ) H [1,2,8,16,17] (λpc=>[(7,eq pc.2.2.1),(18,vI pc.1)]) (λpc=>[(2,own az pc.2.2.1 pc.2.1)]) ?_
 rintro j_ ⟨xa,xb,vb⟩ H
 rcases j_ with _ | ja
 ·exact(aW.no H).elim
 try dsimp only at H
 rw [dz.l0] at H
 refine so<|WP.seq<|cf H ?_ ?_ <;> intro H
 ·refine WP.exit ?_
  have H:=H.out
  exact jn ((xa,decide (xa<(a0.fl.length:Int)),xb),vb) H
 refine WP.skip<|WP.seq<|WP.block<|wr 4 12<|gr H λgb H=>?_
 have haa:xa.toNat<a0.fl.length:=cQ gb
 refine Dv.na Q T Q (ab 1 Q) Q fk fO ij gb.1 gb.2<|Dv.kX (j:=xa.toNat) (f:=0) Q T Q (ab 1 Q) haa fO Q ij (Nat.le_of_ble_eq_true Q)<|al Q T qP nofun λba=>sy 0 ?_
 refine .fin<|wr 12 0<|jf 5 [0] ?_
 cases ca:decide (((a0.fl.getD xa.toNat default).aj)=a1)
 ·have H:=H.cf ca
  refine go 7<|WP.cond Q nofun (λ_=>?_)
  refine WP.skip<|rg 2 0<|go 2<|ns 4 [0,1,2,3] 1 ?_
  exact bk ja (aE (xa+1),xb,vb) H
 have H:=H.ct ca
 refine gl 5 [0]<|el H λta hac H=>Dv.DH (fst:=#[.pointer (some ⟨b0_,0,none⟩)]) (B:=[ar b0_ 154 [eq v0_0.1,eq v0_1.1],own ak.K v0_0.1 a0.fl]) (F:=[ar ba 80 (ak.enc (a0.fl.getD xa.toNat default)),own az vb.1 xb]++F) Q (gg Q) Q (cL 188) Q (kg.c hac (b0_:=b0_) (v0_0:=v0_0) (v0_1:=v0_1)) (bN (L:=[ar ba 80 (ak.enc (a0.fl.getD xa.toNat default)),ar b0_ 154 [eq v0_0.1,eq v0_1.1],own ak.K v0_0.1 a0.fl,own az vb.1 xb]) (F:=F) [1,2,0,3] Q Q Q)<|go 1<|cf H ?_ ?_ <;> intro H
 ·refine WP.skip<|rg 2 0<|go 2<|ns 4 [0,1,2,3] 1 ?_
  exact bk ja (aE (xa+1),xb,vb) H
 refine rg 6 16<|gl 3 [0]<|Dv.lit az ([(a0.fl.getD xa.toNat default).aC]:List BA) (css:=[[vS ((a0.fl.getD xa.toNat default).aC)]]) Q T iu U9 c9 z9 Q dc dc Q ⟨(cells_one (ai Q)),T⟩ Q Q Q<|gr H λgc H=>ap az 3 ([(a0.fl.getD xa.toNat default).aC]:List BA) dG iu (.inr ⟨_,iu⟩) wE gc nofun λvd=>?_
 refine go 1<|rg 2 0<|go 2<|ns 4 [0,1,2,3] 1 ?_
 exact bk ja (aE (xa+1),xb++([(a0.fl.getD xa.toNat default).aC]:List BA),vd) H
theorem mK.c {cb0_:Nat} {cq0_0 cq0_1 cq0_2 cq0_3 cq0_4:OV} {c0:Src} {c1:BA} (h:mK.f k a0 c0 c1=some r):Tr prog 117 [vS a0,iT cb0_,rp [vS c1]] [ar cb0_ 99 [eq cq0_0.1,eq cq0_1.1,eq cq0_2.1,eq cq0_3.1,eq cq0_4.1],au.O cq0_0 c0.aK,dE.O cq0_1 c0.aA,bG.O cq0_2 c0.ax,bJ.O cq0_3 c0.an,bE.O cq0_4 c0.bQ] (γ:=Unit) (λ_=>True) (λg=>vB r) (λg=>[ar cb0_ 99 [eq cq0_0.1,eq cq0_1.1,eq cq0_2.1,eq cq0_3.1,eq cq0_4.1],au.O cq0_0 c0.aK,dE.O cq0_1 c0.aA,bG.O cq0_2 c0.ax,bJ.O cq0_3 c0.an,bE.O cq0_4 c0.bQ]):=by
 refine tf func117 h λR0 F H=>?_
 refine so<|wr 7 0<|gl 2 [0]<|nK Q T Q o6 Q<|go 1<|vg (au.eF 1 Q) λgb haa=>?_
 refine el H λta hac H=>mH 7 [0,1,2,3,4,5,6] (cL 118) (Tr.fG (de.c hac (b0_:=gb.1) (v0_0:=gb.2)) (.cons (eb haa) (.cons cG (.cons cG .nil)))) ?_
 refine go 2<|wg (au.shut (p:=cq0_0) (m:=c0.aK) (gb.1,gb.2) haa (pm 7 [0,1,2,3,4,5,6])) λ_ _=>?_
 cases H.out;exact et () 6 [1,0,2,3,4,5] 0
theorem qi.c {p0_0 p0_1 p0_2 p0_3 p0_4:OV} (h:qi.f k a0 a1 a2=some r):Tr prog 70 [agg [eq p0_0.1,eq p0_1.1,eq p0_2.1,eq p0_3.1,eq p0_4.1],vS a1,vI a2] [au.O p0_0 a0.aK,dE.O p0_1 a0.aA,bG.O p0_2 a0.ax,bJ.O p0_3 a0.an,bE.O p0_4 a0.bQ] (γ:=Unit) (λ_=>True) (λg=>sl az r) (λg=>[au.O p0_0 a0.aK,dE.O p0_1 a0.aA,bG.O p0_2 a0.ax,bJ.O p0_3 a0.an,bE.O p0_4 a0.bQ]):=by
 refine tf func70 h λR0 F H=>?_
 refine wr 3 3<|Dv.box Q T Q cA nofun λba=>Dv.box Q T Q cE nofun λbc=>go 1<|wr 8 80<|gl 4 [1,0]<|vg (bG.eF 4 Q) λgb haa=>?_
 refine el H λta hac H=>cx 9 [0,1,2,3,4,5,6,7,8] (cL 116) (Tr.fG (dz.c hac (b0_:=gb.1) (v0_0:=gb.2.1) (v0_1:=gb.2.2)) (.cons (eb haa) (.cons cG (.cons cG .nil)))) nofun λgc _=>?_
 refine vg (bG.shut (p:=p0_2) (m:=a0.ax) (gb.1,gb.2.1,gb.2.2) haa (pm 10 [0,1,3,2,4,5,6,7,8,9])) λ_ _=>?_
 refine Dv.gh (nB (E':=[(0,agg [eq p0_0.1,eq p0_1.1,eq p0_2.1,eq p0_3.1,eq p0_4.1]),(1,vS a1),(2,vI a2),(3,iT ba),(4,rp [vS a1]),(6,jQ),(11,eq gc.1)]) (l':=[bG.O p0_2 a0.ax,own az gc.1 ta,ar ba 99 [eq p0_0.1,eq p0_1.1,eq p0_2.1,eq p0_3.1,eq p0_4.1],au.O p0_0 a0.aK,dE.O p0_1 a0.aA,bJ.O p0_3 a0.an,bE.O p0_4 a0.bQ]++F) 2 Q (ao Q aB (ao Q aB (ao Q aB (ao Q aB (ao Q jx (ao Q aB (ao Q aB iG))))))) (fI (.cons bn (.cons bn (.cons bn (.cons bn (.cons bn (.cons bn (.cons bn .nil))))))) λ_=>bn)) (λ_ _=>?_)
 refine Dv.Im (Q:=kJ (λa0_=>mK.f k a0_ a0 a1)) (L:=[ar ba 99 [eq p0_0.1,eq p0_1.1,eq p0_2.1,eq p0_3.1,eq p0_4.1],au.O p0_0 a0.aK,dE.O p0_1 a0.aA,bG.O p0_2 a0.ax,bJ.O p0_3 a0.an,bE.O p0_4 a0.bQ]) (cL 117) (by rintro _ _ ⟨a0_,r_,h_,rfl,rfl⟩;exact mK.c h_ (cb0_:=ba) (cq0_0:=p0_0) (cq0_1:=p0_1) (cq0_2:=p0_2) (cq0_3:=p0_3) (cq0_4:=p0_4)) Q T Q Q<|el H λtc had H=>cx 7 [1,2,3,4,0,5,6] (cL 115) (Tr.zF (A:=[own az gc.1 ta]) (L:=[ar ba 99 [eq p0_0.1,eq p0_1.1,eq p0_2.1,eq p0_3.1,eq p0_4.1],au.O p0_0 a0.aK,dE.O p0_1 a0.aA,bG.O p0_2 a0.ax,bJ.O p0_3 a0.an,bE.O p0_4 a0.bQ]) (B:=λgi:OV=>[own az gi.1 tc]) (slices_DeleteFunc_string_xo.c had (p0_:=gc) (X1_:=(pk [ar ba 99 [eq p0_0.1,eq p0_1.1,eq p0_2.1,eq p0_3.1,eq p0_4.1],au.O p0_0 a0.aK,dE.O p0_1 a0.aA,bG.O p0_2 a0.ax,bJ.O p0_3 a0.an,bE.O p0_4 a0.bQ])))) nofun λgi _=>?_
 refine go 1<|fz 6 [6] [] ?_
 cases H.out;exact et () 6 [0,1,2,3,4,5] 1
theorem jH.c {p0_:OV} (h:jH.f k a0 a1=some r):Tr prog 42 [eq p0_.1,vS a1] [bY.O p0_ a0] (γ:=Unit) (λ_=>True) (λg=>sl az r) (λg=>[bY.O p0_ a0]):=by
 refine tf func42 h λR0 F H=>?_
 refine so<|WP.seq<|wg (bY.eF 0 Q) λgb haa=>?_
 refine dg mX 9 128<|go 1<|Dv.aJ haa Q T Q<|fp haa Q T Q iS<|gl 3 [0]<|el H λta hac H=>mH 10 [0,1,2,3,4,5,6,7,8,9] (cL 9) (Tr.fG (eJ.c (b:=gb.1) (qs:=[vS a0.av,eq gb.2.1.1,eq gb.2.2.1.1,eq gb.2.2.2.1.1,eq gb.2.2.2.2.1.1,eq gb.2.2.2.2.2.1.1,eq gb.2.2.2.2.2.2.1.1,eq gb.2.2.2.2.2.2.2.1.1,eq gb.2.2.2.2.2.2.2.2.1.1,eq gb.2.2.2.2.2.2.2.2.2.1]) (p:=gb.2.1) Q hac) (.cons (eb haa) .nil)) ?_
 refine el H λtc had H=>cx 10 [3,4,5,6,7,0,1,2,8,9] (cL 70) (qi.c had (p0_0:=gb.2.2.2.1) (p0_1:=gb.2.2.2.2.1) (p0_2:=gb.2.2.2.2.2.1) (p0_3:=gb.2.2.2.2.2.2.1) (p0_4:=gb.2.2.2.2.2.2.2.1)) pC λ_ _=>?_
 refine go 1<|wg (bY.shut (p:=p0_) (m:=a0) (gb.1,gb.2.1,gb.2.2.1,gb.2.2.2.1,gb.2.2.2.2.1,gb.2.2.2.2.2.1,gb.2.2.2.2.2.2.1,gb.2.2.2.2.2.2.2.1,gb.2.2.2.2.2.2.2.2.1,gb.2.2.2.2.2.2.2.2.2) haa (pm 10 [5,6,7,0,1,2,3,4,8,9])) λ_ _=>?_
 cases H.out;exact et () 1 [0] 0
theorem ow.c (h:ow.f k=some r):Tr prog 13 [] [lax] (γ:=Unit) (λ_=>True) (λg=>vB r) (λg=>[lax]):=by
 refine tf func13 h λR0 F H=>?_
 refine so<|wr 6 1<|el H λta haa H=>cx 1 [0] (cL 6) (l8.c haa) nofun λgb _=>?_
 refine go 1<|dZ Q T Q Q<|dZ Q T Q Q<|go 2<|WP.seq<|wr 6 0<|go 1<|Dv.Gx (λ_=>bY.nn) Q T Q Q U25 (ab 0 Q)<|gp 1 ?_
 rcases bm H with⟨ca,H⟩|⟨ca,H⟩
 rotate_left
 ·refine sh 10 ca<|sh 11 ca<|go 3<|WP.cond Q (λ_=>?_) nofun
  refine sp ?_
  cases H.out;exact et () 2 [0,1] 1
 refine sh 10 ca<|sh 11 ca ?_
 refine go 3<|ce H ?_ ?_ <;> intro H
 ·refine WP.seq<|wg (gT 0 Q ca) λ_ _=>?_
  refine rg 1 0<|gq 1 ?_
  cases H.out;exact et () 2 [0,1] 1
 refine WP.skip<|WP.seq<|wg (gT 0 Q ca) λ_ _=>?_
 refine rg 3 4<|go 1<|Dv.lD (qs:=[vS (⟨#[36,97]⟩:BA),vS (⟨#[33,114,58,115]⟩:BA),jQ,vS eE,vS (⟨#[64,97,58,115]⟩:BA),vI 1]) (css:=[[vS (⟨#[36,97]⟩:BA)],[vS (⟨#[33,114,58,115]⟩:BA)],[vS (⟨#[64,97,58,115]⟩:BA)],[vI 1]]) Q T nb BS z107 Q ⟨(cells_one (ai Q)),⟨(cells_one (ai Q)),⟨(cells_one (ai Q)),⟨(cells_one (ai Q)),T⟩⟩⟩⟩ Q Q<|el H λtc hac H=>cx 2 [1,0] (cL 38) (Tr.fG (server_Server_Event.c hac (p0_:=gb)) (.cons cG (.cons (qR (.cons cG (.cons cG (.cons kT (.cons cG (.cons cG (.cons cG .nil))))))) .nil))) nofun λ_ _=>?_
 refine .fin<|wr 3 4<|go 1<|Dv.lD (qs:=[vS (⟨#[36,98]⟩:BA),vS (⟨#[33,114,58,115]⟩:BA),jQ,vS eE,vS (⟨#[64,98,58,116]⟩:BA),vI 1]) (css:=[[vS (⟨#[36,98]⟩:BA)],[vS (⟨#[33,114,58,115]⟩:BA)],[vS (⟨#[64,98,58,116]⟩:BA)],[vI 1]]) Q T nb BS z107 Q ⟨(cells_one (ai Q)),⟨(cells_one (ai Q)),⟨(cells_one (ai Q)),⟨(cells_one (ai Q)),T⟩⟩⟩⟩ Q Q<|el H λte had H=>cx 2 [0,1] (cL 38) (Tr.fG (server_Server_Event.c had (p0_:=gb)) (.cons cG (.cons (qR (.cons cG (.cons cG (.cons kT (.cons cG (.cons cG (.cons cG .nil))))))) .nil))) nofun λ_ _=>?_
 refine .fin<|wr 3 2<|go 1<|el H λtg hae H=>cx 2 [0,1] (cL 39) (ki.c hae (p0_:=gb)) nofun λ_ _=>?_
 refine go 1<|wr 3 2<|go 1<|el H λtj haf H=>cx 2 [1,0] (cL 40) (server_Server_Send.c haf (p0_:=gb)) nofun λgc _=>?_
 refine go 1<|wr 19 16896<|gp 3 ?_
 rcases bm H with⟨cb,H⟩|⟨cb,H⟩
 ·refine sh 26 cb<|sh 27 cb<|go 6<|Dv.su Q ⟨_,_,Q,Q,.inl Q⟩ nofun<|go 4<|Dv.su Q ⟨_,_,rfl,rfl,.inl rfl⟩ nofun<|gq 4 ?_
  cases H.out;exact et () 3 [0,1,2] 2
 refine sh 26 cb<|sh 27 cb<|go 1<|Dv.kl Q (gg Q) Q (ab 1 Q) Ap<|gp 3 ?_
 rcases bm H with⟨cg,H⟩|⟨cg,H⟩
 ·refine sh 30 cg<|sh 31 cg<|sh 32 cg<|go 1<|Dv.su Q ⟨_,_,Q,Q,.inl Q⟩ nofun<|go 4<|Dv.su Q ⟨_,_,rfl,rfl,.inl rfl⟩ nofun<|gq 4 ?_
  cases H.out;exact et () 3 [0,1,2] 2
 refine sh 30 cg<|sh 31 cg<|sh 32 cg<|go 1<|el H λtm hag H=>cx 3 [0,1,2] (cL 11) (jl.c hag (p0_:=gb)) nofun λ_ _=>?_
 refine gp 3 ?_
 rcases bm H with⟨ci,H⟩|⟨ci,H⟩
 ·refine sh 35 ci<|sh 36 ci<|sh 37 ci<|go 1<|Dv.su Q ⟨_,_,Q,Q,.inl Q⟩ nofun<|gq 4 ?_
  cases H.out;exact et () 3 [0,1,2] 2
 refine sh 35 ci<|sh 36 ci<|sh 37 ci<|go 1<|el H λtn hah H=>cx 3 [0,1,2] (cL 42) (jH.c hah (p0_:=gb)) nofun λ_ _=>?_
 refine Dv.lit az ([(⟨#[64,97,58,115]⟩:BA)]:List BA) (css:=[[vS (⟨#[64,97,58,115]⟩:BA)]]) Q (gg Q) iu U9 c9 z9 Q dc dc Q ⟨(cells_one (ai Q)),T⟩ Q Q Q<|el H λtp hai H=>Dv.call Q (gg Q) (cL 41) Q (ia.c hai)<|gq 2 ?_
 cases H.out;exact et () 3 [0,1,2] 2
theorem uG.c (h:uG.f a0 a1 a2=some r):Pt prog 43 [vS a0,vI a1,vI a2] (agg (rL.enc r)):=by
 refine pf func43 h λR0 F H=>?_
 refine wr 1 1<|al Q T GH nofun λba=>.fin<|wr 7 64<|go 3<|Dv.lD (qs:=[vI 8,jQ,vI 0]) (css:=[[vI 8]]) Q T Hb FK z57 Q ⟨(cells_one (ai Q)),T⟩ Q Q<|Dv.lD (qs:=[jQ,vI 8,jQ,vI 0]) (css:=[[vI 8,jQ,vI 0]]) Q T C7 Fy z59 Q ⟨(bx (ae (ai Q) (ae (ai Q) (ae (ai Q) cN)))),T⟩ Q Q<|Dv.lD (qs:=[vS a0,vI a1,vI 0,jQ,jQ,vI 8,jQ,vI 0,jQ,jQ,jQ,jQ,jQ,vI a2,jQ,jQ]) (css:=[[vS a0],[vI a1],[vI a2],[jQ,vI 8,jQ,vI 0]]) Q T Hm pl69 z69 Q ⟨(cells_one (ai Q)),⟨(cells_one (ai Q)),⟨(cells_one (ai Q)),⟨(bx (ae (ai Q) (ae (ai Q) (ae (ai Q) (ae (ai Q) cN))))),T⟩⟩⟩⟩ Q Q<|sy 0 ?_
 refine .fin ?_
 cases H.out;exact r1 i2 Q (.cons (sW (aL Q Hm Q IX (ab 0 Q) Q) (qR (.cons cG (.cons cG (.cons cG (.cons kT (.cons kT (.cons cG (.cons kT (.cons cG (.cons kT (.cons kT (.cons kT (.cons kT (.cons kT (.cons cG (.cons kT (.cons kT .nil)))))))))))))))))) .nil)
theorem dq.c (h:dq.f a0 a1=some r):Pt prog 46 [vI a0,vI a1] (vI r):=by
 refine pf func46 h λR0 F H=>?_
 refine so<|WP.seq<|so<|cf H ?_ ?_ <;> intro H
 ·refine WP.skip<|wr 4 0<|go 2<|gr H λgb H=>rr Q Q Q (q7 gb)<|gq 1 ?_
  cases H.out;exact ek 0
 refine rg 4 0<|go 4<|wr 4 0<|go 2<|gr H λgc H=>rr Q Q Q (q7 gc)<|gq 1 ?_
 cases H.out;exact ek 0
theorem iK.c (h:iK.f a0=some r):Pt prog 16 [vI a0] (vS r):=by
 refine pf func16 h λR0 F H=>?_
 refine so<|wr 6 0<|Dv.lit az ([(⟨#[33,114,58,115,49]⟩:BA),(⟨#[33,113,58,115,50]⟩:BA)]:List BA) (css:=[[vS (⟨#[33,114,58,115,49]⟩:BA)],[vS (⟨#[33,113,58,115,50]⟩:BA)]]) Q T iu U9 c9 z9 Q dc dc Q ⟨(cells_one (ai Q)),⟨(cells_one (ai Q)),T⟩⟩ Q Q Q<|go 1<|el H λta haa H=>cl Q (cL 46) Q (dq.c haa)<|gr H λgb H=>Dv.lE Q T Q Q iu U9 c9 gb.1 gb.2<|nK Q T Q o6 Q<|gq 1 ?_
 cases H.out;exact ek 0
theorem jM.c:∀ (k:Nat) {a0:Int} {r:BA} (h:jM.f k a0=some r),Pt prog 50 [vI a0] (vS r)
  | 0,_,_,h=>by cases h
  | k+1,a0,r,h=>by
    rw [jM.f] at h
    refine pb func50 ntmps50 h λR0 F H=>?_
    refine so<|wr 3 0<|go 1<|rr Q Q Q (q7 dc)<|go 1<|sq H id [0] (λpa=>[(3,vI pa)]) (λ_=>[]) (λpa H=>?_) (λH=>?_)
    rotate_left
    ·refine so<|cf H ?_ ?_ <;> intro H
     ·refine WP.skip ?_
      have H:=H.out
      exact jn (a0.tmod 10) H
     refine rg 3 0<|gq 3 ?_
     have H:=H.out
     exact jn (aE (0-(a0.tmod 10))) H
    refine wr 6 0<|go 2<|Dv.I8 Q T Q U3 U5<|Dv.lit (aP .u8) ([IntKind.u8.wrap (aE (48+pa))]:List Int) (css:=[[eq (.int .u8 (IntKind.u8.wrap (aE (48+pa))))]]) Q T Aj U5 c5 z5 Q dc dc Q ⟨(cells_one (ai Q)),T⟩ Q Q Q<|Dv.cvbs Q T Q Aj U5 U9<|go 1<|WP.seq<|wr 6 0<|gp 3 ?_
    cases ca:decide ((-10)<a0)
    ·have H:=H.cf ca
     refine go 3<|WP.cond Q nofun (λ_=>?_)
     refine WP.skip<|wr 6 0<|go 1<|rr Q Q Q (pX dc)<|el H λta haa H=>cl Q (cL 50) Q (jM.c k haa)<|go 1<|gr H λgb H=>rr Q Q Q (nA gb)<|gq 1 ?_
     cases H.out;exact ek 0
    have H:=H.ct ca
    refine go 3<|cf H ?_ ?_ <;> intro H
    ·refine WP.skip<|wr 6 0<|go 1<|rr Q Q Q (pX dc)<|el H λtc hac H=>cl Q (cL 50) Q (jM.c k hac)<|go 1<|gr H λgc H=>rr Q Q Q (nA gc)<|gq 1 ?_
     cases H.out;exact ek 0
    refine WP.seq<|so<|cf H ?_ ?_ <;> intro H
    ·refine WP.skip<|sp ?_
     cases H.out;exact ek 0
    refine wr 3 0<|go 1<|gr H λgi H=>rr Q Q Q (nA gi)<|gq 1 ?_
    cases H.out;exact ek 0
theorem dw.c (h:dw.f k a0=some r):Pt prog 22 [vI a0] (vS r):=by
 refine pf func22 h λR0 F H=>?_
 refine so<|wr 5 0<|go 1<|el H λta haa H=>cl Q (cL 46) Q (dq.c haa)<|el H λtc hac H=>cl Q (cL 50) Q (jM.c _ hac)<|gr H λgb H=>rr Q Q Q (nA gb)<|gq 1 ?_
 cases H.out;exact ek 0
theorem nW.c (h:nW.f a0=some r):Pt prog 75 [vI a0] (vS r):=by
 refine pf func75 h λR0 F H=>?_
 refine so<|wr 6 0<|Dv.lit az ([(⟨#[115,49]⟩:BA),(⟨#[115,50]⟩:BA),(⟨#[115,51]⟩:BA)]:List BA) (css:=[[vS (⟨#[115,49]⟩:BA)],[vS (⟨#[115,50]⟩:BA)],[vS (⟨#[115,51]⟩:BA)]]) Q T iu U9 c9 z9 Q dc dc Q ⟨(cells_one (ai Q)),⟨(cells_one (ai Q)),⟨(cells_one (ai Q)),T⟩⟩⟩ Q Q Q<|go 1<|el H λta haa H=>cl Q (cL 46) Q (dq.c haa)<|gr H λgb H=>Dv.lE Q T Q Q iu U9 c9 gb.1 gb.2<|nK Q T Q o6 Q<|gq 1 ?_
 cases H.out;exact ek 0
theorem kE.c (h:kE.f a0=some r):Pt prog 47 [vI a0] (vS r):=by
 refine pf func47 h λR0 F H=>?_
 refine so<|wr 3 0<|go 1<|el H λta haa H=>cl Q (cL 46) Q (dq.c haa)<|go 1<|wd mX 10 0<|Dv.lit az ([(⟨#[64,97,58]⟩:BA),(⟨#[64,98,58]⟩:BA),(⟨#[64,99,58]⟩:BA)]:List BA) (css:=[[vS (⟨#[64,97,58]⟩:BA)],[vS (⟨#[64,98,58]⟩:BA)],[vS (⟨#[64,99,58]⟩:BA)]]) Q T iu U9 c9 z9 Q dc dc Q ⟨(cells_one (ai Q)),⟨(cells_one (ai Q)),⟨(cells_one (ai Q)),T⟩⟩⟩ Q Q Q<|go 1<|rr Q Q Q (pX dc)<|gr H λgb H=>Dv.lE Q T Q Q iu U9 c9 gb.1 gb.2<|nK Q T Q o6 Q<|go 1<|rr Q Q Q (q7 dc)<|el H λtc hac H=>cl Q (cL 75) Q (nW.c hac)<|gr H λgc H=>rr Q Q Q (nA gc)<|gq 1 ?_
 cases H.out;exact ek 0
theorem fh.c (h:fh.f k a0 a1=some r):Pt prog 52 [agg (bq.enc a0),vS a1] (vI r):=by
 refine pf func52 h λR0 F H=>?_
 refine wr 2 1<|Dv.box Q T Q cA nofun λba=>go 1<|sr H id [] (λ_=>[]) (λ_=>[]) (λpa H=>?_) (λH=>?_)
 ·refine sp ?_
  cases H.out;exact ek 1
 refine so<|WP.block<|ws 1 [0] 0 ?_
 refine lq (λj_ (pc:Int)=>fh.l0 k a0 a1 j_ pc) 0 H [1,2] (λpc=>[(5,vI pc)]) (λ_=>[]) ?_
 rintro j_ xa H
 rcases j_ with _ | ja
 ·exact(aW.no H).elim
 try dsimp only at H
 rw [fh.l0] at H
 refine WP.seq<|wr 5 0<|gl 3 [0]<|Dv.jw Q T Q rN<|go 1<|cf H ?_ ?_ <;> intro H
 ·refine WP.exit ?_
  have H:=H.out
  exact jn (xa,decide (xa<(a0.fL.length:Int))) H
 refine WP.skip<|WP.seq<|WP.block<|wr 8 0<|gl 3 [0]<|gr H λgb H=>Dv.lE Q T Q Q rN nb px gb.1 gb.2<|fr Q T Q G5 Q<|nK Q T Q o6 Q<|go 2<|cf H ?_ ?_ <;> intro H
 ·exact WP.skip<|rg 3 0<|go 3<|bk ja (aE (xa+1)) H
 refine sp ?_
 have H:=H.cH
 cases H.out;exact ek 1
theorem fH.c (h:fH.f k a0=some r):Pt prog 146 [vS a0] (vI r):=by
 refine pf func146 h λR0 F H=>?_
 refine so<|sr H id [] (λ_=>[]) (λ_=>[]) (λpa H=>?_) (λH=>?_)
 ·refine sp ?_
  cases H.out;exact ek 0
 refine so<|WP.block<|ws 0 [] 0 ?_
 refine lq (λj_ (pc:Int)=>fH.l0 k a0 j_ pc) 0 H [0] (λpc=>[(3,vI pc)]) (λ_=>[]) ?_
 rintro j_ xa H
 rcases j_ with _ | ja
 ·exact(aW.no H).elim
 try dsimp only at H
 rw [fH.l0] at H
 refine WP.seq<|wr 4 0<|go 2<|Dv.lens Q T Q U9<|go 1<|cf H ?_ ?_ <;> intro H
 ·refine WP.exit ?_
  have H:=H.out
  exact jn (xa,decide (xa<(a0.size:Int))) H
 refine WP.skip<|WP.seq<|WP.block<|wr 4 0<|go 2<|gr H λgb H=>Dv.ru Q T Q Q U9 gb.1 gb.2<|go 1<|cf H ?_ ?_ <;> intro H
 ·exact WP.skip<|rg 3 0<|go 3<|bk ja (aE (xa+1)) H
 refine sp ?_
 have H:=H.cH
 cases H.out;exact ek 0
theorem gC.c (h:gC.f k a0=some r):Pt prog 147 [vS a0] (vB r):=by
 refine pf func147 h λR0 F H=>?_
 refine so<|sr H id [0] (λ_=>[]) (λ_=>[]) (λpa H=>?_) (λH=>?_)
 ·refine wr 9 0<|go 1<|Dv.lens Q T Q U9<|gp 2 ?_
  cases ca:decide (0<(a0.size:Int))
  ·have H:=H.cf ca
   refine gq 5 ?_
   cases H.out;exact ek 0
  have H:=H.ct ca
  refine go 1<|Dv.lens Q (gg Q) Q U9<|gq 3 ?_
  cases H.out;exact ek 0
 refine so<|WP.block<|ws 0 [] 0 ?_
 refine lq (λj_ (pc:Int)=>gC.l0 k a0 j_ pc) 0 H [0] (λpc=>[(3,vI pc)]) (λ_=>[]) ?_
 rintro j_ xa H
 rcases j_ with _ | ja
 ·exact(aW.no H).elim
 try dsimp only at H
 rw [gC.l0] at H
 refine WP.seq<|wr 4 0<|go 2<|Dv.lens Q T Q U9<|go 1<|cf H ?_ ?_ <;> intro H
 ·refine WP.exit ?_
  have H:=H.out
  exact jn (xa,decide (xa<(a0.size:Int))) H
 refine WP.skip<|WP.seq<|WP.block<|wr 5 0<|go 2<|gr H λgb H=>Dv.ru Q T Q Q U9 gb.1 gb.2<|el H λta haa H=>cl Q (cL 34) Q (nw.c haa)<|go 1<|wr 20 0<|gp 3 ?_
 cases cb:!ta
 ·have H:=H.cf cb
  refine go 17<|WP.cond Q nofun (λ_=>?_)
  exact WP.skip<|rg 3 0<|go 3<|bk ja (aE (xa+1)) H
 have H:=H.ct cb
 refine go 2<|gr H λgc H=>Dv.ru Q (gg Q) Q Q U9 gc.1 gc.2<|gp 3 ?_
 cases cg:((bt a0 xa) != 46)
 ·have H:=H.cf cg
  refine go 11<|WP.cond Q nofun (λ_=>?_)
  exact WP.skip<|rg 3 0<|go 3<|bk ja (aE (xa+1)) H
 have H:=H.ct cg
 refine go 2<|gr H λgi H=>Dv.ru Q (gg Q) Q Q U9 gi.1 gi.2<|gp 3 ?_
 cases ci:((bt a0 xa) != 45)
 ·have H:=H.cf ci
  refine go 5<|WP.cond Q nofun (λ_=>?_)
  exact WP.skip<|rg 3 0<|go 3<|bk ja (aE (xa+1)) H
 have H:=H.ct ci
 refine go 2<|gr H λgj H=>Dv.ru Q (gg Q) Q Q U9 gj.1 gj.2<|go 2<|cf H ?_ ?_ <;> intro H
 ·exact WP.skip<|rg 3 0<|go 3<|bk ja (aE (xa+1)) H
 refine sp ?_
 have H:=H.cH
 cases H.out;exact ek 0
theorem jC.c (h:jC.f k a0 a1=some r):Pt prog 86 [vS a0,eq (.int .u8 a1)] (vB r):=by
 refine pf func86 h λR0 F H=>?_
 refine so<|wr 3 0<|go 1<|el H λta haa H=>cl Q (cL 146) Q (fH.c haa)<|go 1<|WP.seq<|wr 8 0<|gp 3 ?_
 cases ca:decide (ta<1)
 rotate_left
 ·have H:=H.ct ca
  refine go 5<|WP.cond Q (λ_=>?_) nofun
  refine sp ?_
  cases H.out;exact ek 0
 have H:=H.cf ca
 refine go 1<|gr H λgb H=>Dv.ru Q (gg Q) Q Q U9 gb.1 gb.2<|go 3<|ce H ?_ ?_ <;> intro H
 ·refine sp ?_
  cases H.out;exact ek 0
 refine WP.skip<|wr 5 0<|go 2<|gr H λgc H=>Dv.Jj Q T Q U9 (fg Q gc.1) (fg Q gc.2.1) gc.2.2.1 gc.2.2.2<|el H λtc hac H=>cl Q (cL 147) Q (gC.c hac)<|go 1<|wr 6 0<|go 3<|gr H λgi H=>Dv.Jj Q T Q U9 (fg Q gi.1) dQ gi.2.1 gi.2.2<|el H λte had H=>cl Q (cL 7) Q (dM.c had)<|go 1<|wr 5 0<|gp 2 ?_
 cases cb:tc
 ·have H:=H.cf cb
  refine gq 3 ?_
  cases H.out;exact ek 0
 have H:=H.ct cb
 refine gq 3 ?_
 cases H.out;exact ek 0
theorem cZ.c (h:cZ.f k a0=some r):Pt prog 87 [vS a0] (vB r):=by
 refine pf func87 h λR0 F H=>?_
 refine so<|WP.seq<|wr 13 0<|go 1<|Dv.lens Q T Q U9<|gp 2 ?_
 cases ca:decide ((a0.size:Int)<2)
 rotate_left
 ·have H:=H.ct ca
  refine go 9<|WP.cond Q (λ_=>?_) nofun
  refine sp ?_
  cases H.out;exact ek 0
 have H:=H.cf ca
 refine go 1<|Dv.lens Q (gg Q) Q U9<|gp 3 ?_
 cases cb:decide (17<(a0.size:Int))
 rotate_left
 ·have H:=H.ct cb
  refine go 4<|WP.cond Q (λ_=>?_) nofun
  refine sp ?_
  cases H.out;exact ek 0
 have H:=H.cf cb
 refine go 1<|gr H λgb H=>Dv.ru Q (gg Q) Q Q U9 gb.1 gb.2<|go 2<|ce H ?_ ?_ <;> intro H
 ·refine sp ?_
  cases H.out;exact ek 0
 refine WP.skip<|sr H id [] (λ_=>[]) (λ_=>[]) (λpa H=>?_) (λH=>?_)
 ·refine sp ?_
  cases H.out;exact ek 0
 refine so<|WP.block<|ws 0 [] 0 ?_
 refine lq (λj_ (pc:Int)=>cZ.l0 k a0 j_ pc) 1 H [0] (λpc=>[(3,vI pc)]) (λ_=>[]) ?_
 rintro j_ xa H
 rcases j_ with _ | ja
 ·exact(aW.no H).elim
 try dsimp only at H
 rw [cZ.l0] at H
 refine WP.seq<|wr 4 0<|go 2<|Dv.lens Q T Q U9<|go 1<|cf H ?_ ?_ <;> intro H
 ·refine WP.exit ?_
  have H:=H.out
  exact jn (xa,decide (xa<(a0.size:Int))) H
 refine WP.skip<|WP.seq<|WP.block<|wr 5 0<|go 2<|gr H λgc H=>Dv.ru Q T Q Q U9 gc.1 gc.2<|el H λta haa H=>cl Q (cL 34) Q (nw.c haa)<|go 1<|wr 11 0<|go 2<|gr H λgi H=>Dv.ru Q T Q Q U9 gi.1 gi.2<|gp 2 ?_
 cases cg:decide (65<=(bt a0 xa))
 ·have H:=H.cf cg
  refine go 6<|wr 18 0<|gp 3 ?_
  cases ci:!ta
  ·have H:=H.cf ci
   refine go 15<|WP.cond Q nofun (λ_=>?_)
   exact WP.skip<|rg 3 0<|go 3<|bk ja (aE (xa+1)) H
  have H:=H.ct ci
  refine go 6<|gr H λgj H=>Dv.ru Q (gg Q) Q Q U9 gj.1 gj.2<|gp 3 ?_
  cases cj:((bt a0 xa) != 45)
  ·have H:=H.cf cj
   refine go 5<|WP.cond Q nofun (λ_=>?_)
   exact WP.skip<|rg 3 0<|go 3<|bk ja (aE (xa+1)) H
  have H:=H.ct cj
  refine go 2<|gr H λgk H=>Dv.ru Q (gg Q) Q Q U9 gk.1 gk.2<|go 2<|cf H ?_ ?_ <;> intro H
  ·exact WP.skip<|rg 3 0<|go 3<|bk ja (aE (xa+1)) H
  refine sp ?_
  have H:=H.cH
  cases H.out;exact ek 0
 have H:=H.ct cg
 refine go 2<|gr H λgn H=>Dv.ru Q (gg Q) Q Q U9 gn.1 gn.2<|go 3<|wr 18 0<|gp 3 ?_
 cases ck:!ta
 ·have H:=H.cf ck
  refine go 15<|WP.cond Q nofun (λ_=>?_)
  exact WP.skip<|rg 3 0<|go 3<|bk ja (aE (xa+1)) H
 have H:=H.ct ck
 refine gp 4 ?_
 cases cn:!(decide ((bt a0 xa)<=90))
 ·have H:=H.cf cn
  refine go 11<|WP.cond Q nofun (λ_=>?_)
  exact WP.skip<|rg 3 0<|go 3<|bk ja (aE (xa+1)) H
 have H:=H.ct cn
 refine go 2<|gr H λgt H=>Dv.ru Q (gg Q) Q Q U9 gt.1 gt.2<|gp 3 ?_
 cases co:((bt a0 xa) != 45)
 ·have H:=H.cf co
  refine go 5<|WP.cond Q nofun (λ_=>?_)
  exact WP.skip<|rg 3 0<|go 3<|bk ja (aE (xa+1)) H
 have H:=H.ct co
 refine go 2<|gr H λgu H=>Dv.ru Q (gg Q) Q Q U9 gu.1 gu.2<|go 2<|cf H ?_ ?_ <;> intro H
 ·exact WP.skip<|rg 3 0<|go 3<|bk ja (aE (xa+1)) H
 refine sp ?_
 have H:=H.cH
 cases H.out;exact ek 0
theorem iP.c (h:iP.f k a0=some r):Pt prog 190 [agg (Event.enc a0)] (vB r):=by
 refine pf func190 h λR0 F H=>?_
 refine wr 2 1<|Dv.box Q T Q cA nofun λba=>go 1<|wr 4 0<|gl 2 [0]<|el H λta haa H=>cl Q (cL 87) Q (cZ.c haa)<|go 1<|wr 4 0<|gl 2 [0]<|el H λtc hac H=>cl Q (cL 86) Q (jC.c hac)<|go 1<|wr 4 0<|gl 2 [0]<|el H λte had H=>cl Q (cL 86) Q (jC.c had)<|go 1<|WP.seq<|wr 26 0<|gp 3 ?_
 cases ca:!ta
 rotate_left
 ·have H:=H.ct ca
  refine go 23<|WP.cond Q (λ_=>?_) nofun
  refine sp ?_
  cases H.out;exact ek 1
 have H:=H.cf ca
 refine gp 4 ?_
 cases cb:!tc
 rotate_left
 ·have H:=H.ct cb
  refine go 19<|WP.cond Q (λ_=>?_) nofun
  refine sp ?_
  cases H.out;exact ek 1
 have H:=H.cf cb
 refine gp 4 ?_
 cases cg:!te
 rotate_left
 ·have H:=H.ct cg
  refine go 15<|WP.cond Q (λ_=>?_) nofun
  refine sp ?_
  cases H.out;exact ek 1
 have H:=H.cf cg
 refine gl 2 [0]<|Dv.jw Q (gg Q) Q iu<|gp 3 ?_
 cases ci:decide (4<(a0.ag.length:Int))
 rotate_left
 ·have H:=H.ct ci
  refine go 9<|WP.cond Q (λ_=>?_) nofun
  refine sp ?_
  cases H.out;exact ek 1
 have H:=H.cf ci
 refine jf 5 [0] ?_
 cases cj:decide (a0.cW<0)
 rotate_left
 ·have H:=H.ct cj
  refine go 4<|WP.cond Q (λ_=>?_) nofun
  refine sp ?_
  cases H.out;exact ek 1
 have H:=H.cf cj
 refine gl 4 [0]<|ce H ?_ ?_ <;> intro H
 ·refine sp ?_
  cases H.out;exact ek 1
 refine WP.skip<|sr H id [1] (λ_=>[]) (λ_=>[]) (λpa H=>?_) (λH=>?_)
 rotate_left
 ·refine wu [0]<|cf H ?_ ?_ <;> intro H
  ·refine WP.skip ?_
   have H:=H.out
   exact jn () H
  refine wr 4 0<|gl 2 [0]<|el H λtg hae H=>cl Q (cL 87) Q (cZ.c hae)<|go 1<|wr 14 0<|gp 3 ?_
  cases ck:!tg
  rotate_left
  ·have H:=H.ct ck
   refine go 11<|WP.cond Q (λ_=>?_) nofun
   refine sp ?_
   have H:=H.cH
   cases H.out;exact ek 1
  have H:=H.cf ck
  refine jf 7 [0,0] ?_
  cases cn:decide (a0.ah=a0.cC)
  rotate_left
  ·have H:=H.ct cn
   refine go 4<|WP.cond Q (λ_=>?_) nofun
   refine sp ?_
   have H:=H.cH
   cases H.out;exact ek 1
  have H:=H.cf cn
  refine gl 4 [0]<|cf H ?_ ?_ <;> intro H
  ·refine WP.skip ?_
   have H:=H.out
   exact jn () H
  refine sp ?_
  have H:=H.cH
  cases H.out;exact ek 1
 refine sr H id [] (λ_=>[]) (λ_=>[]) (λpc H=>?_) (λH=>?_)
 ·refine sp ?_
  cases H.out;exact ek 1
 refine so<|WP.block<|ws 1 [0] 0 ?_
 refine lq (λj_ (pe:Int)=>iP.l0 k a0 j_ pe) 0 H [1] (λpe=>[(7,vI pe)]) (λ_=>[]) ?_
 rintro j_ xa H
 rcases j_ with _ | ja
 ·exact(aW.no H).elim
 try dsimp only at H
 rw [iP.l0] at H
 refine WP.seq<|wr 5 0<|gl 3 [0]<|Dv.jw Q T Q iu<|go 1<|cf H ?_ ?_ <;> intro H
 ·refine WP.exit ?_
  have H:=H.out
  exact jn (xa,decide (xa<(a0.ag.length:Int))) H
 refine WP.skip<|WP.seq<|WP.block<|wr 7 0<|gl 3 [0]<|gr H λgb H=>Dv.lE Q T Q Q iu U9 c9 gb.1 gb.2<|nK Q T Q o6 Q<|el H λtj haf H=>cl Q (cL 87) Q (cZ.c haf)<|go 1<|WP.seq<|wd mX 12 0<|gp 3 ?_
 cases co:!tj
 rotate_left
 ·have H:=H.ct co
  refine go 9<|WP.cond Q (λ_=>?_) nofun
  refine sp ?_
  have H:=H.cH
  cases H.out;exact ek 1
 have H:=H.cf co
 refine gl 3 [0]<|gr H λgc H=>Dv.lE Q (gg Q) Q Q iu U9 c9 gc.1 gc.2<|nK Q (gg Q) Q o6 Q<|gl 4 [0]<|ce H ?_ ?_ <;> intro H
 ·refine sp ?_
  have H:=H.cH
  cases H.out;exact ek 1
 refine WP.skip<|wd mX 17 0<|gp 3 ?_
 cases cp:decide (0<xa)
 ·have H:=H.cf cp
  refine go 14<|WP.cond Q nofun (λ_=>?_)
  exact WP.skip<|rg 3 0<|go 3<|bk ja (aE (xa+1)) H
 have H:=H.ct cp
 refine gl 4 [0]<|Dv.Ch Q (gg Q) Q Q<|gr H λgi H=>Dv.lE Q (gg Q) Q Q iu U9 c9 gi.1 gi.2<|nK Q (gg Q) Q o6 Q<|gl 3 [0]<|gr H λgj H=>Dv.lE Q (gg Q) Q Q iu U9 c9 gj.1 gj.2<|nK Q (gg Q) Q o6 Q<|go 2<|cf H ?_ ?_ <;> intro H
 ·exact WP.skip<|rg 3 0<|go 3<|bk ja (aE (xa+1)) H
 refine sp ?_
 have H:=H.cH
 cases H.out;exact ek 1
theorem eC.c (h:eC.f k a0 a1=some r):Pt prog 119 [agg (bq.enc a0),agg (Event.enc a1)] (lg [agg (bq.enc r.1),vI r.2]):=by
 refine pf func119 h λR0 F H=>?_
 refine wr 4 7<|Dv.box Q T Q cA nofun λba=>Dv.box Q T Q cA nofun λbc=>al Q T pM nofun λbd=>go 1<|wr 3 0<|gl 1 [1]<|el H λta haa H=>cl Q (cL 190) Q (iP.c haa)<|go 1<|WP.seq<|wr 9 0<|gp 3 ?_
 cases ca:!ta
 rotate_left
 ·have H:=H.ct ca
  refine go 6<|WP.cond Q (λ_=>?_) nofun
  refine wr 3 2<|gl 1 [2]<|sy 0 ?_
  refine gq 1 ?_
  cases H.out;exact r3 i2 Q (.cons (aL Q nv Q nZ (ab 0 Q) Q) (.cons (aQ Q) .nil))
 have H:=H.cf ca
 refine gl 6 [1,2]<|ce H ?_ ?_ <;> intro H
 ·refine wr 3 2<|gl 1 [2]<|sy 0 ?_
  refine gq 1 ?_
  cases H.out;exact r3 i2 Q (.cons (aL Q nv Q nZ (ab 0 Q) Q) (.cons (aQ Q) .nil))
 refine WP.skip<|WP.seq<|wr 5 0<|gl 3 [2,1]<|el H λtc hac H=>cl Q (cL 52) Q (fh.c hac)<|go 1<|ce H ?_ ?_ <;> intro H
 ·refine wr 3 2<|gl 1 [2]<|sy 0 ?_
  refine gq 1 ?_
  cases H.out;exact r3 i2 Q (.cons (aL Q nv Q nZ (ab 0 Q) Q) (.cons (aQ Q) .nil))
 refine WP.skip<|sr H id [2,3,4] (λ_=>[]) (λ_=>[]) (λpa H=>?_) (λH=>?_)
 rotate_left
 ·refine so<|WP.block<|ws 3 [0,1,2] 0 ?_
  refine lq (λj_ (pc:Int)=>eC.l0 k a0 a1 j_ pc) 0 H [2,3,4] (λpc=>[(7,vI pc)]) (λ_=>[]) ?_
  rintro j_ xa H
  rcases j_ with _ | ja
  ·exact(aW.no H).elim
  try dsimp only at H
  rw [eC.l0] at H
  refine WP.seq<|wr 5 0<|gl 3 [1]<|Dv.jw Q T Q iu<|go 1<|cf H ?_ ?_ <;> intro H
  ·refine WP.exit ?_
   have H:=H.out
   exact jn (xa,decide (xa<(a1.ag.length:Int))) H
  refine WP.skip<|WP.seq<|WP.block<|wd mX 8 0<|gl 4 [2,1]<|gr H λgb H=>Dv.lE Q T Q Q iu U9 c9 gb.1 gb.2<|nK Q T Q o6 Q<|el H λte had H=>cl Q (cL 52) Q (fh.c had)<|go 1<|cf H ?_ ?_ <;> intro H
  ·exact WP.skip<|rg 3 0<|go 3<|bk ja (aE (xa+1)) H
  refine wr 3 2<|gl 1 [2]<|sy 0 ?_
  refine gq 1 ?_
  have H:=H.cH
  cases H.out;exact r3 i2 Q (.cons (aL Q nv Q nZ (ab 0 Q) Q) (.cons (aQ Q) .nil))
 refine sr H id [2,3,4] (λ_=>[]) (λ_=>[]) (λpe H=>?_) (λH=>?_)
 ·refine so<|wr 5 8<|gl 3 [2]<|vg (dX Event.K none) λ_ _=>?_
  refine gr H λgc H=>ap Event.K 0 a0.fL dG rN (.inr ⟨_,rN⟩) vC gc nofun λva=>?_
  refine go 1<|wd mX 9 160<|gl 4 [3,2]<|Dv.lit Event.K ([a1]:List Event) (css:=[Event.enc a1]) Q T rN nb px z107 Q dc dc Q ⟨(bx (Event.K.one _)),T⟩ Q Q Q<|gr H λgi H=>Dv.uX (Kd:=Event.K) (jj:=0) (ys:=([a1]:List Event)) (λvb:OV=>[own Event.K vb.1 ((([]:List Event)++a0.fL)++([a1]:List Event)),ar bd 126 [vS eE,jQ],ar bc 107 (Event.enc a1),ar ba 126 (bq.enc a0)]++F) Q T Q Q Q dG rN (.inr ⟨_,rN⟩) vC Q dc gi Q pD (λvb=>?_)
  refine Dv.lD (qs:=[vS a0.aj,eq vb.1]) (css:=[[vS a0.aj],[eq vb.1]]) Q T nv DB AP Q ⟨(cells_one (ai Q)),⟨(cells_one cS),T⟩⟩ Q Q<|sv 1 ?_
  refine go 1<|fz 0 [4,5] [1] ?_
  cases H.out;exact r3 i2 Q (.cons (aL Q nv Q nZ (ab 0 Q) Q) (.cons (aQ Q) .nil))
 refine wu [1]<|cf H ?_ ?_ <;> intro H
 ·refine WP.skip ?_
  have H:=H.out
  exact jn () H
 refine wr 5 0<|gl 3 [2,1]<|el H λtg hae H=>cl Q (cL 52) Q (fh.c hae)<|go 1<|WP.seq<|so<|ce H ?_ ?_ <;> intro H
 ·refine wr 3 2<|gl 1 [2]<|sy 0 ?_
  refine gq 1 ?_
  have H:=H.cH
  cases H.out;exact r3 i2 Q (.cons (aL Q nv Q nZ (ab 0 Q) Q) (.cons (aQ Q) .nil))
 refine WP.skip<|wr 16 0<|gl 3 [2]<|gr H λgj H=>Dv.lE Q T Q Q rN nb px gj.1 gj.2<|fr Q T Q xB Q<|nK Q T Q o6 Q<|gp 2 ?_
 cases cb:!decide (((Event.K.at a0.fL tg).ah)=eE)
 rotate_left
 ·have H:=H.ct cb
  refine go 8<|WP.cond Q (λ_=>?_) nofun
  refine wr 3 2<|gl 1 [2]<|sy 0 ?_
  refine gq 1 ?_
  have H:=H.cH
  cases H.out;exact r3 i2 Q (.cons (aL Q nv Q nZ (ab 0 Q) Q) (.cons (aQ Q) .nil))
 have H:=H.cf cb
 refine gl 3 [2]<|gr H λgk H=>Dv.lE Q (gg Q) Q Q rN nb px gk.1 gk.2<|fr Q (gg Q) Q BK Q<|nK Q (gg Q) Q Hu Q<|go 2<|cf H ?_ ?_ <;> intro H
 ·refine WP.skip ?_
  have H:=H.out
  exact jn () H
 refine wr 3 2<|gl 1 [2]<|sy 0 ?_
 refine gq 1 ?_
 have H:=H.cH
 cases H.out;exact r3 i2 Q (.cons (aL Q nv Q nZ (ab 0 Q) Q) (.cons (aQ Q) .nil))
end Go.Proofs.YtelcbdmigiacpaaGreat
