import Derived.Test.YtelcbdmigiacpaaGreatZWalks4
set_option linter.all false
set_option autoImplicit true
set_option maxRecDepth 10000
set_option maxHeartbeats 20000000
namespace Go.Proofs.YtelcbdmigiacpaaGreat
open Go Go.Sp Tryz
theorem aN.c (h:aN.f k a0 a1 a2=some r):Tr prog 4 [sl dV.K a0,sl dV.K a1,sl cV.K a2] [lax] (γ:=Unit) (λ_=>True) (λg=>vB r) (λg=>[lax]):=by
 refine tf func4 h λR0 F H=>?_
 refine so<|wr 4 4<|go 2<|el H λta haa H=>cx 1 [0] (cL 14) (oy.c haa) nofun λgb _=>?_
 refine go 1<|WP.seq<|wr 2 0<|go 1<|Dv.Gx (λ_=>WS.nn) Q T Q Q U38 (ab 0 Q)<|.fin<|cd H Q (λ_ H=>?_) (λca H=>?_)
 ·refine sp ?_
  cases H.out;exact et () 2 [0,1] 1
 refine wg (gT 0 Q ca) λ_ _=>?_
 refine WP.skip<|sq H id [2,7] (λ_=>[]) (λpa=>[(0,WS.O gb pa.2.2)]) (λpa H=>?_) (λH=>?_)
 rotate_left
 ·refine so<|WP.block<|ws 2 [0,1] 0 ?_
  refine lq (λj_ (pc:Int×WS)=>aN.l1 k j_ pc.1 pc.2) (0,ta.getD default) H [2,7] (λpc=>[(8,vI pc.1)]) (λpc=>[(0,WS.O gb pc.2)]) ?_
  rintro j_ ⟨xa,xb⟩ H
  rcases j_ with _ | ja
  ·exact(aW.no H).elim
  try dsimp only at H
  rw [aN.l1] at H
  refine WP.seq<|so<|cf H ?_ ?_ <;> intro H
  ·refine WP.exit ?_
   have H:=H.out
   exact jn (xa,decide (xa<18),xb) H
  refine WP.skip<|WP.seq<|WP.block<|rg 2 2<|go 1<|el H λtc hac H=>cx 2 [1,0] (cL 15) (lv.c hac (p0_:=gb)) nofun λ_ _=>?_
  refine .fin<|rg 3 0<|go 3<|ns 2 [1,0] 0 ?_
  exact bk ja (aE (xa+1),tc.2) H
 refine sr H id [] (λ_=>[]) (λpe=>[(0,WS.O gb pe.2.2)]) (λpe H=>?_) (λH=>?_)
 ·refine wr 6 0<|Dv.lD (qs:=[vI 3,vS eE,vS (⟨#[64,97,58,115,49]⟩:BA),vS eE,vS eE,vB false,vB false,vI 0,vI 0,vI 0,vI 0]) (css:=[[vI 3],[vS (⟨#[64,97,58,115,49]⟩:BA)]]) Q T fO s5 z80 Q ⟨(cells_one (ai Q)),⟨(cells_one (ai Q)),T⟩⟩ Q Q<|el H λte had H=>cl Q (cL 25) Q (oP.c had)<|gp 1 ?_
  rcases bm H with⟨cb,H⟩|⟨cb,H⟩
  ·refine sh 135 cb<|sh 136 cb<|gq 3 ?_
   cases H.out;exact et () 2 [0,1] 1
  refine sh 135 cb<|sh 136 cb<|el H λtg hae H=>mH 2 [1,0] (cL 13) (ow.c hae) ?_
  refine gq 2 ?_
  cases H.out;exact et () 2 [0,1] 1
 refine so<|WP.block<|ws 2 [0,1] 0 ?_
 refine lq (λj_ (pg:Int×WS)=>aN.l0 k a2 j_ pg.1 pg.2) (0,pa.2.2) H [2,7] (λpg=>[(9,vI pg.1)]) (λpg=>[(0,WS.O gb pg.2)]) ?_
 rintro j_ ⟨xc,xd⟩ H
 rcases j_ with _ | jc
 ·exact(aW.no H).elim
 try dsimp only at H
 rw [aN.l0] at H
 refine WP.seq<|wr 8 0<|go 2<|Dv.jw Q T Q U37<|gp 2 ?_
 rcases bm H with⟨cg,H⟩|⟨cg,H⟩
 ·refine sh 31 cg<|sh 32 cg<|go 3<|WP.cond Q nofun (λ_=>?_)
  refine WP.exit ?_
  have H:=H.out
  exact jn (xc,false,xd) H
 refine sh 31 cg<|sh 32 cg ?_
 refine go 3<|cf H ?_ ?_ <;> intro H
 ·refine WP.exit ?_
  have H:=H.out
  exact jn (xc,decide (xc<10),xd) H
 refine WP.skip<|WP.seq<|WP.block<|wr 6 48<|go 2<|gr H λgc H=>Dv.lE Q T Q Q U37 U43 c43 gc.1 gc.2<|mY Q T Q sg43 Q<|al Q T zc43 nofun λba=>sy 0 ?_
 refine .fin<|wd mX 11 1536<|gl 2 [0]<|el H λtj haf H=>cl Q (cL 16) Q (iK.c haf)<|gl 1 [0]<|el H λtm hag H=>cl Q (cL 17) Q (o9.c hag)<|gl 2 [0]<|el H λtn hah H=>cl Q (cL 18) Q (lJ.c hah)<|Dv.lD (qs:=[vS tj,vS tm,vS tn,vB false]) (css:=[[vS tj],[vS tm],[vS tn]]) Q T C9 pl47 z47 Q ⟨(cells_one (ai Q)),⟨(cells_one (ai Q)),⟨(cells_one (ai Q)),T⟩⟩⟩ Q Q<|al Q T Hj pD λbc=>sv 0 ?_
 refine .fin<|WP.seq<|wg (WS.eF 2 Q) λgi hai=>?_
 refine WP.Jh (kf:=7) mX [(0,false),(1,false),(2,false),(3,false),(5,false),(4,true),(6,false)] [(8,true)] Q kr<|go 1<|Dv.aJ hai Q T Q<|fp hai Q T Q sU<|gl 2 [0,3]<|Dv.float ?_ (λhk_=>?_)
 ·refine qn Q T nu pU (λbd=>?_)
  refine el H λtp haj H=>Dv.lS (pre:=[bY.O gi.2.1 xd.fS]) (F:=[ar bd 49 [vI 0,vS eE],ar gi.1 72 [eq gi.2.1.1,vS xd.fR.eZ,vI xd.fR.bK,vI xd.fR.aS,sl bq.K xd.fR.fV.fD,sl MK.K xd.fR.fM.fL,vI xd.fR.fM.fP.bW,sl ak.K xd.fR.fM.fP.fL,vI xd.fR.fM.fP.bS,sl ak.K xd.fR.fT.fL,sl dS xd.fR.fT.cK,sl ak.K xd.fR.fP.fL,sl (aP .i64) xd.fR.fP.cK,sl mu.K xd.fR.fL,vI xd.fR.dL,sl iX.K xd.fR.fQ,sl iY.K xd.fR.fF,eq gi.2.2.1,vI xd.fN],own Event.K gi.2.2.1 xd.fE,ar bc 47 [vS tj,vS tm,vS tn,vB false],ar ba 43 (cV.enc (cV.K.at a2 xc)),lax]++F) (λgj:OV=>[bY.O gi.2.1 xd.fS,own dW.K gj.1 tp,ar bd 49 [vI 0,vS eE],ar gi.1 72 [eq gi.2.1.1,vS xd.fR.eZ,vI xd.fR.bK,vI xd.fR.aS,sl bq.K xd.fR.fV.fD,sl MK.K xd.fR.fM.fL,vI xd.fR.fM.fP.bW,sl ak.K xd.fR.fM.fP.fL,vI xd.fR.fM.fP.bS,sl ak.K xd.fR.fT.fL,sl dS xd.fR.fT.cK,sl ak.K xd.fR.fP.fL,sl (aP .i64) xd.fR.fP.cK,sl mu.K xd.fR.fL,vI xd.fR.dL,sl iX.K xd.fR.fQ,sl iY.K xd.fR.fF,eq gi.2.2.1,vI xd.fN],own Event.K gi.2.2.1 xd.fE,ar bc 47 [vS tj,vS tm,vS tn,vB false],ar ba 43 (cV.enc (cV.K.at a2 xc)),lax]++F) Q T (cL 20) Q (dC.c haj (p0_:=gi.2.1)) (bN (L:=[ar bd 49 [vI 0,vS eE],ar gi.1 72 [eq gi.2.1.1,vS xd.fR.eZ,vI xd.fR.bK,vI xd.fR.aS,sl bq.K xd.fR.fV.fD,sl MK.K xd.fR.fM.fL,vI xd.fR.fM.fP.bW,sl ak.K xd.fR.fM.fP.fL,vI xd.fR.fM.fP.bS,sl ak.K xd.fR.fT.fL,sl dS xd.fR.fT.cK,sl ak.K xd.fR.fP.fL,sl (aP .i64) xd.fR.fP.cK,sl mu.K xd.fR.fL,vI xd.fR.dL,sl iX.K xd.fR.fQ,sl iY.K xd.fR.fF,eq gi.2.2.1,vI xd.fN],bY.O gi.2.1 xd.fS,own Event.K gi.2.2.1 xd.fE,ar bc 47 [vS tj,vS tm,vS tn,vB false],ar ba 43 (cV.enc (cV.K.at a2 xc)),lax]) (F:=F) [2,0,1,3,4,5,6] kr Q Q) Q pE (λgj _=>?_)
  refine el H λtq hak H=>mH (B:=[own dW.K gj.1 tp]) 8 [1,0,2,3,4,5,6,7] (cL 19) (Pt.qz _ (eA.c hak) (.cons (ln (ab 0 Q)) (.cons nV .nil)) (flat_agg (bH cJ (bH cJ jB)))) ?_
  refine sv 2 ?_
  refine .fin<|wd mX 15 8192<|go 1<|Dv.aJ hai Q T Q<|fp hai Q T Q sU<|gl 7 [3,5,5,6]<|el H λtu ham H=>cl Q (cL 22) Q (dw.c ham)<|gl 2 [5]<|el H λtv han H=>cx 8 [7,0,1,2,3,4,5,6] (cL 21) (fq.c han (p0_:=gi.2.1)) pC λ_ _=>?_
  refine go 1<|WP.seq<|WP.Jh (kf:=7) mX [(0,false),(1,false),(2,false),(3,false),(5,false),(4,true),(6,false)] [(8,true)] Q kr<|go 1<|Dv.aJ hai Q T Q<|fp hai Q T Q sU<|gl 2 [4,6]<|Dv.float ?_ (λhk_=>?_)
  ·refine qn Q T nu pU (λbe=>?_)
   refine el H λtw hao H=>Dv.lS (pre:=[bY.O gi.2.1 tv.2]) (F:=[ar be 49 [vI 0,vS eE],lax,own dW.K gj.1 tp,ar bd 49 (Pos.enc tq),ar gi.1 72 [eq gi.2.1.1,vS xd.fR.eZ,vI xd.fR.bK,vI xd.fR.aS,sl bq.K xd.fR.fV.fD,sl MK.K xd.fR.fM.fL,vI xd.fR.fM.fP.bW,sl ak.K xd.fR.fM.fP.fL,vI xd.fR.fM.fP.bS,sl ak.K xd.fR.fT.fL,sl dS xd.fR.fT.cK,sl ak.K xd.fR.fP.fL,sl (aP .i64) xd.fR.fP.cK,sl mu.K xd.fR.fL,vI xd.fR.dL,sl iX.K xd.fR.fQ,sl iY.K xd.fR.fF,eq gi.2.2.1,vI xd.fN],own Event.K gi.2.2.1 xd.fE,ar bc 47 [vS tj,vS tm,vS tn,vB false],ar ba 43 (cV.enc (cV.K.at a2 xc))]++F) (λgk:OV=>[bY.O gi.2.1 tv.2,own dW.K gk.1 tw,ar be 49 [vI 0,vS eE],lax,own dW.K gj.1 tp,ar bd 49 (Pos.enc tq),ar gi.1 72 [eq gi.2.1.1,vS xd.fR.eZ,vI xd.fR.bK,vI xd.fR.aS,sl bq.K xd.fR.fV.fD,sl MK.K xd.fR.fM.fL,vI xd.fR.fM.fP.bW,sl ak.K xd.fR.fM.fP.fL,vI xd.fR.fM.fP.bS,sl ak.K xd.fR.fT.fL,sl dS xd.fR.fT.cK,sl ak.K xd.fR.fP.fL,sl (aP .i64) xd.fR.fP.cK,sl mu.K xd.fR.fL,vI xd.fR.dL,sl iX.K xd.fR.fQ,sl iY.K xd.fR.fF,eq gi.2.2.1,vI xd.fN],own Event.K gi.2.2.1 xd.fE,ar bc 47 [vS tj,vS tm,vS tn,vB false],ar ba 43 (cV.enc (cV.K.at a2 xc))]++F) Q T (cL 20) Q (dC.c hao (p0_:=gi.2.1)) (bN (L:=[ar be 49 [vI 0,vS eE],lax,bY.O gi.2.1 tv.2,own dW.K gj.1 tp,ar bd 49 (Pos.enc tq),ar gi.1 72 [eq gi.2.1.1,vS xd.fR.eZ,vI xd.fR.bK,vI xd.fR.aS,sl bq.K xd.fR.fV.fD,sl MK.K xd.fR.fM.fL,vI xd.fR.fM.fP.bW,sl ak.K xd.fR.fM.fP.fL,vI xd.fR.fM.fP.bS,sl ak.K xd.fR.fT.fL,sl dS xd.fR.fT.cK,sl ak.K xd.fR.fP.fL,sl (aP .i64) xd.fR.fP.cK,sl mu.K xd.fR.fL,vI xd.fR.dL,sl iX.K xd.fR.fQ,sl iY.K xd.fR.fF,eq gi.2.2.1,vI xd.fN],own Event.K gi.2.2.1 xd.fE,ar bc 47 [vS tj,vS tm,vS tn,vB false],ar ba 43 (cV.enc (cV.K.at a2 xc))]) (F:=F) [2,0,1,3,4,5,6,7,8] kr Q Q) Q pE (λgk _=>?_)
   refine el H λtx hap H=>mH (B:=[own dW.K gk.1 tw]) 10 [1,0,2,3,4,5,6,7,8,9] (cL 19) (Pt.qz _ (eA.c hap) (.cons (ln (ab 0 Q)) (.cons nV .nil)) (flat_agg (bH cJ (bH cJ jB)))) ?_
   refine sv 2 ?_
   refine .fin<|wd mX 17 49152<|go 1<|Dv.aJ hai Q T Q<|fp hai Q T Q s8<|gl 6 [6,8,9]<|el H λtz haq H=>cl Q (cL 22) Q (dw.c haq)<|el H λtaa har H=>cl Q (cL 23) Q (eS.c har)<|go 1<|dZ Q T Q Q<|dZ Q T Q Q<|al Q T nu pD λbg=>sx 0 Q T Q Q cA vZ Q Q Q pD ?_
   refine go 1<|WP.seq<|wr 22 0<|gp 3 ?_
   rcases bm H with⟨ci,H⟩|⟨ci,H⟩
   ·refine sh 94 ci<|sh 95 ci<|go 19<|WP.cond Q nofun (λ_=>?_)
    refine WP.skip<|WP.seq<|wr 7 0<|gp 3 ?_
    rcases bm H with⟨cj,H⟩|⟨cj,H⟩
    ·refine sh 116 cj<|sh 117 cj<|go 4<|WP.cond Q nofun (λ_=>?_)
     refine WP.skip<|wr 12 0<|gp 3 ?_
     rcases bm H with⟨ck,H⟩|⟨ck,H⟩
     ·refine sh 123 ck<|sh 124 ck<|go 9<|WP.cond Q nofun (λ_=>?_)
      refine WP.skip<|rg 3 0<|go 3<|ng (WS.shut (p:=gb) (m:=(⟨tv.2,xd.fR,xd.fE,xd.fN⟩:WS)) (gi.1,gi.2.1,gi.2.2) hai (pm 11 [7,1,8,0,2,3,4,5,6,9,10])) λ_ _=>?_
      refine ns 9 [1,2,3,5,6,7,8,0,4] 7 ?_
      exact bk jc (aE (xc+1),(⟨tv.2,xd.fR,xd.fE,xd.fN⟩:WS)) H
     refine sh 123 ck<|sh 124 ck<|jf 4 [6] ?_
     rcases bm H with⟨cn,H⟩|⟨cn,H⟩
     rotate_left
     ·refine sh 127 cn<|sh 128 cn<|go 5<|WP.cond Q (λ_=>?_) nofun
      refine so<|wg (WS.shut (p:=gb) (m:=(⟨tv.2,xd.fR,xd.fE,xd.fN⟩:WS)) (gi.1,gi.2.1,gi.2.2) hai (pm 11 [7,1,8,0,2,3,4,5,6,9,10])) λ_ _=>?_
      have H:=H.cH
      cases H.out;exact et () 9 [0,1,2,3,5,6,7,8,4] 8
     refine sh 127 cn<|sh 128 cn ?_
     refine gl 2 [6,0]<|el H λtac hau H=>Dv.call Q (gg Q) (cL 24) Q (bD.c hau)<|go 2<|ce H ?_ ?_ <;> intro H
     ·refine so<|wg (WS.shut (p:=gb) (m:=(⟨tv.2,xd.fR,xd.fE,xd.fN⟩:WS)) (gi.1,gi.2.1,gi.2.2) hai (pm 11 [7,1,8,0,2,3,4,5,6,9,10])) λ_ _=>?_
      have H:=H.cH
      cases H.out;exact et () 9 [0,1,2,3,5,6,7,8,4] 8
     refine WP.skip<|rg 3 0<|go 3<|ng (WS.shut (p:=gb) (m:=(⟨tv.2,xd.fR,xd.fE,xd.fN⟩:WS)) (gi.1,gi.2.1,gi.2.2) hai (pm 11 [7,1,8,0,2,3,4,5,6,9,10])) λ_ _=>?_
     refine ns 9 [1,2,3,5,6,7,8,0,4] 7 ?_
     exact bk jc (aE (xc+1),(⟨tv.2,xd.fR,xd.fE,xd.fN⟩:WS)) H
    refine sh 116 cj<|sh 117 cj ?_
    refine gl 2 [3,6]<|Dv.zR [.int .i64 tx.br,.string tx.cC] [.int .i64 tq.br,.string tq.cC] Q (gg Q) Q Q Q Q rn (λ_=>dJ 2 dc (λ_=>nT tx tq))<|go 1<|ce H ?_ ?_ <;> intro H
    ·refine so<|wg (WS.shut (p:=gb) (m:=(⟨tv.2,xd.fR,xd.fE,xd.fN⟩:WS)) (gi.1,gi.2.1,gi.2.2) hai (pm 11 [7,1,8,0,2,3,4,5,6,9,10])) λ_ _=>?_
     have H:=H.cH
     cases H.out;exact et () 9 [0,1,2,3,5,6,7,8,4] 8
    refine WP.skip<|wr 12 0<|gp 3 ?_
    rcases bm H with⟨co,H⟩|⟨co,H⟩
    ·refine sh 123 co<|sh 124 co<|go 9<|WP.cond Q nofun (λ_=>?_)
     refine WP.skip<|rg 3 0<|go 3<|ng (WS.shut (p:=gb) (m:=(⟨tv.2,xd.fR,xd.fE,xd.fN⟩:WS)) (gi.1,gi.2.1,gi.2.2) hai (pm 11 [7,1,8,0,2,3,4,5,6,9,10])) λ_ _=>?_
     refine ns 9 [1,2,3,5,6,7,8,0,4] 7 ?_
     exact bk jc (aE (xc+1),(⟨tv.2,xd.fR,xd.fE,xd.fN⟩:WS)) H
    refine sh 123 co<|sh 124 co<|jf 4 [6] ?_
    rcases bm H with⟨cp,H⟩|⟨cp,H⟩
    rotate_left
    ·refine sh 127 cp<|sh 128 cp<|go 5<|WP.cond Q (λ_=>?_) nofun
     refine so<|wg (WS.shut (p:=gb) (m:=(⟨tv.2,xd.fR,xd.fE,xd.fN⟩:WS)) (gi.1,gi.2.1,gi.2.2) hai (pm 11 [7,1,8,0,2,3,4,5,6,9,10])) λ_ _=>?_
     have H:=H.cH
     cases H.out;exact et () 9 [0,1,2,3,5,6,7,8,4] 8
    refine sh 127 cp<|sh 128 cp ?_
    refine gl 2 [6,0]<|el H λtad hav H=>Dv.call Q (gg Q) (cL 24) Q (bD.c hav)<|go 2<|ce H ?_ ?_ <;> intro H
    ·refine so<|wg (WS.shut (p:=gb) (m:=(⟨tv.2,xd.fR,xd.fE,xd.fN⟩:WS)) (gi.1,gi.2.1,gi.2.2) hai (pm 11 [7,1,8,0,2,3,4,5,6,9,10])) λ_ _=>?_
     have H:=H.cH
     cases H.out;exact et () 9 [0,1,2,3,5,6,7,8,4] 8
    refine WP.skip<|rg 3 0<|go 3<|ng (WS.shut (p:=gb) (m:=(⟨tv.2,xd.fR,xd.fE,xd.fN⟩:WS)) (gi.1,gi.2.1,gi.2.2) hai (pm 11 [7,1,8,0,2,3,4,5,6,9,10])) λ_ _=>?_
    refine ns 9 [1,2,3,5,6,7,8,0,4] 7 ?_
    exact bk jc (aE (xc+1),(⟨tv.2,xd.fR,xd.fE,xd.fN⟩:WS)) H
   refine sh 94 ci<|sh 95 ci<|gl 2 [3,0]<|Dv.zR [.int .i64 tx.br,.string tx.cC] [.int .i64 taa.1.br,.string taa.1.cC] Q (gg Q) Q Q Q Q rn (λ_=>dJ 2 dc (λ_=>nT tx taa.1))<|gp 1 ?_
   rcases bm H with⟨cq,H⟩|⟨cq,H⟩
   rotate_left
   ·refine sh 98 cq<|sh 99 cq<|go 15<|WP.cond Q (λ_=>?_) nofun
    refine so<|wg (WS.shut (p:=gb) (m:=(⟨tv.2,xd.fR,xd.fE,xd.fN⟩:WS)) (gi.1,gi.2.1,gi.2.2) hai (pm 11 [7,1,8,0,2,3,4,5,6,9,10])) λ_ _=>?_
    have H:=H.cH
    cases H.out;exact et () 9 [0,1,2,3,5,6,7,8,4] 8
   refine sh 98 cq<|sh 99 cq<|gp 4 ?_
   rcases bm H with⟨cr,H⟩|⟨cr,H⟩
   rotate_left
   ·refine sh 101 cr<|sh 102 cr<|sh 103 cr<|go 11<|WP.cond Q (λ_=>?_) nofun
    refine so<|wg (WS.shut (p:=gb) (m:=(⟨tv.2,xd.fR,xd.fE,xd.fN⟩:WS)) (gi.1,gi.2.1,gi.2.2) hai (pm 11 [7,1,8,0,2,3,4,5,6,9,10])) λ_ _=>?_
    have H:=H.cH
    cases H.out;exact et () 9 [0,1,2,3,5,6,7,8,4] 8
   refine sh 101 cr<|sh 102 cr<|sh 103 cr<|jf 4 [6] ?_
   rcases bm H with⟨cu,H⟩|⟨cu,H⟩
   ·refine sh 106 cu<|sh 107 cu<|go 7<|WP.cond Q nofun (λ_=>?_)
    refine WP.skip<|WP.seq<|wr 7 0<|gp 3 ?_
    rcases bm H with⟨cw,H⟩|⟨cw,H⟩
    ·refine sh 116 cw<|sh 117 cw<|go 4<|WP.cond Q nofun (λ_=>?_)
     refine WP.skip<|wr 12 0<|gp 3 ?_
     rcases bm H with⟨cy,H⟩|⟨cy,H⟩
     ·refine sh 123 cy<|sh 124 cy<|go 9<|WP.cond Q nofun (λ_=>?_)
      refine WP.skip<|rg 3 0<|go 3<|ng (WS.shut (p:=gb) (m:=(⟨tv.2,xd.fR,xd.fE,xd.fN⟩:WS)) (gi.1,gi.2.1,gi.2.2) hai (pm 11 [7,1,8,0,2,3,4,5,6,9,10])) λ_ _=>?_
      refine ns 9 [1,2,3,5,6,7,8,0,4] 7 ?_
      exact bk jc (aE (xc+1),(⟨tv.2,xd.fR,xd.fE,xd.fN⟩:WS)) H
     refine sh 123 cy<|sh 124 cy<|jf 4 [6] ?_
     rcases bm H with⟨cz,H⟩|⟨cz,H⟩
     rotate_left
     ·refine sh 127 cz<|sh 128 cz<|go 5<|WP.cond Q (λ_=>?_) nofun
      refine so<|wg (WS.shut (p:=gb) (m:=(⟨tv.2,xd.fR,xd.fE,xd.fN⟩:WS)) (gi.1,gi.2.1,gi.2.2) hai (pm 11 [7,1,8,0,2,3,4,5,6,9,10])) λ_ _=>?_
      have H:=H.cH
      cases H.out;exact et () 9 [0,1,2,3,5,6,7,8,4] 8
     refine sh 127 cz<|sh 128 cz ?_
     refine gl 2 [6,0]<|el H λtae haw H=>Dv.call Q (gg Q) (cL 24) Q (bD.c haw)<|go 2<|ce H ?_ ?_ <;> intro H
     ·refine so<|wg (WS.shut (p:=gb) (m:=(⟨tv.2,xd.fR,xd.fE,xd.fN⟩:WS)) (gi.1,gi.2.1,gi.2.2) hai (pm 11 [7,1,8,0,2,3,4,5,6,9,10])) λ_ _=>?_
      have H:=H.cH
      cases H.out;exact et () 9 [0,1,2,3,5,6,7,8,4] 8
     refine WP.skip<|rg 3 0<|go 3<|ng (WS.shut (p:=gb) (m:=(⟨tv.2,xd.fR,xd.fE,xd.fN⟩:WS)) (gi.1,gi.2.1,gi.2.2) hai (pm 11 [7,1,8,0,2,3,4,5,6,9,10])) λ_ _=>?_
     refine ns 9 [1,2,3,5,6,7,8,0,4] 7 ?_
     exact bk jc (aE (xc+1),(⟨tv.2,xd.fR,xd.fE,xd.fN⟩:WS)) H
    refine sh 116 cw<|sh 117 cw ?_
    refine gl 2 [3,6]<|Dv.zR [.int .i64 tx.br,.string tx.cC] [.int .i64 tq.br,.string tq.cC] Q (gg Q) Q Q Q Q rn (λ_=>dJ 2 dc (λ_=>nT tx tq))<|go 1<|ce H ?_ ?_ <;> intro H
    ·refine so<|wg (WS.shut (p:=gb) (m:=(⟨tv.2,xd.fR,xd.fE,xd.fN⟩:WS)) (gi.1,gi.2.1,gi.2.2) hai (pm 11 [7,1,8,0,2,3,4,5,6,9,10])) λ_ _=>?_
     have H:=H.cH
     cases H.out;exact et () 9 [0,1,2,3,5,6,7,8,4] 8
    refine WP.skip<|wr 12 0<|gp 3 ?_
    rcases bm H with⟨caa,H⟩|⟨caa,H⟩
    ·refine sh 123 caa<|sh 124 caa<|go 9<|WP.cond Q nofun (λ_=>?_)
     refine WP.skip<|rg 3 0<|go 3<|ng (WS.shut (p:=gb) (m:=(⟨tv.2,xd.fR,xd.fE,xd.fN⟩:WS)) (gi.1,gi.2.1,gi.2.2) hai (pm 11 [7,1,8,0,2,3,4,5,6,9,10])) λ_ _=>?_
     refine ns 9 [1,2,3,5,6,7,8,0,4] 7 ?_
     exact bk jc (aE (xc+1),(⟨tv.2,xd.fR,xd.fE,xd.fN⟩:WS)) H
    refine sh 123 caa<|sh 124 caa<|jf 4 [6] ?_
    rcases bm H with⟨cab,H⟩|⟨cab,H⟩
    rotate_left
    ·refine sh 127 cab<|sh 128 cab<|go 5<|WP.cond Q (λ_=>?_) nofun
     refine so<|wg (WS.shut (p:=gb) (m:=(⟨tv.2,xd.fR,xd.fE,xd.fN⟩:WS)) (gi.1,gi.2.1,gi.2.2) hai (pm 11 [7,1,8,0,2,3,4,5,6,9,10])) λ_ _=>?_
     have H:=H.cH
     cases H.out;exact et () 9 [0,1,2,3,5,6,7,8,4] 8
    refine sh 127 cab<|sh 128 cab ?_
    refine gl 2 [6,0]<|el H λtaf hax H=>Dv.call Q (gg Q) (cL 24) Q (bD.c hax)<|go 2<|ce H ?_ ?_ <;> intro H
    ·refine so<|wg (WS.shut (p:=gb) (m:=(⟨tv.2,xd.fR,xd.fE,xd.fN⟩:WS)) (gi.1,gi.2.1,gi.2.2) hai (pm 11 [7,1,8,0,2,3,4,5,6,9,10])) λ_ _=>?_
     have H:=H.cH
     cases H.out;exact et () 9 [0,1,2,3,5,6,7,8,4] 8
    refine WP.skip<|rg 3 0<|go 3<|ng (WS.shut (p:=gb) (m:=(⟨tv.2,xd.fR,xd.fE,xd.fN⟩:WS)) (gi.1,gi.2.1,gi.2.2) hai (pm 11 [7,1,8,0,2,3,4,5,6,9,10])) λ_ _=>?_
    refine ns 9 [1,2,3,5,6,7,8,0,4] 7 ?_
    exact bk jc (aE (xc+1),(⟨tv.2,xd.fR,xd.fE,xd.fN⟩:WS)) H
   refine sh 106 cu<|sh 107 cu ?_
   refine gl 2 [6,0]<|el H λtag hay H=>Dv.call Q (gg Q) (cL 24) Q (bD.c hay)<|go 4<|ce H ?_ ?_ <;> intro H
   ·refine so<|wg (WS.shut (p:=gb) (m:=(⟨tv.2,xd.fR,xd.fE,xd.fN⟩:WS)) (gi.1,gi.2.1,gi.2.2) hai (pm 11 [7,1,8,0,2,3,4,5,6,9,10])) λ_ _=>?_
    have H:=H.cH
    cases H.out;exact et () 9 [0,1,2,3,5,6,7,8,4] 8
   refine WP.skip<|WP.seq<|wr 7 0<|gp 3 ?_
   rcases bm H with⟨cac,H⟩|⟨cac,H⟩
   ·refine sh 116 cac<|sh 117 cac<|go 4<|WP.cond Q nofun (λ_=>?_)
    refine WP.skip<|wr 12 0<|gp 3 ?_
    rcases bm H with⟨cad,H⟩|⟨cad,H⟩
    ·refine sh 123 cad<|sh 124 cad<|go 9<|WP.cond Q nofun (λ_=>?_)
     refine WP.skip<|rg 3 0<|go 3<|ng (WS.shut (p:=gb) (m:=(⟨tv.2,xd.fR,xd.fE,xd.fN⟩:WS)) (gi.1,gi.2.1,gi.2.2) hai (pm 11 [7,1,8,0,2,3,4,5,6,9,10])) λ_ _=>?_
     refine ns 9 [1,2,3,5,6,7,8,0,4] 7 ?_
     exact bk jc (aE (xc+1),(⟨tv.2,xd.fR,xd.fE,xd.fN⟩:WS)) H
    refine sh 123 cad<|sh 124 cad<|jf 4 [6] ?_
    rcases bm H with⟨cae,H⟩|⟨cae,H⟩
    rotate_left
    ·refine sh 127 cae<|sh 128 cae<|go 5<|WP.cond Q (λ_=>?_) nofun
     refine so<|wg (WS.shut (p:=gb) (m:=(⟨tv.2,xd.fR,xd.fE,xd.fN⟩:WS)) (gi.1,gi.2.1,gi.2.2) hai (pm 11 [7,1,8,0,2,3,4,5,6,9,10])) λ_ _=>?_
     have H:=H.cH
     cases H.out;exact et () 9 [0,1,2,3,5,6,7,8,4] 8
    refine sh 127 cae<|sh 128 cae ?_
    refine gl 2 [6,0]<|el H λtah haz H=>Dv.call Q (gg Q) (cL 24) Q (bD.c haz)<|go 2<|ce H ?_ ?_ <;> intro H
    ·refine so<|wg (WS.shut (p:=gb) (m:=(⟨tv.2,xd.fR,xd.fE,xd.fN⟩:WS)) (gi.1,gi.2.1,gi.2.2) hai (pm 11 [7,1,8,0,2,3,4,5,6,9,10])) λ_ _=>?_
     have H:=H.cH
     cases H.out;exact et () 9 [0,1,2,3,5,6,7,8,4] 8
    refine WP.skip<|rg 3 0<|go 3<|ng (WS.shut (p:=gb) (m:=(⟨tv.2,xd.fR,xd.fE,xd.fN⟩:WS)) (gi.1,gi.2.1,gi.2.2) hai (pm 11 [7,1,8,0,2,3,4,5,6,9,10])) λ_ _=>?_
    refine ns 9 [1,2,3,5,6,7,8,0,4] 7 ?_
    exact bk jc (aE (xc+1),(⟨tv.2,xd.fR,xd.fE,xd.fN⟩:WS)) H
   refine sh 116 cac<|sh 117 cac ?_
   refine gl 2 [3,6]<|Dv.zR [.int .i64 tx.br,.string tx.cC] [.int .i64 tq.br,.string tq.cC] Q (gg Q) Q Q Q Q rn (λ_=>dJ 2 dc (λ_=>nT tx tq))<|go 1<|ce H ?_ ?_ <;> intro H
   ·refine so<|wg (WS.shut (p:=gb) (m:=(⟨tv.2,xd.fR,xd.fE,xd.fN⟩:WS)) (gi.1,gi.2.1,gi.2.2) hai (pm 11 [7,1,8,0,2,3,4,5,6,9,10])) λ_ _=>?_
    have H:=H.cH
    cases H.out;exact et () 9 [0,1,2,3,5,6,7,8,4] 8
   refine WP.skip<|wr 12 0<|gp 3 ?_
   rcases bm H with⟨caf,H⟩|⟨caf,H⟩
   ·refine sh 123 caf<|sh 124 caf<|go 9<|WP.cond Q nofun (λ_=>?_)
    refine WP.skip<|rg 3 0<|go 3<|ng (WS.shut (p:=gb) (m:=(⟨tv.2,xd.fR,xd.fE,xd.fN⟩:WS)) (gi.1,gi.2.1,gi.2.2) hai (pm 11 [7,1,8,0,2,3,4,5,6,9,10])) λ_ _=>?_
    refine ns 9 [1,2,3,5,6,7,8,0,4] 7 ?_
    exact bk jc (aE (xc+1),(⟨tv.2,xd.fR,xd.fE,xd.fN⟩:WS)) H
   refine sh 123 caf<|sh 124 caf<|jf 4 [6] ?_
   rcases bm H with⟨cag,H⟩|⟨cag,H⟩
   rotate_left
   ·refine sh 127 cag<|sh 128 cag<|go 5<|WP.cond Q (λ_=>?_) nofun
    refine so<|wg (WS.shut (p:=gb) (m:=(⟨tv.2,xd.fR,xd.fE,xd.fN⟩:WS)) (gi.1,gi.2.1,gi.2.2) hai (pm 11 [7,1,8,0,2,3,4,5,6,9,10])) λ_ _=>?_
    have H:=H.cH
    cases H.out;exact et () 9 [0,1,2,3,5,6,7,8,4] 8
   refine sh 127 cag<|sh 128 cag ?_
   refine gl 2 [6,0]<|el H λtai hbe H=>Dv.call Q (gg Q) (cL 24) Q (bD.c hbe)<|go 2<|ce H ?_ ?_ <;> intro H
   ·refine so<|wg (WS.shut (p:=gb) (m:=(⟨tv.2,xd.fR,xd.fE,xd.fN⟩:WS)) (gi.1,gi.2.1,gi.2.2) hai (pm 11 [7,1,8,0,2,3,4,5,6,9,10])) λ_ _=>?_
    have H:=H.cH
    cases H.out;exact et () 9 [0,1,2,3,5,6,7,8,4] 8
   refine WP.skip<|rg 3 0<|go 3<|ng (WS.shut (p:=gb) (m:=(⟨tv.2,xd.fR,xd.fE,xd.fN⟩:WS)) (gi.1,gi.2.1,gi.2.2) hai (pm 11 [7,1,8,0,2,3,4,5,6,9,10])) λ_ _=>?_
   refine ns 9 [1,2,3,5,6,7,8,0,4] 7 ?_
   exact bk jc (aE (xc+1),(⟨tv.2,xd.fR,xd.fE,xd.fN⟩:WS)) H
  refine el H λtaj hbf H=>Dv.lS (pre:=[bY.O gi.2.1 tv.2]) (F:=[lax,own dW.K gj.1 tp,ar bd 49 (Pos.enc tq),ar gi.1 72 [eq gi.2.1.1,vS xd.fR.eZ,vI xd.fR.bK,vI xd.fR.aS,sl bq.K xd.fR.fV.fD,sl MK.K xd.fR.fM.fL,vI xd.fR.fM.fP.bW,sl ak.K xd.fR.fM.fP.fL,vI xd.fR.fM.fP.bS,sl ak.K xd.fR.fT.fL,sl dS xd.fR.fT.cK,sl ak.K xd.fR.fP.fL,sl (aP .i64) xd.fR.fP.cK,sl mu.K xd.fR.fL,vI xd.fR.dL,sl iX.K xd.fR.fQ,sl iY.K xd.fR.fF,eq gi.2.2.1,vI xd.fN],own Event.K gi.2.2.1 xd.fE,ar bc 47 [vS tj,vS tm,vS tn,vB false],ar ba 43 (cV.enc (cV.K.at a2 xc))]++F) (λgn:OV=>[bY.O gi.2.1 tv.2,own dW.K gn.1 taj,lax,own dW.K gj.1 tp,ar bd 49 (Pos.enc tq),ar gi.1 72 [eq gi.2.1.1,vS xd.fR.eZ,vI xd.fR.bK,vI xd.fR.aS,sl bq.K xd.fR.fV.fD,sl MK.K xd.fR.fM.fL,vI xd.fR.fM.fP.bW,sl ak.K xd.fR.fM.fP.fL,vI xd.fR.fM.fP.bS,sl ak.K xd.fR.fT.fL,sl dS xd.fR.fT.cK,sl ak.K xd.fR.fP.fL,sl (aP .i64) xd.fR.fP.cK,sl mu.K xd.fR.fL,vI xd.fR.dL,sl iX.K xd.fR.fQ,sl iY.K xd.fR.fF,eq gi.2.2.1,vI xd.fN],own Event.K gi.2.2.1 xd.fE,ar bc 47 [vS tj,vS tm,vS tn,vB false],ar ba 43 (cV.enc (cV.K.at a2 xc))]++F) Q T (cL 20) Q (dC.c hbf (p0_:=gi.2.1)) (bN (L:=[lax,bY.O gi.2.1 tv.2,own dW.K gj.1 tp,ar bd 49 (Pos.enc tq),ar gi.1 72 [eq gi.2.1.1,vS xd.fR.eZ,vI xd.fR.bK,vI xd.fR.aS,sl bq.K xd.fR.fV.fD,sl MK.K xd.fR.fM.fL,vI xd.fR.fM.fP.bW,sl ak.K xd.fR.fM.fP.fL,vI xd.fR.fM.fP.bS,sl ak.K xd.fR.fT.fL,sl dS xd.fR.fT.cK,sl ak.K xd.fR.fP.fL,sl (aP .i64) xd.fR.fP.cK,sl mu.K xd.fR.fL,vI xd.fR.dL,sl iX.K xd.fR.fQ,sl iY.K xd.fR.fF,eq gi.2.2.1,vI xd.fN],own Event.K gi.2.2.1 xd.fE,ar bc 47 [vS tj,vS tm,vS tn,vB false],ar ba 43 (cV.enc (cV.K.at a2 xc))]) (F:=F) [1,0,2,3,4,5,6,7] kr Q Q) Q pE (λgn _=>?_)
  refine el H λtak hbg H=>mH (B:=[own dW.K gn.1 taj]) 9 [1,0,2,3,4,5,6,7,8] (cL 19) (Pt.qz _ (eA.c hbg) (.cons (ln (ab 0 Q)) (.cons nV .nil)) (flat_agg (bH cJ (bH cJ jB)))) ?_
  refine .fin<|qn Q T nu (mA (λbh=>qV (L:=[ar bh 49 [vI 0,vS eE],bY.O gi.2.1 tv.2,own dW.K gn.1 taj,lax,own dW.K gj.1 tp,ar bd 49 (Pos.enc tq),ar gi.1 72 [eq gi.2.1.1,vS xd.fR.eZ,vI xd.fR.bK,vI xd.fR.aS,sl bq.K xd.fR.fV.fD,sl MK.K xd.fR.fM.fL,vI xd.fR.fM.fP.bW,sl ak.K xd.fR.fM.fP.fL,vI xd.fR.fM.fP.bS,sl ak.K xd.fR.fT.fL,sl dS xd.fR.fT.cK,sl ak.K xd.fR.fP.fL,sl (aP .i64) xd.fR.fP.cK,sl mu.K xd.fR.fL,vI xd.fR.dL,sl iX.K xd.fR.fQ,sl iY.K xd.fR.fF,eq gi.2.2.1,vI xd.fN],own Event.K gi.2.2.1 xd.fE,ar bc 47 [vS tj,vS tm,vS tn,vB false],ar ba 43 (cV.enc (cV.K.at a2 xc))]) (F:=F) ([ar bh 49 [vI 0,vS eE],bY.O gi.2.1 tv.2,lax,own dW.K gj.1 tp,ar bd 49 (Pos.enc tq),ar gi.1 72 [eq gi.2.1.1,vS xd.fR.eZ,vI xd.fR.bK,vI xd.fR.aS,sl bq.K xd.fR.fV.fD,sl MK.K xd.fR.fM.fL,vI xd.fR.fM.fP.bW,sl ak.K xd.fR.fM.fP.fL,vI xd.fR.fM.fP.bS,sl ak.K xd.fR.fT.fL,sl dS xd.fR.fT.cK,sl ak.K xd.fR.fP.fL,sl (aP .i64) xd.fR.fP.cK,sl mu.K xd.fR.fL,vI xd.fR.dL,sl iX.K xd.fR.fQ,sl iY.K xd.fR.fF,eq gi.2.2.1,vI xd.fN],own Event.K gi.2.2.1 xd.fE,ar bc 47 [vS tj,vS tm,vS tn,vB false],ar ba 43 (cV.enc (cV.K.at a2 xc))]++F) [2,0,1,3,4,5,6,7,8,9] kr Q Q) pU) (λbh=>?_)
  refine sv 0 ?_
  refine .fin<|wd mX 17 49152<|go 1<|Dv.aJ hai Q T Q<|fp hai Q T Q s8<|gl 6 [6,8,9]<|el H λtz haq H=>cl Q (cL 22) Q (dw.c haq)<|el H λtaa har H=>cl Q (cL 23) Q (eS.c har)<|go 1<|dZ Q T Q Q<|dZ Q T Q Q<|al Q T nu pD λbg=>sx 0 Q T Q Q cA vZ Q Q Q pD ?_
  refine go 1<|WP.seq<|wr 22 0<|gp 3 ?_
  rcases bm H with⟨ci,H⟩|⟨ci,H⟩
  ·refine sh 94 ci<|sh 95 ci<|go 19<|WP.cond Q nofun (λ_=>?_)
   refine WP.skip<|WP.seq<|wr 7 0<|gp 3 ?_
   rcases bm H with⟨cj,H⟩|⟨cj,H⟩
   ·refine sh 116 cj<|sh 117 cj<|go 4<|WP.cond Q nofun (λ_=>?_)
    refine WP.skip<|wr 12 0<|gp 3 ?_
    rcases bm H with⟨ck,H⟩|⟨ck,H⟩
    ·refine sh 123 ck<|sh 124 ck<|go 9<|WP.cond Q nofun (λ_=>?_)
     refine WP.skip<|rg 3 0<|go 3<|ng (WS.shut (p:=gb) (m:=(⟨tv.2,xd.fR,xd.fE,xd.fN⟩:WS)) (gi.1,gi.2.1,gi.2.2) hai (pm 11 [7,2,8,0,1,3,4,5,6,9,10])) λ_ _=>?_
     refine ns 9 [1,2,3,5,6,7,8,0,4] 7 ?_
     exact bk jc (aE (xc+1),(⟨tv.2,xd.fR,xd.fE,xd.fN⟩:WS)) H
    refine sh 123 ck<|sh 124 ck<|jf 4 [6] ?_
    rcases bm H with⟨cn,H⟩|⟨cn,H⟩
    rotate_left
    ·refine sh 127 cn<|sh 128 cn<|go 5<|WP.cond Q (λ_=>?_) nofun
     refine so<|wg (WS.shut (p:=gb) (m:=(⟨tv.2,xd.fR,xd.fE,xd.fN⟩:WS)) (gi.1,gi.2.1,gi.2.2) hai (pm 11 [7,2,8,0,1,3,4,5,6,9,10])) λ_ _=>?_
     have H:=H.cH
     cases H.out;exact et () 9 [0,1,2,3,5,6,7,8,4] 8
    refine sh 127 cn<|sh 128 cn ?_
    refine gl 2 [6,0]<|el H λtac hau H=>Dv.call Q (gg Q) (cL 24) Q (bD.c hau)<|go 2<|ce H ?_ ?_ <;> intro H
    ·refine so<|wg (WS.shut (p:=gb) (m:=(⟨tv.2,xd.fR,xd.fE,xd.fN⟩:WS)) (gi.1,gi.2.1,gi.2.2) hai (pm 11 [7,2,8,0,1,3,4,5,6,9,10])) λ_ _=>?_
     have H:=H.cH
     cases H.out;exact et () 9 [0,1,2,3,5,6,7,8,4] 8
    refine WP.skip<|rg 3 0<|go 3<|ng (WS.shut (p:=gb) (m:=(⟨tv.2,xd.fR,xd.fE,xd.fN⟩:WS)) (gi.1,gi.2.1,gi.2.2) hai (pm 11 [7,2,8,0,1,3,4,5,6,9,10])) λ_ _=>?_
    refine ns 9 [1,2,3,5,6,7,8,0,4] 7 ?_
    exact bk jc (aE (xc+1),(⟨tv.2,xd.fR,xd.fE,xd.fN⟩:WS)) H
   refine sh 116 cj<|sh 117 cj ?_
   refine gl 2 [1,6]<|Dv.zR [.int .i64 tak.br,.string tak.cC] [.int .i64 tq.br,.string tq.cC] Q (gg Q) Q Q Q Q rn (λ_=>dJ 2 dc (λ_=>nT tak tq))<|go 1<|ce H ?_ ?_ <;> intro H
   ·refine so<|wg (WS.shut (p:=gb) (m:=(⟨tv.2,xd.fR,xd.fE,xd.fN⟩:WS)) (gi.1,gi.2.1,gi.2.2) hai (pm 11 [7,2,8,0,1,3,4,5,6,9,10])) λ_ _=>?_
    have H:=H.cH
    cases H.out;exact et () 9 [0,1,2,3,5,6,7,8,4] 8
   refine WP.skip<|wr 12 0<|gp 3 ?_
   rcases bm H with⟨co,H⟩|⟨co,H⟩
   ·refine sh 123 co<|sh 124 co<|go 9<|WP.cond Q nofun (λ_=>?_)
    refine WP.skip<|rg 3 0<|go 3<|ng (WS.shut (p:=gb) (m:=(⟨tv.2,xd.fR,xd.fE,xd.fN⟩:WS)) (gi.1,gi.2.1,gi.2.2) hai (pm 11 [7,2,8,0,1,3,4,5,6,9,10])) λ_ _=>?_
    refine ns 9 [1,2,3,5,6,7,8,0,4] 7 ?_
    exact bk jc (aE (xc+1),(⟨tv.2,xd.fR,xd.fE,xd.fN⟩:WS)) H
   refine sh 123 co<|sh 124 co<|jf 4 [6] ?_
   rcases bm H with⟨cp,H⟩|⟨cp,H⟩
   rotate_left
   ·refine sh 127 cp<|sh 128 cp<|go 5<|WP.cond Q (λ_=>?_) nofun
    refine so<|wg (WS.shut (p:=gb) (m:=(⟨tv.2,xd.fR,xd.fE,xd.fN⟩:WS)) (gi.1,gi.2.1,gi.2.2) hai (pm 11 [7,2,8,0,1,3,4,5,6,9,10])) λ_ _=>?_
    have H:=H.cH
    cases H.out;exact et () 9 [0,1,2,3,5,6,7,8,4] 8
   refine sh 127 cp<|sh 128 cp ?_
   refine gl 2 [6,0]<|el H λtad hav H=>Dv.call Q (gg Q) (cL 24) Q (bD.c hav)<|go 2<|ce H ?_ ?_ <;> intro H
   ·refine so<|wg (WS.shut (p:=gb) (m:=(⟨tv.2,xd.fR,xd.fE,xd.fN⟩:WS)) (gi.1,gi.2.1,gi.2.2) hai (pm 11 [7,2,8,0,1,3,4,5,6,9,10])) λ_ _=>?_
    have H:=H.cH
    cases H.out;exact et () 9 [0,1,2,3,5,6,7,8,4] 8
   refine WP.skip<|rg 3 0<|go 3<|ng (WS.shut (p:=gb) (m:=(⟨tv.2,xd.fR,xd.fE,xd.fN⟩:WS)) (gi.1,gi.2.1,gi.2.2) hai (pm 11 [7,2,8,0,1,3,4,5,6,9,10])) λ_ _=>?_
   refine ns 9 [1,2,3,5,6,7,8,0,4] 7 ?_
   exact bk jc (aE (xc+1),(⟨tv.2,xd.fR,xd.fE,xd.fN⟩:WS)) H
  refine sh 94 ci<|sh 95 ci<|gl 2 [1,0]<|Dv.zR [.int .i64 tak.br,.string tak.cC] [.int .i64 taa.1.br,.string taa.1.cC] Q (gg Q) Q Q Q Q rn (λ_=>dJ 2 dc (λ_=>nT tak taa.1))<|gp 1 ?_
  rcases bm H with⟨cq,H⟩|⟨cq,H⟩
  rotate_left
  ·refine sh 98 cq<|sh 99 cq<|go 15<|WP.cond Q (λ_=>?_) nofun
   refine so<|wg (WS.shut (p:=gb) (m:=(⟨tv.2,xd.fR,xd.fE,xd.fN⟩:WS)) (gi.1,gi.2.1,gi.2.2) hai (pm 11 [7,2,8,0,1,3,4,5,6,9,10])) λ_ _=>?_
   have H:=H.cH
   cases H.out;exact et () 9 [0,1,2,3,5,6,7,8,4] 8
  refine sh 98 cq<|sh 99 cq<|gp 4 ?_
  rcases bm H with⟨cr,H⟩|⟨cr,H⟩
  rotate_left
  ·refine sh 101 cr<|sh 102 cr<|sh 103 cr<|go 11<|WP.cond Q (λ_=>?_) nofun
   refine so<|wg (WS.shut (p:=gb) (m:=(⟨tv.2,xd.fR,xd.fE,xd.fN⟩:WS)) (gi.1,gi.2.1,gi.2.2) hai (pm 11 [7,2,8,0,1,3,4,5,6,9,10])) λ_ _=>?_
   have H:=H.cH
   cases H.out;exact et () 9 [0,1,2,3,5,6,7,8,4] 8
  refine sh 101 cr<|sh 102 cr<|sh 103 cr<|jf 4 [6] ?_
  rcases bm H with⟨cu,H⟩|⟨cu,H⟩
  ·refine sh 106 cu<|sh 107 cu<|go 7<|WP.cond Q nofun (λ_=>?_)
   refine WP.skip<|WP.seq<|wr 7 0<|gp 3 ?_
   rcases bm H with⟨cw,H⟩|⟨cw,H⟩
   ·refine sh 116 cw<|sh 117 cw<|go 4<|WP.cond Q nofun (λ_=>?_)
    refine WP.skip<|wr 12 0<|gp 3 ?_
    rcases bm H with⟨cy,H⟩|⟨cy,H⟩
    ·refine sh 123 cy<|sh 124 cy<|go 9<|WP.cond Q nofun (λ_=>?_)
     refine WP.skip<|rg 3 0<|go 3<|ng (WS.shut (p:=gb) (m:=(⟨tv.2,xd.fR,xd.fE,xd.fN⟩:WS)) (gi.1,gi.2.1,gi.2.2) hai (pm 11 [7,2,8,0,1,3,4,5,6,9,10])) λ_ _=>?_
     refine ns 9 [1,2,3,5,6,7,8,0,4] 7 ?_
     exact bk jc (aE (xc+1),(⟨tv.2,xd.fR,xd.fE,xd.fN⟩:WS)) H
    refine sh 123 cy<|sh 124 cy<|jf 4 [6] ?_
    rcases bm H with⟨cz,H⟩|⟨cz,H⟩
    rotate_left
    ·refine sh 127 cz<|sh 128 cz<|go 5<|WP.cond Q (λ_=>?_) nofun
     refine so<|wg (WS.shut (p:=gb) (m:=(⟨tv.2,xd.fR,xd.fE,xd.fN⟩:WS)) (gi.1,gi.2.1,gi.2.2) hai (pm 11 [7,2,8,0,1,3,4,5,6,9,10])) λ_ _=>?_
     have H:=H.cH
     cases H.out;exact et () 9 [0,1,2,3,5,6,7,8,4] 8
    refine sh 127 cz<|sh 128 cz ?_
    refine gl 2 [6,0]<|el H λtae haw H=>Dv.call Q (gg Q) (cL 24) Q (bD.c haw)<|go 2<|ce H ?_ ?_ <;> intro H
    ·refine so<|wg (WS.shut (p:=gb) (m:=(⟨tv.2,xd.fR,xd.fE,xd.fN⟩:WS)) (gi.1,gi.2.1,gi.2.2) hai (pm 11 [7,2,8,0,1,3,4,5,6,9,10])) λ_ _=>?_
     have H:=H.cH
     cases H.out;exact et () 9 [0,1,2,3,5,6,7,8,4] 8
    refine WP.skip<|rg 3 0<|go 3<|ng (WS.shut (p:=gb) (m:=(⟨tv.2,xd.fR,xd.fE,xd.fN⟩:WS)) (gi.1,gi.2.1,gi.2.2) hai (pm 11 [7,2,8,0,1,3,4,5,6,9,10])) λ_ _=>?_
    refine ns 9 [1,2,3,5,6,7,8,0,4] 7 ?_
    exact bk jc (aE (xc+1),(⟨tv.2,xd.fR,xd.fE,xd.fN⟩:WS)) H
   refine sh 116 cw<|sh 117 cw ?_
   refine gl 2 [1,6]<|Dv.zR [.int .i64 tak.br,.string tak.cC] [.int .i64 tq.br,.string tq.cC] Q (gg Q) Q Q Q Q rn (λ_=>dJ 2 dc (λ_=>nT tak tq))<|go 1<|ce H ?_ ?_ <;> intro H
   ·refine so<|wg (WS.shut (p:=gb) (m:=(⟨tv.2,xd.fR,xd.fE,xd.fN⟩:WS)) (gi.1,gi.2.1,gi.2.2) hai (pm 11 [7,2,8,0,1,3,4,5,6,9,10])) λ_ _=>?_
    have H:=H.cH
    cases H.out;exact et () 9 [0,1,2,3,5,6,7,8,4] 8
   refine WP.skip<|wr 12 0<|gp 3 ?_
   rcases bm H with⟨caa,H⟩|⟨caa,H⟩
   ·refine sh 123 caa<|sh 124 caa<|go 9<|WP.cond Q nofun (λ_=>?_)
    refine WP.skip<|rg 3 0<|go 3<|ng (WS.shut (p:=gb) (m:=(⟨tv.2,xd.fR,xd.fE,xd.fN⟩:WS)) (gi.1,gi.2.1,gi.2.2) hai (pm 11 [7,2,8,0,1,3,4,5,6,9,10])) λ_ _=>?_
    refine ns 9 [1,2,3,5,6,7,8,0,4] 7 ?_
    exact bk jc (aE (xc+1),(⟨tv.2,xd.fR,xd.fE,xd.fN⟩:WS)) H
   refine sh 123 caa<|sh 124 caa<|jf 4 [6] ?_
   rcases bm H with⟨cab,H⟩|⟨cab,H⟩
   rotate_left
   ·refine sh 127 cab<|sh 128 cab<|go 5<|WP.cond Q (λ_=>?_) nofun
    refine so<|wg (WS.shut (p:=gb) (m:=(⟨tv.2,xd.fR,xd.fE,xd.fN⟩:WS)) (gi.1,gi.2.1,gi.2.2) hai (pm 11 [7,2,8,0,1,3,4,5,6,9,10])) λ_ _=>?_
    have H:=H.cH
    cases H.out;exact et () 9 [0,1,2,3,5,6,7,8,4] 8
   refine sh 127 cab<|sh 128 cab ?_
   refine gl 2 [6,0]<|el H λtaf hax H=>Dv.call Q (gg Q) (cL 24) Q (bD.c hax)<|go 2<|ce H ?_ ?_ <;> intro H
   ·refine so<|wg (WS.shut (p:=gb) (m:=(⟨tv.2,xd.fR,xd.fE,xd.fN⟩:WS)) (gi.1,gi.2.1,gi.2.2) hai (pm 11 [7,2,8,0,1,3,4,5,6,9,10])) λ_ _=>?_
    have H:=H.cH
    cases H.out;exact et () 9 [0,1,2,3,5,6,7,8,4] 8
   refine WP.skip<|rg 3 0<|go 3<|ng (WS.shut (p:=gb) (m:=(⟨tv.2,xd.fR,xd.fE,xd.fN⟩:WS)) (gi.1,gi.2.1,gi.2.2) hai (pm 11 [7,2,8,0,1,3,4,5,6,9,10])) λ_ _=>?_
   refine ns 9 [1,2,3,5,6,7,8,0,4] 7 ?_
   exact bk jc (aE (xc+1),(⟨tv.2,xd.fR,xd.fE,xd.fN⟩:WS)) H
  refine sh 106 cu<|sh 107 cu ?_
  refine gl 2 [6,0]<|el H λtag hay H=>Dv.call Q (gg Q) (cL 24) Q (bD.c hay)<|go 4<|ce H ?_ ?_ <;> intro H
  ·refine so<|wg (WS.shut (p:=gb) (m:=(⟨tv.2,xd.fR,xd.fE,xd.fN⟩:WS)) (gi.1,gi.2.1,gi.2.2) hai (pm 11 [7,2,8,0,1,3,4,5,6,9,10])) λ_ _=>?_
   have H:=H.cH
   cases H.out;exact et () 9 [0,1,2,3,5,6,7,8,4] 8
  refine WP.skip<|WP.seq<|wr 7 0<|gp 3 ?_
  rcases bm H with⟨cac,H⟩|⟨cac,H⟩
  ·refine sh 116 cac<|sh 117 cac<|go 4<|WP.cond Q nofun (λ_=>?_)
   refine WP.skip<|wr 12 0<|gp 3 ?_
   rcases bm H with⟨cad,H⟩|⟨cad,H⟩
   ·refine sh 123 cad<|sh 124 cad<|go 9<|WP.cond Q nofun (λ_=>?_)
    refine WP.skip<|rg 3 0<|go 3<|ng (WS.shut (p:=gb) (m:=(⟨tv.2,xd.fR,xd.fE,xd.fN⟩:WS)) (gi.1,gi.2.1,gi.2.2) hai (pm 11 [7,2,8,0,1,3,4,5,6,9,10])) λ_ _=>?_
    refine ns 9 [1,2,3,5,6,7,8,0,4] 7 ?_
    exact bk jc (aE (xc+1),(⟨tv.2,xd.fR,xd.fE,xd.fN⟩:WS)) H
   refine sh 123 cad<|sh 124 cad<|jf 4 [6] ?_
   rcases bm H with⟨cae,H⟩|⟨cae,H⟩
   rotate_left
   ·refine sh 127 cae<|sh 128 cae<|go 5<|WP.cond Q (λ_=>?_) nofun
    refine so<|wg (WS.shut (p:=gb) (m:=(⟨tv.2,xd.fR,xd.fE,xd.fN⟩:WS)) (gi.1,gi.2.1,gi.2.2) hai (pm 11 [7,2,8,0,1,3,4,5,6,9,10])) λ_ _=>?_
    have H:=H.cH
    cases H.out;exact et () 9 [0,1,2,3,5,6,7,8,4] 8
   refine sh 127 cae<|sh 128 cae ?_
   refine gl 2 [6,0]<|el H λtah haz H=>Dv.call Q (gg Q) (cL 24) Q (bD.c haz)<|go 2<|ce H ?_ ?_ <;> intro H
   ·refine so<|wg (WS.shut (p:=gb) (m:=(⟨tv.2,xd.fR,xd.fE,xd.fN⟩:WS)) (gi.1,gi.2.1,gi.2.2) hai (pm 11 [7,2,8,0,1,3,4,5,6,9,10])) λ_ _=>?_
    have H:=H.cH
    cases H.out;exact et () 9 [0,1,2,3,5,6,7,8,4] 8
   refine WP.skip<|rg 3 0<|go 3<|ng (WS.shut (p:=gb) (m:=(⟨tv.2,xd.fR,xd.fE,xd.fN⟩:WS)) (gi.1,gi.2.1,gi.2.2) hai (pm 11 [7,2,8,0,1,3,4,5,6,9,10])) λ_ _=>?_
   refine ns 9 [1,2,3,5,6,7,8,0,4] 7 ?_
   exact bk jc (aE (xc+1),(⟨tv.2,xd.fR,xd.fE,xd.fN⟩:WS)) H
  refine sh 116 cac<|sh 117 cac ?_
  refine gl 2 [1,6]<|Dv.zR [.int .i64 tak.br,.string tak.cC] [.int .i64 tq.br,.string tq.cC] Q (gg Q) Q Q Q Q rn (λ_=>dJ 2 dc (λ_=>nT tak tq))<|go 1<|ce H ?_ ?_ <;> intro H
  ·refine so<|wg (WS.shut (p:=gb) (m:=(⟨tv.2,xd.fR,xd.fE,xd.fN⟩:WS)) (gi.1,gi.2.1,gi.2.2) hai (pm 11 [7,2,8,0,1,3,4,5,6,9,10])) λ_ _=>?_
   have H:=H.cH
   cases H.out;exact et () 9 [0,1,2,3,5,6,7,8,4] 8
  refine WP.skip<|wr 12 0<|gp 3 ?_
  rcases bm H with⟨caf,H⟩|⟨caf,H⟩
  ·refine sh 123 caf<|sh 124 caf<|go 9<|WP.cond Q nofun (λ_=>?_)
   refine WP.skip<|rg 3 0<|go 3<|ng (WS.shut (p:=gb) (m:=(⟨tv.2,xd.fR,xd.fE,xd.fN⟩:WS)) (gi.1,gi.2.1,gi.2.2) hai (pm 11 [7,2,8,0,1,3,4,5,6,9,10])) λ_ _=>?_
   refine ns 9 [1,2,3,5,6,7,8,0,4] 7 ?_
   exact bk jc (aE (xc+1),(⟨tv.2,xd.fR,xd.fE,xd.fN⟩:WS)) H
  refine sh 123 caf<|sh 124 caf<|jf 4 [6] ?_
  rcases bm H with⟨cag,H⟩|⟨cag,H⟩
  rotate_left
  ·refine sh 127 cag<|sh 128 cag<|go 5<|WP.cond Q (λ_=>?_) nofun
   refine so<|wg (WS.shut (p:=gb) (m:=(⟨tv.2,xd.fR,xd.fE,xd.fN⟩:WS)) (gi.1,gi.2.1,gi.2.2) hai (pm 11 [7,2,8,0,1,3,4,5,6,9,10])) λ_ _=>?_
   have H:=H.cH
   cases H.out;exact et () 9 [0,1,2,3,5,6,7,8,4] 8
  refine sh 127 cag<|sh 128 cag ?_
  refine gl 2 [6,0]<|el H λtai hbe H=>Dv.call Q (gg Q) (cL 24) Q (bD.c hbe)<|go 2<|ce H ?_ ?_ <;> intro H
  ·refine so<|wg (WS.shut (p:=gb) (m:=(⟨tv.2,xd.fR,xd.fE,xd.fN⟩:WS)) (gi.1,gi.2.1,gi.2.2) hai (pm 11 [7,2,8,0,1,3,4,5,6,9,10])) λ_ _=>?_
   have H:=H.cH
   cases H.out;exact et () 9 [0,1,2,3,5,6,7,8,4] 8
  refine WP.skip<|rg 3 0<|go 3<|ng (WS.shut (p:=gb) (m:=(⟨tv.2,xd.fR,xd.fE,xd.fN⟩:WS)) (gi.1,gi.2.1,gi.2.2) hai (pm 11 [7,2,8,0,1,3,4,5,6,9,10])) λ_ _=>?_
  refine ns 9 [1,2,3,5,6,7,8,0,4] 7 ?_
  exact bk jc (aE (xc+1),(⟨tv.2,xd.fR,xd.fE,xd.fN⟩:WS)) H
 refine el H λtal hbh H=>Dv.lS (pre:=[bY.O gi.2.1 xd.fS]) (F:=[ar gi.1 72 [eq gi.2.1.1,vS xd.fR.eZ,vI xd.fR.bK,vI xd.fR.aS,sl bq.K xd.fR.fV.fD,sl MK.K xd.fR.fM.fL,vI xd.fR.fM.fP.bW,sl ak.K xd.fR.fM.fP.fL,vI xd.fR.fM.fP.bS,sl ak.K xd.fR.fT.fL,sl dS xd.fR.fT.cK,sl ak.K xd.fR.fP.fL,sl (aP .i64) xd.fR.fP.cK,sl mu.K xd.fR.fL,vI xd.fR.dL,sl iX.K xd.fR.fQ,sl iY.K xd.fR.fF,eq gi.2.2.1,vI xd.fN],own Event.K gi.2.2.1 xd.fE,ar bc 47 [vS tj,vS tm,vS tn,vB false],ar ba 43 (cV.enc (cV.K.at a2 xc)),lax]++F) (λgt:OV=>[bY.O gi.2.1 xd.fS,own dW.K gt.1 tal,ar gi.1 72 [eq gi.2.1.1,vS xd.fR.eZ,vI xd.fR.bK,vI xd.fR.aS,sl bq.K xd.fR.fV.fD,sl MK.K xd.fR.fM.fL,vI xd.fR.fM.fP.bW,sl ak.K xd.fR.fM.fP.fL,vI xd.fR.fM.fP.bS,sl ak.K xd.fR.fT.fL,sl dS xd.fR.fT.cK,sl ak.K xd.fR.fP.fL,sl (aP .i64) xd.fR.fP.cK,sl mu.K xd.fR.fL,vI xd.fR.dL,sl iX.K xd.fR.fQ,sl iY.K xd.fR.fF,eq gi.2.2.1,vI xd.fN],own Event.K gi.2.2.1 xd.fE,ar bc 47 [vS tj,vS tm,vS tn,vB false],ar ba 43 (cV.enc (cV.K.at a2 xc)),lax]++F) Q T (cL 20) Q (dC.c hbh (p0_:=gi.2.1)) (bN (L:=[ar gi.1 72 [eq gi.2.1.1,vS xd.fR.eZ,vI xd.fR.bK,vI xd.fR.aS,sl bq.K xd.fR.fV.fD,sl MK.K xd.fR.fM.fL,vI xd.fR.fM.fP.bW,sl ak.K xd.fR.fM.fP.fL,vI xd.fR.fM.fP.bS,sl ak.K xd.fR.fT.fL,sl dS xd.fR.fT.cK,sl ak.K xd.fR.fP.fL,sl (aP .i64) xd.fR.fP.cK,sl mu.K xd.fR.fL,vI xd.fR.dL,sl iX.K xd.fR.fQ,sl iY.K xd.fR.fF,eq gi.2.2.1,vI xd.fN],bY.O gi.2.1 xd.fS,own Event.K gi.2.2.1 xd.fE,ar bc 47 [vS tj,vS tm,vS tn,vB false],ar ba 43 (cV.enc (cV.K.at a2 xc)),lax]) (F:=F) [1,0,2,3,4,5] kr Q Q) Q pE (λgt _=>?_)
 refine el H λtam hbi H=>mH (B:=[own dW.K gt.1 tal]) 7 [1,0,2,3,4,5,6] (cL 19) (Pt.qz _ (eA.c hbi) (.cons (ln (ab 0 Q)) (.cons nV .nil)) (flat_agg (bH cJ (bH cJ jB)))) ?_
 refine .fin<|qn Q T nu (mA (λbi=>qV (L:=[ar bi 49 [vI 0,vS eE],bY.O gi.2.1 xd.fS,own dW.K gt.1 tal,ar gi.1 72 [eq gi.2.1.1,vS xd.fR.eZ,vI xd.fR.bK,vI xd.fR.aS,sl bq.K xd.fR.fV.fD,sl MK.K xd.fR.fM.fL,vI xd.fR.fM.fP.bW,sl ak.K xd.fR.fM.fP.fL,vI xd.fR.fM.fP.bS,sl ak.K xd.fR.fT.fL,sl dS xd.fR.fT.cK,sl ak.K xd.fR.fP.fL,sl (aP .i64) xd.fR.fP.cK,sl mu.K xd.fR.fL,vI xd.fR.dL,sl iX.K xd.fR.fQ,sl iY.K xd.fR.fF,eq gi.2.2.1,vI xd.fN],own Event.K gi.2.2.1 xd.fE,ar bc 47 [vS tj,vS tm,vS tn,vB false],ar ba 43 (cV.enc (cV.K.at a2 xc)),lax]) (F:=F) ([ar bi 49 [vI 0,vS eE],bY.O gi.2.1 xd.fS,ar gi.1 72 [eq gi.2.1.1,vS xd.fR.eZ,vI xd.fR.bK,vI xd.fR.aS,sl bq.K xd.fR.fV.fD,sl MK.K xd.fR.fM.fL,vI xd.fR.fM.fP.bW,sl ak.K xd.fR.fM.fP.fL,vI xd.fR.fM.fP.bS,sl ak.K xd.fR.fT.fL,sl dS xd.fR.fT.cK,sl ak.K xd.fR.fP.fL,sl (aP .i64) xd.fR.fP.cK,sl mu.K xd.fR.fL,vI xd.fR.dL,sl iX.K xd.fR.fQ,sl iY.K xd.fR.fF,eq gi.2.2.1,vI xd.fN],own Event.K gi.2.2.1 xd.fE,ar bc 47 [vS tj,vS tm,vS tn,vB false],ar ba 43 (cV.enc (cV.K.at a2 xc)),lax]++F) [2,0,1,3,4,5,6,7] kr Q Q) pU) (λbi=>?_)
 refine sv 0 ?_
 refine .fin<|wd mX 15 8192<|go 1<|Dv.aJ hai Q T Q<|fp hai Q T Q sU<|gl 7 [3,5,5,6]<|el H λtu ham H=>cl Q (cL 22) Q (dw.c ham)<|gl 2 [5]<|el H λtv han H=>cx 8 [7,1,0,2,3,4,5,6] (cL 21) (fq.c han (p0_:=gi.2.1)) pC λ_ _=>?_
 refine go 1<|WP.seq<|WP.Jh (kf:=7) mX [(0,false),(1,false),(2,false),(3,false),(5,false),(4,true),(6,false)] [(8,true)] Q kr<|go 1<|Dv.aJ hai Q T Q<|fp hai Q T Q sU<|gl 2 [4,6]<|Dv.float ?_ (λhk_=>?_)
 ·refine qn Q T nu pU (λbe=>?_)
  refine el H λtw hao H=>Dv.lS (pre:=[bY.O gi.2.1 tv.2]) (F:=[ar be 49 [vI 0,vS eE],lax,ar bi 49 (Pos.enc tam),own dW.K gt.1 tal,ar gi.1 72 [eq gi.2.1.1,vS xd.fR.eZ,vI xd.fR.bK,vI xd.fR.aS,sl bq.K xd.fR.fV.fD,sl MK.K xd.fR.fM.fL,vI xd.fR.fM.fP.bW,sl ak.K xd.fR.fM.fP.fL,vI xd.fR.fM.fP.bS,sl ak.K xd.fR.fT.fL,sl dS xd.fR.fT.cK,sl ak.K xd.fR.fP.fL,sl (aP .i64) xd.fR.fP.cK,sl mu.K xd.fR.fL,vI xd.fR.dL,sl iX.K xd.fR.fQ,sl iY.K xd.fR.fF,eq gi.2.2.1,vI xd.fN],own Event.K gi.2.2.1 xd.fE,ar bc 47 [vS tj,vS tm,vS tn,vB false],ar ba 43 (cV.enc (cV.K.at a2 xc))]++F) (λgk:OV=>[bY.O gi.2.1 tv.2,own dW.K gk.1 tw,ar be 49 [vI 0,vS eE],lax,ar bi 49 (Pos.enc tam),own dW.K gt.1 tal,ar gi.1 72 [eq gi.2.1.1,vS xd.fR.eZ,vI xd.fR.bK,vI xd.fR.aS,sl bq.K xd.fR.fV.fD,sl MK.K xd.fR.fM.fL,vI xd.fR.fM.fP.bW,sl ak.K xd.fR.fM.fP.fL,vI xd.fR.fM.fP.bS,sl ak.K xd.fR.fT.fL,sl dS xd.fR.fT.cK,sl ak.K xd.fR.fP.fL,sl (aP .i64) xd.fR.fP.cK,sl mu.K xd.fR.fL,vI xd.fR.dL,sl iX.K xd.fR.fQ,sl iY.K xd.fR.fF,eq gi.2.2.1,vI xd.fN],own Event.K gi.2.2.1 xd.fE,ar bc 47 [vS tj,vS tm,vS tn,vB false],ar ba 43 (cV.enc (cV.K.at a2 xc))]++F) Q T (cL 20) Q (dC.c hao (p0_:=gi.2.1)) (bN (L:=[ar be 49 [vI 0,vS eE],lax,bY.O gi.2.1 tv.2,ar bi 49 (Pos.enc tam),own dW.K gt.1 tal,ar gi.1 72 [eq gi.2.1.1,vS xd.fR.eZ,vI xd.fR.bK,vI xd.fR.aS,sl bq.K xd.fR.fV.fD,sl MK.K xd.fR.fM.fL,vI xd.fR.fM.fP.bW,sl ak.K xd.fR.fM.fP.fL,vI xd.fR.fM.fP.bS,sl ak.K xd.fR.fT.fL,sl dS xd.fR.fT.cK,sl ak.K xd.fR.fP.fL,sl (aP .i64) xd.fR.fP.cK,sl mu.K xd.fR.fL,vI xd.fR.dL,sl iX.K xd.fR.fQ,sl iY.K xd.fR.fF,eq gi.2.2.1,vI xd.fN],own Event.K gi.2.2.1 xd.fE,ar bc 47 [vS tj,vS tm,vS tn,vB false],ar ba 43 (cV.enc (cV.K.at a2 xc))]) (F:=F) [2,0,1,3,4,5,6,7,8] kr Q Q) Q pE (λgk _=>?_)
  refine el H λtx hap H=>mH (B:=[own dW.K gk.1 tw]) 10 [1,0,2,3,4,5,6,7,8,9] (cL 19) (Pt.qz _ (eA.c hap) (.cons (ln (ab 0 Q)) (.cons nV .nil)) (flat_agg (bH cJ (bH cJ jB)))) ?_
  refine sv 2 ?_
  refine .fin<|wd mX 17 49152<|go 1<|Dv.aJ hai Q T Q<|fp hai Q T Q s8<|gl 6 [6,8,9]<|el H λtz haq H=>cl Q (cL 22) Q (dw.c haq)<|el H λtaa har H=>cl Q (cL 23) Q (eS.c har)<|go 1<|dZ Q T Q Q<|dZ Q T Q Q<|al Q T nu pD λbg=>sx 0 Q T Q Q cA vZ Q Q Q pD ?_
  refine go 1<|WP.seq<|wr 22 0<|gp 3 ?_
  rcases bm H with⟨ci,H⟩|⟨ci,H⟩
  ·refine sh 94 ci<|sh 95 ci<|go 19<|WP.cond Q nofun (λ_=>?_)
   refine WP.skip<|WP.seq<|wr 7 0<|gp 3 ?_
   rcases bm H with⟨cj,H⟩|⟨cj,H⟩
   ·refine sh 116 cj<|sh 117 cj<|go 4<|WP.cond Q nofun (λ_=>?_)
    refine WP.skip<|wr 12 0<|gp 3 ?_
    rcases bm H with⟨ck,H⟩|⟨ck,H⟩
    ·refine sh 123 ck<|sh 124 ck<|go 9<|WP.cond Q nofun (λ_=>?_)
     refine WP.skip<|rg 3 0<|go 3<|ng (WS.shut (p:=gb) (m:=(⟨tv.2,xd.fR,xd.fE,xd.fN⟩:WS)) (gi.1,gi.2.1,gi.2.2) hai (pm 11 [7,1,8,0,2,3,4,5,6,9,10])) λ_ _=>?_
     refine ns 9 [1,2,3,5,6,7,8,0,4] 7 ?_
     exact bk jc (aE (xc+1),(⟨tv.2,xd.fR,xd.fE,xd.fN⟩:WS)) H
    refine sh 123 ck<|sh 124 ck<|jf 4 [5] ?_
    rcases bm H with⟨cn,H⟩|⟨cn,H⟩
    rotate_left
    ·refine sh 127 cn<|sh 128 cn<|go 5<|WP.cond Q (λ_=>?_) nofun
     refine so<|wg (WS.shut (p:=gb) (m:=(⟨tv.2,xd.fR,xd.fE,xd.fN⟩:WS)) (gi.1,gi.2.1,gi.2.2) hai (pm 11 [7,1,8,0,2,3,4,5,6,9,10])) λ_ _=>?_
     have H:=H.cH
     cases H.out;exact et () 9 [0,1,2,3,5,6,7,8,4] 8
    refine sh 127 cn<|sh 128 cn ?_
    refine gl 2 [5,0]<|el H λtac hau H=>Dv.call Q (gg Q) (cL 24) Q (bD.c hau)<|go 2<|ce H ?_ ?_ <;> intro H
    ·refine so<|wg (WS.shut (p:=gb) (m:=(⟨tv.2,xd.fR,xd.fE,xd.fN⟩:WS)) (gi.1,gi.2.1,gi.2.2) hai (pm 11 [7,1,8,0,2,3,4,5,6,9,10])) λ_ _=>?_
     have H:=H.cH
     cases H.out;exact et () 9 [0,1,2,3,5,6,7,8,4] 8
    refine WP.skip<|rg 3 0<|go 3<|ng (WS.shut (p:=gb) (m:=(⟨tv.2,xd.fR,xd.fE,xd.fN⟩:WS)) (gi.1,gi.2.1,gi.2.2) hai (pm 11 [7,1,8,0,2,3,4,5,6,9,10])) λ_ _=>?_
    refine ns 9 [1,2,3,5,6,7,8,0,4] 7 ?_
    exact bk jc (aE (xc+1),(⟨tv.2,xd.fR,xd.fE,xd.fN⟩:WS)) H
   refine sh 116 cj<|sh 117 cj ?_
   refine gl 2 [3,5]<|Dv.zR [.int .i64 tx.br,.string tx.cC] [.int .i64 tam.br,.string tam.cC] Q (gg Q) Q Q Q Q rn (λ_=>dJ 2 dc (λ_=>nT tx tam))<|go 1<|ce H ?_ ?_ <;> intro H
   ·refine so<|wg (WS.shut (p:=gb) (m:=(⟨tv.2,xd.fR,xd.fE,xd.fN⟩:WS)) (gi.1,gi.2.1,gi.2.2) hai (pm 11 [7,1,8,0,2,3,4,5,6,9,10])) λ_ _=>?_
    have H:=H.cH
    cases H.out;exact et () 9 [0,1,2,3,5,6,7,8,4] 8
   refine WP.skip<|wr 12 0<|gp 3 ?_
   rcases bm H with⟨co,H⟩|⟨co,H⟩
   ·refine sh 123 co<|sh 124 co<|go 9<|WP.cond Q nofun (λ_=>?_)
    refine WP.skip<|rg 3 0<|go 3<|ng (WS.shut (p:=gb) (m:=(⟨tv.2,xd.fR,xd.fE,xd.fN⟩:WS)) (gi.1,gi.2.1,gi.2.2) hai (pm 11 [7,1,8,0,2,3,4,5,6,9,10])) λ_ _=>?_
    refine ns 9 [1,2,3,5,6,7,8,0,4] 7 ?_
    exact bk jc (aE (xc+1),(⟨tv.2,xd.fR,xd.fE,xd.fN⟩:WS)) H
   refine sh 123 co<|sh 124 co<|jf 4 [5] ?_
   rcases bm H with⟨cp,H⟩|⟨cp,H⟩
   rotate_left
   ·refine sh 127 cp<|sh 128 cp<|go 5<|WP.cond Q (λ_=>?_) nofun
    refine so<|wg (WS.shut (p:=gb) (m:=(⟨tv.2,xd.fR,xd.fE,xd.fN⟩:WS)) (gi.1,gi.2.1,gi.2.2) hai (pm 11 [7,1,8,0,2,3,4,5,6,9,10])) λ_ _=>?_
    have H:=H.cH
    cases H.out;exact et () 9 [0,1,2,3,5,6,7,8,4] 8
   refine sh 127 cp<|sh 128 cp ?_
   refine gl 2 [5,0]<|el H λtad hav H=>Dv.call Q (gg Q) (cL 24) Q (bD.c hav)<|go 2<|ce H ?_ ?_ <;> intro H
   ·refine so<|wg (WS.shut (p:=gb) (m:=(⟨tv.2,xd.fR,xd.fE,xd.fN⟩:WS)) (gi.1,gi.2.1,gi.2.2) hai (pm 11 [7,1,8,0,2,3,4,5,6,9,10])) λ_ _=>?_
    have H:=H.cH
    cases H.out;exact et () 9 [0,1,2,3,5,6,7,8,4] 8
   refine WP.skip<|rg 3 0<|go 3<|ng (WS.shut (p:=gb) (m:=(⟨tv.2,xd.fR,xd.fE,xd.fN⟩:WS)) (gi.1,gi.2.1,gi.2.2) hai (pm 11 [7,1,8,0,2,3,4,5,6,9,10])) λ_ _=>?_
   refine ns 9 [1,2,3,5,6,7,8,0,4] 7 ?_
   exact bk jc (aE (xc+1),(⟨tv.2,xd.fR,xd.fE,xd.fN⟩:WS)) H
  refine sh 94 ci<|sh 95 ci<|gl 2 [3,0]<|Dv.zR [.int .i64 tx.br,.string tx.cC] [.int .i64 taa.1.br,.string taa.1.cC] Q (gg Q) Q Q Q Q rn (λ_=>dJ 2 dc (λ_=>nT tx taa.1))<|gp 1 ?_
  rcases bm H with⟨cq,H⟩|⟨cq,H⟩
  rotate_left
  ·refine sh 98 cq<|sh 99 cq<|go 15<|WP.cond Q (λ_=>?_) nofun
   refine so<|wg (WS.shut (p:=gb) (m:=(⟨tv.2,xd.fR,xd.fE,xd.fN⟩:WS)) (gi.1,gi.2.1,gi.2.2) hai (pm 11 [7,1,8,0,2,3,4,5,6,9,10])) λ_ _=>?_
   have H:=H.cH
   cases H.out;exact et () 9 [0,1,2,3,5,6,7,8,4] 8
  refine sh 98 cq<|sh 99 cq<|gp 4 ?_
  rcases bm H with⟨cr,H⟩|⟨cr,H⟩
  rotate_left
  ·refine sh 101 cr<|sh 102 cr<|sh 103 cr<|go 11<|WP.cond Q (λ_=>?_) nofun
   refine so<|wg (WS.shut (p:=gb) (m:=(⟨tv.2,xd.fR,xd.fE,xd.fN⟩:WS)) (gi.1,gi.2.1,gi.2.2) hai (pm 11 [7,1,8,0,2,3,4,5,6,9,10])) λ_ _=>?_
   have H:=H.cH
   cases H.out;exact et () 9 [0,1,2,3,5,6,7,8,4] 8
  refine sh 101 cr<|sh 102 cr<|sh 103 cr<|jf 4 [5] ?_
  rcases bm H with⟨cu,H⟩|⟨cu,H⟩
  ·refine sh 106 cu<|sh 107 cu<|go 7<|WP.cond Q nofun (λ_=>?_)
   refine WP.skip<|WP.seq<|wr 7 0<|gp 3 ?_
   rcases bm H with⟨cw,H⟩|⟨cw,H⟩
   ·refine sh 116 cw<|sh 117 cw<|go 4<|WP.cond Q nofun (λ_=>?_)
    refine WP.skip<|wr 12 0<|gp 3 ?_
    rcases bm H with⟨cy,H⟩|⟨cy,H⟩
    ·refine sh 123 cy<|sh 124 cy<|go 9<|WP.cond Q nofun (λ_=>?_)
     refine WP.skip<|rg 3 0<|go 3<|ng (WS.shut (p:=gb) (m:=(⟨tv.2,xd.fR,xd.fE,xd.fN⟩:WS)) (gi.1,gi.2.1,gi.2.2) hai (pm 11 [7,1,8,0,2,3,4,5,6,9,10])) λ_ _=>?_
     refine ns 9 [1,2,3,5,6,7,8,0,4] 7 ?_
     exact bk jc (aE (xc+1),(⟨tv.2,xd.fR,xd.fE,xd.fN⟩:WS)) H
    refine sh 123 cy<|sh 124 cy<|jf 4 [5] ?_
    rcases bm H with⟨cz,H⟩|⟨cz,H⟩
    rotate_left
    ·refine sh 127 cz<|sh 128 cz<|go 5<|WP.cond Q (λ_=>?_) nofun
     refine so<|wg (WS.shut (p:=gb) (m:=(⟨tv.2,xd.fR,xd.fE,xd.fN⟩:WS)) (gi.1,gi.2.1,gi.2.2) hai (pm 11 [7,1,8,0,2,3,4,5,6,9,10])) λ_ _=>?_
     have H:=H.cH
     cases H.out;exact et () 9 [0,1,2,3,5,6,7,8,4] 8
    refine sh 127 cz<|sh 128 cz ?_
    refine gl 2 [5,0]<|el H λtae haw H=>Dv.call Q (gg Q) (cL 24) Q (bD.c haw)<|go 2<|ce H ?_ ?_ <;> intro H
    ·refine so<|wg (WS.shut (p:=gb) (m:=(⟨tv.2,xd.fR,xd.fE,xd.fN⟩:WS)) (gi.1,gi.2.1,gi.2.2) hai (pm 11 [7,1,8,0,2,3,4,5,6,9,10])) λ_ _=>?_
     have H:=H.cH
     cases H.out;exact et () 9 [0,1,2,3,5,6,7,8,4] 8
    refine WP.skip<|rg 3 0<|go 3<|ng (WS.shut (p:=gb) (m:=(⟨tv.2,xd.fR,xd.fE,xd.fN⟩:WS)) (gi.1,gi.2.1,gi.2.2) hai (pm 11 [7,1,8,0,2,3,4,5,6,9,10])) λ_ _=>?_
    refine ns 9 [1,2,3,5,6,7,8,0,4] 7 ?_
    exact bk jc (aE (xc+1),(⟨tv.2,xd.fR,xd.fE,xd.fN⟩:WS)) H
   refine sh 116 cw<|sh 117 cw ?_
   refine gl 2 [3,5]<|Dv.zR [.int .i64 tx.br,.string tx.cC] [.int .i64 tam.br,.string tam.cC] Q (gg Q) Q Q Q Q rn (λ_=>dJ 2 dc (λ_=>nT tx tam))<|go 1<|ce H ?_ ?_ <;> intro H
   ·refine so<|wg (WS.shut (p:=gb) (m:=(⟨tv.2,xd.fR,xd.fE,xd.fN⟩:WS)) (gi.1,gi.2.1,gi.2.2) hai (pm 11 [7,1,8,0,2,3,4,5,6,9,10])) λ_ _=>?_
    have H:=H.cH
    cases H.out;exact et () 9 [0,1,2,3,5,6,7,8,4] 8
   refine WP.skip<|wr 12 0<|gp 3 ?_
   rcases bm H with⟨caa,H⟩|⟨caa,H⟩
   ·refine sh 123 caa<|sh 124 caa<|go 9<|WP.cond Q nofun (λ_=>?_)
    refine WP.skip<|rg 3 0<|go 3<|ng (WS.shut (p:=gb) (m:=(⟨tv.2,xd.fR,xd.fE,xd.fN⟩:WS)) (gi.1,gi.2.1,gi.2.2) hai (pm 11 [7,1,8,0,2,3,4,5,6,9,10])) λ_ _=>?_
    refine ns 9 [1,2,3,5,6,7,8,0,4] 7 ?_
    exact bk jc (aE (xc+1),(⟨tv.2,xd.fR,xd.fE,xd.fN⟩:WS)) H
   refine sh 123 caa<|sh 124 caa<|jf 4 [5] ?_
   rcases bm H with⟨cab,H⟩|⟨cab,H⟩
   rotate_left
   ·refine sh 127 cab<|sh 128 cab<|go 5<|WP.cond Q (λ_=>?_) nofun
    refine so<|wg (WS.shut (p:=gb) (m:=(⟨tv.2,xd.fR,xd.fE,xd.fN⟩:WS)) (gi.1,gi.2.1,gi.2.2) hai (pm 11 [7,1,8,0,2,3,4,5,6,9,10])) λ_ _=>?_
    have H:=H.cH
    cases H.out;exact et () 9 [0,1,2,3,5,6,7,8,4] 8
   refine sh 127 cab<|sh 128 cab ?_
   refine gl 2 [5,0]<|el H λtaf hax H=>Dv.call Q (gg Q) (cL 24) Q (bD.c hax)<|go 2<|ce H ?_ ?_ <;> intro H
   ·refine so<|wg (WS.shut (p:=gb) (m:=(⟨tv.2,xd.fR,xd.fE,xd.fN⟩:WS)) (gi.1,gi.2.1,gi.2.2) hai (pm 11 [7,1,8,0,2,3,4,5,6,9,10])) λ_ _=>?_
    have H:=H.cH
    cases H.out;exact et () 9 [0,1,2,3,5,6,7,8,4] 8
   refine WP.skip<|rg 3 0<|go 3<|ng (WS.shut (p:=gb) (m:=(⟨tv.2,xd.fR,xd.fE,xd.fN⟩:WS)) (gi.1,gi.2.1,gi.2.2) hai (pm 11 [7,1,8,0,2,3,4,5,6,9,10])) λ_ _=>?_
   refine ns 9 [1,2,3,5,6,7,8,0,4] 7 ?_
   exact bk jc (aE (xc+1),(⟨tv.2,xd.fR,xd.fE,xd.fN⟩:WS)) H
  refine sh 106 cu<|sh 107 cu ?_
  refine gl 2 [5,0]<|el H λtag hay H=>Dv.call Q (gg Q) (cL 24) Q (bD.c hay)<|go 4<|ce H ?_ ?_ <;> intro H
  ·refine so<|wg (WS.shut (p:=gb) (m:=(⟨tv.2,xd.fR,xd.fE,xd.fN⟩:WS)) (gi.1,gi.2.1,gi.2.2) hai (pm 11 [7,1,8,0,2,3,4,5,6,9,10])) λ_ _=>?_
   have H:=H.cH
   cases H.out;exact et () 9 [0,1,2,3,5,6,7,8,4] 8
  refine WP.skip<|WP.seq<|wr 7 0<|gp 3 ?_
  rcases bm H with⟨cac,H⟩|⟨cac,H⟩
  ·refine sh 116 cac<|sh 117 cac<|go 4<|WP.cond Q nofun (λ_=>?_)
   refine WP.skip<|wr 12 0<|gp 3 ?_
   rcases bm H with⟨cad,H⟩|⟨cad,H⟩
   ·refine sh 123 cad<|sh 124 cad<|go 9<|WP.cond Q nofun (λ_=>?_)
    refine WP.skip<|rg 3 0<|go 3<|ng (WS.shut (p:=gb) (m:=(⟨tv.2,xd.fR,xd.fE,xd.fN⟩:WS)) (gi.1,gi.2.1,gi.2.2) hai (pm 11 [7,1,8,0,2,3,4,5,6,9,10])) λ_ _=>?_
    refine ns 9 [1,2,3,5,6,7,8,0,4] 7 ?_
    exact bk jc (aE (xc+1),(⟨tv.2,xd.fR,xd.fE,xd.fN⟩:WS)) H
   refine sh 123 cad<|sh 124 cad<|jf 4 [5] ?_
   rcases bm H with⟨cae,H⟩|⟨cae,H⟩
   rotate_left
   ·refine sh 127 cae<|sh 128 cae<|go 5<|WP.cond Q (λ_=>?_) nofun
    refine so<|wg (WS.shut (p:=gb) (m:=(⟨tv.2,xd.fR,xd.fE,xd.fN⟩:WS)) (gi.1,gi.2.1,gi.2.2) hai (pm 11 [7,1,8,0,2,3,4,5,6,9,10])) λ_ _=>?_
    have H:=H.cH
    cases H.out;exact et () 9 [0,1,2,3,5,6,7,8,4] 8
   refine sh 127 cae<|sh 128 cae ?_
   refine gl 2 [5,0]<|el H λtah haz H=>Dv.call Q (gg Q) (cL 24) Q (bD.c haz)<|go 2<|ce H ?_ ?_ <;> intro H
   ·refine so<|wg (WS.shut (p:=gb) (m:=(⟨tv.2,xd.fR,xd.fE,xd.fN⟩:WS)) (gi.1,gi.2.1,gi.2.2) hai (pm 11 [7,1,8,0,2,3,4,5,6,9,10])) λ_ _=>?_
    have H:=H.cH
    cases H.out;exact et () 9 [0,1,2,3,5,6,7,8,4] 8
   refine WP.skip<|rg 3 0<|go 3<|ng (WS.shut (p:=gb) (m:=(⟨tv.2,xd.fR,xd.fE,xd.fN⟩:WS)) (gi.1,gi.2.1,gi.2.2) hai (pm 11 [7,1,8,0,2,3,4,5,6,9,10])) λ_ _=>?_
   refine ns 9 [1,2,3,5,6,7,8,0,4] 7 ?_
   exact bk jc (aE (xc+1),(⟨tv.2,xd.fR,xd.fE,xd.fN⟩:WS)) H
  refine sh 116 cac<|sh 117 cac ?_
  refine gl 2 [3,5]<|Dv.zR [.int .i64 tx.br,.string tx.cC] [.int .i64 tam.br,.string tam.cC] Q (gg Q) Q Q Q Q rn (λ_=>dJ 2 dc (λ_=>nT tx tam))<|go 1<|ce H ?_ ?_ <;> intro H
  ·refine so<|wg (WS.shut (p:=gb) (m:=(⟨tv.2,xd.fR,xd.fE,xd.fN⟩:WS)) (gi.1,gi.2.1,gi.2.2) hai (pm 11 [7,1,8,0,2,3,4,5,6,9,10])) λ_ _=>?_
   have H:=H.cH
   cases H.out;exact et () 9 [0,1,2,3,5,6,7,8,4] 8
  refine WP.skip<|wr 12 0<|gp 3 ?_
  rcases bm H with⟨caf,H⟩|⟨caf,H⟩
  ·refine sh 123 caf<|sh 124 caf<|go 9<|WP.cond Q nofun (λ_=>?_)
   refine WP.skip<|rg 3 0<|go 3<|ng (WS.shut (p:=gb) (m:=(⟨tv.2,xd.fR,xd.fE,xd.fN⟩:WS)) (gi.1,gi.2.1,gi.2.2) hai (pm 11 [7,1,8,0,2,3,4,5,6,9,10])) λ_ _=>?_
   refine ns 9 [1,2,3,5,6,7,8,0,4] 7 ?_
   exact bk jc (aE (xc+1),(⟨tv.2,xd.fR,xd.fE,xd.fN⟩:WS)) H
  refine sh 123 caf<|sh 124 caf<|jf 4 [5] ?_
  rcases bm H with⟨cag,H⟩|⟨cag,H⟩
  rotate_left
  ·refine sh 127 cag<|sh 128 cag<|go 5<|WP.cond Q (λ_=>?_) nofun
   refine so<|wg (WS.shut (p:=gb) (m:=(⟨tv.2,xd.fR,xd.fE,xd.fN⟩:WS)) (gi.1,gi.2.1,gi.2.2) hai (pm 11 [7,1,8,0,2,3,4,5,6,9,10])) λ_ _=>?_
   have H:=H.cH
   cases H.out;exact et () 9 [0,1,2,3,5,6,7,8,4] 8
  refine sh 127 cag<|sh 128 cag ?_
  refine gl 2 [5,0]<|el H λtai hbe H=>Dv.call Q (gg Q) (cL 24) Q (bD.c hbe)<|go 2<|ce H ?_ ?_ <;> intro H
  ·refine so<|wg (WS.shut (p:=gb) (m:=(⟨tv.2,xd.fR,xd.fE,xd.fN⟩:WS)) (gi.1,gi.2.1,gi.2.2) hai (pm 11 [7,1,8,0,2,3,4,5,6,9,10])) λ_ _=>?_
   have H:=H.cH
   cases H.out;exact et () 9 [0,1,2,3,5,6,7,8,4] 8
  refine WP.skip<|rg 3 0<|go 3<|ng (WS.shut (p:=gb) (m:=(⟨tv.2,xd.fR,xd.fE,xd.fN⟩:WS)) (gi.1,gi.2.1,gi.2.2) hai (pm 11 [7,1,8,0,2,3,4,5,6,9,10])) λ_ _=>?_
  refine ns 9 [1,2,3,5,6,7,8,0,4] 7 ?_
  exact bk jc (aE (xc+1),(⟨tv.2,xd.fR,xd.fE,xd.fN⟩:WS)) H
 refine el H λtaj hbf H=>Dv.lS (pre:=[bY.O gi.2.1 tv.2]) (F:=[lax,ar bi 49 (Pos.enc tam),own dW.K gt.1 tal,ar gi.1 72 [eq gi.2.1.1,vS xd.fR.eZ,vI xd.fR.bK,vI xd.fR.aS,sl bq.K xd.fR.fV.fD,sl MK.K xd.fR.fM.fL,vI xd.fR.fM.fP.bW,sl ak.K xd.fR.fM.fP.fL,vI xd.fR.fM.fP.bS,sl ak.K xd.fR.fT.fL,sl dS xd.fR.fT.cK,sl ak.K xd.fR.fP.fL,sl (aP .i64) xd.fR.fP.cK,sl mu.K xd.fR.fL,vI xd.fR.dL,sl iX.K xd.fR.fQ,sl iY.K xd.fR.fF,eq gi.2.2.1,vI xd.fN],own Event.K gi.2.2.1 xd.fE,ar bc 47 [vS tj,vS tm,vS tn,vB false],ar ba 43 (cV.enc (cV.K.at a2 xc))]++F) (λgn:OV=>[bY.O gi.2.1 tv.2,own dW.K gn.1 taj,lax,ar bi 49 (Pos.enc tam),own dW.K gt.1 tal,ar gi.1 72 [eq gi.2.1.1,vS xd.fR.eZ,vI xd.fR.bK,vI xd.fR.aS,sl bq.K xd.fR.fV.fD,sl MK.K xd.fR.fM.fL,vI xd.fR.fM.fP.bW,sl ak.K xd.fR.fM.fP.fL,vI xd.fR.fM.fP.bS,sl ak.K xd.fR.fT.fL,sl dS xd.fR.fT.cK,sl ak.K xd.fR.fP.fL,sl (aP .i64) xd.fR.fP.cK,sl mu.K xd.fR.fL,vI xd.fR.dL,sl iX.K xd.fR.fQ,sl iY.K xd.fR.fF,eq gi.2.2.1,vI xd.fN],own Event.K gi.2.2.1 xd.fE,ar bc 47 [vS tj,vS tm,vS tn,vB false],ar ba 43 (cV.enc (cV.K.at a2 xc))]++F) Q T (cL 20) Q (dC.c hbf (p0_:=gi.2.1)) (bN (L:=[lax,bY.O gi.2.1 tv.2,ar bi 49 (Pos.enc tam),own dW.K gt.1 tal,ar gi.1 72 [eq gi.2.1.1,vS xd.fR.eZ,vI xd.fR.bK,vI xd.fR.aS,sl bq.K xd.fR.fV.fD,sl MK.K xd.fR.fM.fL,vI xd.fR.fM.fP.bW,sl ak.K xd.fR.fM.fP.fL,vI xd.fR.fM.fP.bS,sl ak.K xd.fR.fT.fL,sl dS xd.fR.fT.cK,sl ak.K xd.fR.fP.fL,sl (aP .i64) xd.fR.fP.cK,sl mu.K xd.fR.fL,vI xd.fR.dL,sl iX.K xd.fR.fQ,sl iY.K xd.fR.fF,eq gi.2.2.1,vI xd.fN],own Event.K gi.2.2.1 xd.fE,ar bc 47 [vS tj,vS tm,vS tn,vB false],ar ba 43 (cV.enc (cV.K.at a2 xc))]) (F:=F) [1,0,2,3,4,5,6,7] kr Q Q) Q pE (λgn _=>?_)
 refine el H λtak hbg H=>mH (B:=[own dW.K gn.1 taj]) 9 [1,0,2,3,4,5,6,7,8] (cL 19) (Pt.qz _ (eA.c hbg) (.cons (ln (ab 0 Q)) (.cons nV .nil)) (flat_agg (bH cJ (bH cJ jB)))) ?_
 refine .fin<|qn Q T nu (mA (λbh=>qV (L:=[ar bh 49 [vI 0,vS eE],bY.O gi.2.1 tv.2,own dW.K gn.1 taj,lax,ar bi 49 (Pos.enc tam),own dW.K gt.1 tal,ar gi.1 72 [eq gi.2.1.1,vS xd.fR.eZ,vI xd.fR.bK,vI xd.fR.aS,sl bq.K xd.fR.fV.fD,sl MK.K xd.fR.fM.fL,vI xd.fR.fM.fP.bW,sl ak.K xd.fR.fM.fP.fL,vI xd.fR.fM.fP.bS,sl ak.K xd.fR.fT.fL,sl dS xd.fR.fT.cK,sl ak.K xd.fR.fP.fL,sl (aP .i64) xd.fR.fP.cK,sl mu.K xd.fR.fL,vI xd.fR.dL,sl iX.K xd.fR.fQ,sl iY.K xd.fR.fF,eq gi.2.2.1,vI xd.fN],own Event.K gi.2.2.1 xd.fE,ar bc 47 [vS tj,vS tm,vS tn,vB false],ar ba 43 (cV.enc (cV.K.at a2 xc))]) (F:=F) ([ar bh 49 [vI 0,vS eE],bY.O gi.2.1 tv.2,lax,ar bi 49 (Pos.enc tam),own dW.K gt.1 tal,ar gi.1 72 [eq gi.2.1.1,vS xd.fR.eZ,vI xd.fR.bK,vI xd.fR.aS,sl bq.K xd.fR.fV.fD,sl MK.K xd.fR.fM.fL,vI xd.fR.fM.fP.bW,sl ak.K xd.fR.fM.fP.fL,vI xd.fR.fM.fP.bS,sl ak.K xd.fR.fT.fL,sl dS xd.fR.fT.cK,sl ak.K xd.fR.fP.fL,sl (aP .i64) xd.fR.fP.cK,sl mu.K xd.fR.fL,vI xd.fR.dL,sl iX.K xd.fR.fQ,sl iY.K xd.fR.fF,eq gi.2.2.1,vI xd.fN],own Event.K gi.2.2.1 xd.fE,ar bc 47 [vS tj,vS tm,vS tn,vB false],ar ba 43 (cV.enc (cV.K.at a2 xc))]++F) [2,0,1,3,4,5,6,7,8,9] kr Q Q) pU) (λbh=>?_)
 refine sv 0 ?_
 refine .fin<|wd mX 17 49152<|go 1<|Dv.aJ hai Q T Q<|fp hai Q T Q s8<|gl 6 [6,8,9]<|el H λtz haq H=>cl Q (cL 22) Q (dw.c haq)<|el H λtaa har H=>cl Q (cL 23) Q (eS.c har)<|go 1<|dZ Q T Q Q<|dZ Q T Q Q<|al Q T nu pD λbg=>sx 0 Q T Q Q cA vZ Q Q Q pD ?_
 refine go 1<|WP.seq<|wr 22 0<|gp 3 ?_
 rcases bm H with⟨ci,H⟩|⟨ci,H⟩
 ·refine sh 94 ci<|sh 95 ci<|go 19<|WP.cond Q nofun (λ_=>?_)
  refine WP.skip<|WP.seq<|wr 7 0<|gp 3 ?_
  rcases bm H with⟨cj,H⟩|⟨cj,H⟩
  ·refine sh 116 cj<|sh 117 cj<|go 4<|WP.cond Q nofun (λ_=>?_)
   refine WP.skip<|wr 12 0<|gp 3 ?_
   rcases bm H with⟨ck,H⟩|⟨ck,H⟩
   ·refine sh 123 ck<|sh 124 ck<|go 9<|WP.cond Q nofun (λ_=>?_)
    refine WP.skip<|rg 3 0<|go 3<|ng (WS.shut (p:=gb) (m:=(⟨tv.2,xd.fR,xd.fE,xd.fN⟩:WS)) (gi.1,gi.2.1,gi.2.2) hai (pm 11 [7,2,8,0,1,3,4,5,6,9,10])) λ_ _=>?_
    refine ns 9 [1,2,3,5,6,7,8,0,4] 7 ?_
    exact bk jc (aE (xc+1),(⟨tv.2,xd.fR,xd.fE,xd.fN⟩:WS)) H
   refine sh 123 ck<|sh 124 ck<|jf 4 [5] ?_
   rcases bm H with⟨cn,H⟩|⟨cn,H⟩
   rotate_left
   ·refine sh 127 cn<|sh 128 cn<|go 5<|WP.cond Q (λ_=>?_) nofun
    refine so<|wg (WS.shut (p:=gb) (m:=(⟨tv.2,xd.fR,xd.fE,xd.fN⟩:WS)) (gi.1,gi.2.1,gi.2.2) hai (pm 11 [7,2,8,0,1,3,4,5,6,9,10])) λ_ _=>?_
    have H:=H.cH
    cases H.out;exact et () 9 [0,1,2,3,5,6,7,8,4] 8
   refine sh 127 cn<|sh 128 cn ?_
   refine gl 2 [5,0]<|el H λtac hau H=>Dv.call Q (gg Q) (cL 24) Q (bD.c hau)<|go 2<|ce H ?_ ?_ <;> intro H
   ·refine so<|wg (WS.shut (p:=gb) (m:=(⟨tv.2,xd.fR,xd.fE,xd.fN⟩:WS)) (gi.1,gi.2.1,gi.2.2) hai (pm 11 [7,2,8,0,1,3,4,5,6,9,10])) λ_ _=>?_
    have H:=H.cH
    cases H.out;exact et () 9 [0,1,2,3,5,6,7,8,4] 8
   refine WP.skip<|rg 3 0<|go 3<|ng (WS.shut (p:=gb) (m:=(⟨tv.2,xd.fR,xd.fE,xd.fN⟩:WS)) (gi.1,gi.2.1,gi.2.2) hai (pm 11 [7,2,8,0,1,3,4,5,6,9,10])) λ_ _=>?_
   refine ns 9 [1,2,3,5,6,7,8,0,4] 7 ?_
   exact bk jc (aE (xc+1),(⟨tv.2,xd.fR,xd.fE,xd.fN⟩:WS)) H
  refine sh 116 cj<|sh 117 cj ?_
  refine gl 2 [1,5]<|Dv.zR [.int .i64 tak.br,.string tak.cC] [.int .i64 tam.br,.string tam.cC] Q (gg Q) Q Q Q Q rn (λ_=>dJ 2 dc (λ_=>nT tak tam))<|go 1<|ce H ?_ ?_ <;> intro H
  ·refine so<|wg (WS.shut (p:=gb) (m:=(⟨tv.2,xd.fR,xd.fE,xd.fN⟩:WS)) (gi.1,gi.2.1,gi.2.2) hai (pm 11 [7,2,8,0,1,3,4,5,6,9,10])) λ_ _=>?_
   have H:=H.cH
   cases H.out;exact et () 9 [0,1,2,3,5,6,7,8,4] 8
  refine WP.skip<|wr 12 0<|gp 3 ?_
  rcases bm H with⟨co,H⟩|⟨co,H⟩
  ·refine sh 123 co<|sh 124 co<|go 9<|WP.cond Q nofun (λ_=>?_)
   refine WP.skip<|rg 3 0<|go 3<|ng (WS.shut (p:=gb) (m:=(⟨tv.2,xd.fR,xd.fE,xd.fN⟩:WS)) (gi.1,gi.2.1,gi.2.2) hai (pm 11 [7,2,8,0,1,3,4,5,6,9,10])) λ_ _=>?_
   refine ns 9 [1,2,3,5,6,7,8,0,4] 7 ?_
   exact bk jc (aE (xc+1),(⟨tv.2,xd.fR,xd.fE,xd.fN⟩:WS)) H
  refine sh 123 co<|sh 124 co<|jf 4 [5] ?_
  rcases bm H with⟨cp,H⟩|⟨cp,H⟩
  rotate_left
  ·refine sh 127 cp<|sh 128 cp<|go 5<|WP.cond Q (λ_=>?_) nofun
   refine so<|wg (WS.shut (p:=gb) (m:=(⟨tv.2,xd.fR,xd.fE,xd.fN⟩:WS)) (gi.1,gi.2.1,gi.2.2) hai (pm 11 [7,2,8,0,1,3,4,5,6,9,10])) λ_ _=>?_
   have H:=H.cH
   cases H.out;exact et () 9 [0,1,2,3,5,6,7,8,4] 8
  refine sh 127 cp<|sh 128 cp ?_
  refine gl 2 [5,0]<|el H λtad hav H=>Dv.call Q (gg Q) (cL 24) Q (bD.c hav)<|go 2<|ce H ?_ ?_ <;> intro H
  ·refine so<|wg (WS.shut (p:=gb) (m:=(⟨tv.2,xd.fR,xd.fE,xd.fN⟩:WS)) (gi.1,gi.2.1,gi.2.2) hai (pm 11 [7,2,8,0,1,3,4,5,6,9,10])) λ_ _=>?_
   have H:=H.cH
   cases H.out;exact et () 9 [0,1,2,3,5,6,7,8,4] 8
  refine WP.skip<|rg 3 0<|go 3<|ng (WS.shut (p:=gb) (m:=(⟨tv.2,xd.fR,xd.fE,xd.fN⟩:WS)) (gi.1,gi.2.1,gi.2.2) hai (pm 11 [7,2,8,0,1,3,4,5,6,9,10])) λ_ _=>?_
  refine ns 9 [1,2,3,5,6,7,8,0,4] 7 ?_
  exact bk jc (aE (xc+1),(⟨tv.2,xd.fR,xd.fE,xd.fN⟩:WS)) H
 refine sh 94 ci<|sh 95 ci<|gl 2 [1,0]<|Dv.zR [.int .i64 tak.br,.string tak.cC] [.int .i64 taa.1.br,.string taa.1.cC] Q (gg Q) Q Q Q Q rn (λ_=>dJ 2 dc (λ_=>nT tak taa.1))<|gp 1 ?_
 rcases bm H with⟨cq,H⟩|⟨cq,H⟩
 rotate_left
 ·refine sh 98 cq<|sh 99 cq<|go 15<|WP.cond Q (λ_=>?_) nofun
  refine so<|wg (WS.shut (p:=gb) (m:=(⟨tv.2,xd.fR,xd.fE,xd.fN⟩:WS)) (gi.1,gi.2.1,gi.2.2) hai (pm 11 [7,2,8,0,1,3,4,5,6,9,10])) λ_ _=>?_
  have H:=H.cH
  cases H.out;exact et () 9 [0,1,2,3,5,6,7,8,4] 8
 refine sh 98 cq<|sh 99 cq<|gp 4 ?_
 rcases bm H with⟨cr,H⟩|⟨cr,H⟩
 rotate_left
 ·refine sh 101 cr<|sh 102 cr<|sh 103 cr<|go 11<|WP.cond Q (λ_=>?_) nofun
  refine so<|wg (WS.shut (p:=gb) (m:=(⟨tv.2,xd.fR,xd.fE,xd.fN⟩:WS)) (gi.1,gi.2.1,gi.2.2) hai (pm 11 [7,2,8,0,1,3,4,5,6,9,10])) λ_ _=>?_
  have H:=H.cH
  cases H.out;exact et () 9 [0,1,2,3,5,6,7,8,4] 8
 refine sh 101 cr<|sh 102 cr<|sh 103 cr<|jf 4 [5] ?_
 rcases bm H with⟨cu,H⟩|⟨cu,H⟩
 ·refine sh 106 cu<|sh 107 cu<|go 7<|WP.cond Q nofun (λ_=>?_)
  refine WP.skip<|WP.seq<|wr 7 0<|gp 3 ?_
  rcases bm H with⟨cw,H⟩|⟨cw,H⟩
  ·refine sh 116 cw<|sh 117 cw<|go 4<|WP.cond Q nofun (λ_=>?_)
   refine WP.skip<|wr 12 0<|gp 3 ?_
   rcases bm H with⟨cy,H⟩|⟨cy,H⟩
   ·refine sh 123 cy<|sh 124 cy<|go 9<|WP.cond Q nofun (λ_=>?_)
    refine WP.skip<|rg 3 0<|go 3<|ng (WS.shut (p:=gb) (m:=(⟨tv.2,xd.fR,xd.fE,xd.fN⟩:WS)) (gi.1,gi.2.1,gi.2.2) hai (pm 11 [7,2,8,0,1,3,4,5,6,9,10])) λ_ _=>?_
    refine ns 9 [1,2,3,5,6,7,8,0,4] 7 ?_
    exact bk jc (aE (xc+1),(⟨tv.2,xd.fR,xd.fE,xd.fN⟩:WS)) H
   refine sh 123 cy<|sh 124 cy<|jf 4 [5] ?_
   rcases bm H with⟨cz,H⟩|⟨cz,H⟩
   rotate_left
   ·refine sh 127 cz<|sh 128 cz<|go 5<|WP.cond Q (λ_=>?_) nofun
    refine so<|wg (WS.shut (p:=gb) (m:=(⟨tv.2,xd.fR,xd.fE,xd.fN⟩:WS)) (gi.1,gi.2.1,gi.2.2) hai (pm 11 [7,2,8,0,1,3,4,5,6,9,10])) λ_ _=>?_
    have H:=H.cH
    cases H.out;exact et () 9 [0,1,2,3,5,6,7,8,4] 8
   refine sh 127 cz<|sh 128 cz ?_
   refine gl 2 [5,0]<|el H λtae haw H=>Dv.call Q (gg Q) (cL 24) Q (bD.c haw)<|go 2<|ce H ?_ ?_ <;> intro H
   ·refine so<|wg (WS.shut (p:=gb) (m:=(⟨tv.2,xd.fR,xd.fE,xd.fN⟩:WS)) (gi.1,gi.2.1,gi.2.2) hai (pm 11 [7,2,8,0,1,3,4,5,6,9,10])) λ_ _=>?_
    have H:=H.cH
    cases H.out;exact et () 9 [0,1,2,3,5,6,7,8,4] 8
   refine WP.skip<|rg 3 0<|go 3<|ng (WS.shut (p:=gb) (m:=(⟨tv.2,xd.fR,xd.fE,xd.fN⟩:WS)) (gi.1,gi.2.1,gi.2.2) hai (pm 11 [7,2,8,0,1,3,4,5,6,9,10])) λ_ _=>?_
   refine ns 9 [1,2,3,5,6,7,8,0,4] 7 ?_
   exact bk jc (aE (xc+1),(⟨tv.2,xd.fR,xd.fE,xd.fN⟩:WS)) H
  refine sh 116 cw<|sh 117 cw ?_
  refine gl 2 [1,5]<|Dv.zR [.int .i64 tak.br,.string tak.cC] [.int .i64 tam.br,.string tam.cC] Q (gg Q) Q Q Q Q rn (λ_=>dJ 2 dc (λ_=>nT tak tam))<|go 1<|ce H ?_ ?_ <;> intro H
  ·refine so<|wg (WS.shut (p:=gb) (m:=(⟨tv.2,xd.fR,xd.fE,xd.fN⟩:WS)) (gi.1,gi.2.1,gi.2.2) hai (pm 11 [7,2,8,0,1,3,4,5,6,9,10])) λ_ _=>?_
   have H:=H.cH
   cases H.out;exact et () 9 [0,1,2,3,5,6,7,8,4] 8
  refine WP.skip<|wr 12 0<|gp 3 ?_
  rcases bm H with⟨caa,H⟩|⟨caa,H⟩
  ·refine sh 123 caa<|sh 124 caa<|go 9<|WP.cond Q nofun (λ_=>?_)
   refine WP.skip<|rg 3 0<|go 3<|ng (WS.shut (p:=gb) (m:=(⟨tv.2,xd.fR,xd.fE,xd.fN⟩:WS)) (gi.1,gi.2.1,gi.2.2) hai (pm 11 [7,2,8,0,1,3,4,5,6,9,10])) λ_ _=>?_
   refine ns 9 [1,2,3,5,6,7,8,0,4] 7 ?_
   exact bk jc (aE (xc+1),(⟨tv.2,xd.fR,xd.fE,xd.fN⟩:WS)) H
  refine sh 123 caa<|sh 124 caa<|jf 4 [5] ?_
  rcases bm H with⟨cab,H⟩|⟨cab,H⟩
  rotate_left
  ·refine sh 127 cab<|sh 128 cab<|go 5<|WP.cond Q (λ_=>?_) nofun
   refine so<|wg (WS.shut (p:=gb) (m:=(⟨tv.2,xd.fR,xd.fE,xd.fN⟩:WS)) (gi.1,gi.2.1,gi.2.2) hai (pm 11 [7,2,8,0,1,3,4,5,6,9,10])) λ_ _=>?_
   have H:=H.cH
   cases H.out;exact et () 9 [0,1,2,3,5,6,7,8,4] 8
  refine sh 127 cab<|sh 128 cab ?_
  refine gl 2 [5,0]<|el H λtaf hax H=>Dv.call Q (gg Q) (cL 24) Q (bD.c hax)<|go 2<|ce H ?_ ?_ <;> intro H
  ·refine so<|wg (WS.shut (p:=gb) (m:=(⟨tv.2,xd.fR,xd.fE,xd.fN⟩:WS)) (gi.1,gi.2.1,gi.2.2) hai (pm 11 [7,2,8,0,1,3,4,5,6,9,10])) λ_ _=>?_
   have H:=H.cH
   cases H.out;exact et () 9 [0,1,2,3,5,6,7,8,4] 8
  refine WP.skip<|rg 3 0<|go 3<|ng (WS.shut (p:=gb) (m:=(⟨tv.2,xd.fR,xd.fE,xd.fN⟩:WS)) (gi.1,gi.2.1,gi.2.2) hai (pm 11 [7,2,8,0,1,3,4,5,6,9,10])) λ_ _=>?_
  refine ns 9 [1,2,3,5,6,7,8,0,4] 7 ?_
  exact bk jc (aE (xc+1),(⟨tv.2,xd.fR,xd.fE,xd.fN⟩:WS)) H
 refine sh 106 cu<|sh 107 cu ?_
 refine gl 2 [5,0]<|el H λtag hay H=>Dv.call Q (gg Q) (cL 24) Q (bD.c hay)<|go 4<|ce H ?_ ?_ <;> intro H
 ·refine so<|wg (WS.shut (p:=gb) (m:=(⟨tv.2,xd.fR,xd.fE,xd.fN⟩:WS)) (gi.1,gi.2.1,gi.2.2) hai (pm 11 [7,2,8,0,1,3,4,5,6,9,10])) λ_ _=>?_
  have H:=H.cH
  cases H.out;exact et () 9 [0,1,2,3,5,6,7,8,4] 8
 refine WP.skip<|WP.seq<|wr 7 0<|gp 3 ?_
 rcases bm H with⟨cac,H⟩|⟨cac,H⟩
 ·refine sh 116 cac<|sh 117 cac<|go 4<|WP.cond Q nofun (λ_=>?_)
  refine WP.skip<|wr 12 0<|gp 3 ?_
  rcases bm H with⟨cad,H⟩|⟨cad,H⟩
  ·refine sh 123 cad<|sh 124 cad<|go 9<|WP.cond Q nofun (λ_=>?_)
   refine WP.skip<|rg 3 0<|go 3<|ng (WS.shut (p:=gb) (m:=(⟨tv.2,xd.fR,xd.fE,xd.fN⟩:WS)) (gi.1,gi.2.1,gi.2.2) hai (pm 11 [7,2,8,0,1,3,4,5,6,9,10])) λ_ _=>?_
   refine ns 9 [1,2,3,5,6,7,8,0,4] 7 ?_
   exact bk jc (aE (xc+1),(⟨tv.2,xd.fR,xd.fE,xd.fN⟩:WS)) H
  refine sh 123 cad<|sh 124 cad<|jf 4 [5] ?_
  rcases bm H with⟨cae,H⟩|⟨cae,H⟩
  rotate_left
  ·refine sh 127 cae<|sh 128 cae<|go 5<|WP.cond Q (λ_=>?_) nofun
   refine so<|wg (WS.shut (p:=gb) (m:=(⟨tv.2,xd.fR,xd.fE,xd.fN⟩:WS)) (gi.1,gi.2.1,gi.2.2) hai (pm 11 [7,2,8,0,1,3,4,5,6,9,10])) λ_ _=>?_
   have H:=H.cH
   cases H.out;exact et () 9 [0,1,2,3,5,6,7,8,4] 8
  refine sh 127 cae<|sh 128 cae ?_
  refine gl 2 [5,0]<|el H λtah haz H=>Dv.call Q (gg Q) (cL 24) Q (bD.c haz)<|go 2<|ce H ?_ ?_ <;> intro H
  ·refine so<|wg (WS.shut (p:=gb) (m:=(⟨tv.2,xd.fR,xd.fE,xd.fN⟩:WS)) (gi.1,gi.2.1,gi.2.2) hai (pm 11 [7,2,8,0,1,3,4,5,6,9,10])) λ_ _=>?_
   have H:=H.cH
   cases H.out;exact et () 9 [0,1,2,3,5,6,7,8,4] 8
  refine WP.skip<|rg 3 0<|go 3<|ng (WS.shut (p:=gb) (m:=(⟨tv.2,xd.fR,xd.fE,xd.fN⟩:WS)) (gi.1,gi.2.1,gi.2.2) hai (pm 11 [7,2,8,0,1,3,4,5,6,9,10])) λ_ _=>?_
  refine ns 9 [1,2,3,5,6,7,8,0,4] 7 ?_
  exact bk jc (aE (xc+1),(⟨tv.2,xd.fR,xd.fE,xd.fN⟩:WS)) H
 refine sh 116 cac<|sh 117 cac ?_
 refine gl 2 [1,5]<|Dv.zR [.int .i64 tak.br,.string tak.cC] [.int .i64 tam.br,.string tam.cC] Q (gg Q) Q Q Q Q rn (λ_=>dJ 2 dc (λ_=>nT tak tam))<|go 1<|ce H ?_ ?_ <;> intro H
 ·refine so<|wg (WS.shut (p:=gb) (m:=(⟨tv.2,xd.fR,xd.fE,xd.fN⟩:WS)) (gi.1,gi.2.1,gi.2.2) hai (pm 11 [7,2,8,0,1,3,4,5,6,9,10])) λ_ _=>?_
  have H:=H.cH
  cases H.out;exact et () 9 [0,1,2,3,5,6,7,8,4] 8
 refine WP.skip<|wr 12 0<|gp 3 ?_
 rcases bm H with⟨caf,H⟩|⟨caf,H⟩
 ·refine sh 123 caf<|sh 124 caf<|go 9<|WP.cond Q nofun (λ_=>?_)
  refine WP.skip<|rg 3 0<|go 3<|ng (WS.shut (p:=gb) (m:=(⟨tv.2,xd.fR,xd.fE,xd.fN⟩:WS)) (gi.1,gi.2.1,gi.2.2) hai (pm 11 [7,2,8,0,1,3,4,5,6,9,10])) λ_ _=>?_
  refine ns 9 [1,2,3,5,6,7,8,0,4] 7 ?_
  exact bk jc (aE (xc+1),(⟨tv.2,xd.fR,xd.fE,xd.fN⟩:WS)) H
 refine sh 123 caf<|sh 124 caf<|jf 4 [5] ?_
 rcases bm H with⟨cag,H⟩|⟨cag,H⟩
 rotate_left
 ·refine sh 127 cag<|sh 128 cag<|go 5<|WP.cond Q (λ_=>?_) nofun
  refine so<|wg (WS.shut (p:=gb) (m:=(⟨tv.2,xd.fR,xd.fE,xd.fN⟩:WS)) (gi.1,gi.2.1,gi.2.2) hai (pm 11 [7,2,8,0,1,3,4,5,6,9,10])) λ_ _=>?_
  have H:=H.cH
  cases H.out;exact et () 9 [0,1,2,3,5,6,7,8,4] 8
 refine sh 127 cag<|sh 128 cag ?_
 refine gl 2 [5,0]<|el H λtai hbe H=>Dv.call Q (gg Q) (cL 24) Q (bD.c hbe)<|go 2<|ce H ?_ ?_ <;> intro H
 ·refine so<|wg (WS.shut (p:=gb) (m:=(⟨tv.2,xd.fR,xd.fE,xd.fN⟩:WS)) (gi.1,gi.2.1,gi.2.2) hai (pm 11 [7,2,8,0,1,3,4,5,6,9,10])) λ_ _=>?_
  have H:=H.cH
  cases H.out;exact et () 9 [0,1,2,3,5,6,7,8,4] 8
 refine WP.skip<|rg 3 0<|go 3<|ng (WS.shut (p:=gb) (m:=(⟨tv.2,xd.fR,xd.fE,xd.fN⟩:WS)) (gi.1,gi.2.1,gi.2.2) hai (pm 11 [7,2,8,0,1,3,4,5,6,9,10])) λ_ _=>?_
 refine ns 9 [1,2,3,5,6,7,8,0,4] 7 ?_
 exact bk jc (aE (xc+1),(⟨tv.2,xd.fR,xd.fE,xd.fN⟩:WS)) H
end Go.Proofs.YtelcbdmigiacpaaGreat
