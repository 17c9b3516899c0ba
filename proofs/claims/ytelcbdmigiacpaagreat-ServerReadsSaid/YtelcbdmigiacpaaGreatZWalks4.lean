import Derived.Test.YtelcbdmigiacpaaGreatZWalks3
set_option linter.all false
set_option autoImplicit true
set_option maxRecDepth 10000
set_option maxHeartbeats 20000000
namespace Go.Proofs.YtelcbdmigiacpaaGreat
open Go Go.Sp Tryz
theorem cI.c (h:cI.f k a0 a1=some r):Pt prog 71 [vS a0,sl dV.K a1] (agg (bq.enc r)):=by
 refine pf func71 h λR0 F H=>?_
 refine wr 1 1<|al Q T pM nofun λba=>.fin<|wr 4 12<|go 1<|Dv.lD (qs:=[vS a0,jQ]) (css:=[[vS a0]]) Q T nv DB AP Q ⟨(cells_one (ai Q)),T⟩ Q Q<|al Q T pM nofun λbc=>sy 0 ?_
 refine .fin<|WP.kW H id (λpa=>[(4,iT ba),(5,iT bc)]) (λpa=>[ar bc 126 [vS pa.2.2.1,sl Event.K pa.2.2.2],ar ba 126 [vS eE,jQ]]++F) (λpa H=>?_) (λH=>?_)
 ·refine wr 2 2<|gl 1 [0]<|sy 1 ?_
  refine .fin ?_
  cases H.out;exact r2 i2 Q (.cons (aL Q nv Q nZ (ab 1 Q) Q) .nil)
 refine so<|WP.block<|WP.gh (gh_wk (E':=[(0,vS a0),(1,sl dV.K a1),(4,iT ba),(5,iT bc),(6,vI 0)]) (l':=[ar bc 126 [vS a0,sl Event.K ([]:List Event)],ar ba 126 [vS eE,jQ]]++F) (qO Q cG (qO Q cG (qO Q cG (qO Q cG (qO Q cG Fp))))) (fI (.cons (Ge (.cons cG (.cons kT .nil))) (.cons EY .nil)) λ_=>EY)) (λ_ _=>?_)
 refine ws 2 [0,1] 0 ?_
 refine lq (λj_ (pc:Int×BA×(List Event))=>cI.l0 k a0 a1 j_ pc.1 pc.2.1 pc.2.2) (0,a0,([]:List Event)) H [0,1,4,5] (λpc=>[(6,vI pc.1)]) (λpc=>[(0,ar bc 126 [vS pc.2.1,sl Event.K pc.2.2])]) ?_
 rintro j_ ⟨xa,xb,xc⟩ H
 rcases j_ with _ | ja
 ·exact(aW.no H).elim
 try dsimp only at H
 rw [cI.l0] at H
 refine WP.seq<|wr 8 0<|go 2<|Dv.jw Q T Q Jf<|gp 2 ?_
 cases ca:decide (xa<(a1.length:Int))
 ·have H:=H.cf ca
  refine go 3<|WP.cond Q nofun (λ_=>?_)
  refine WP.exit ?_
  have H:=H.out
  exact jn (xa,false,xb,xc) H
 have H:=H.ct ca
 refine go 3<|cf H ?_ ?_ <;> intro H
 ·refine WP.exit ?_
  have H:=H.out
  exact jn (xa,decide (xa<9),xb,xc) H
 refine WP.skip<|WP.kW H (λqa:(Int×Int×Bool×Bool×Bool×BA×(List Event)×(List Bool))×OV=>qa.1) (λqa=>[(0,vS a0),(1,sl dV.K a1),(4,iT ba),(5,iT bc),(6,vI xa)]) (λqa=>[ar bc 126 [vS qa.1.2.2.2.2.2.1,sl Event.K qa.1.2.2.2.2.2.2.1],ar ba 126 [vS eE,jQ],own dS qa.2.1 qa.1.2.2.2.2.2.2.2]++F) (λqa H=>?_) (λH=>?_)
 ·obtain⟨pe,va⟩:=qa
  refine rg 3 0<|go 3<|ns 3 [2,0,1] 1 ?_
  exact bk ja (aE (xa+1),pe.2.2.2.2.2.1,pe.2.2.2.2.2.2.1) H
 refine WP.block<|wd mX 18 196608<|go 1<|el H λta haa H=>cl Q (cL 22) Q (dw.c haa)<|go 3<|gr H λgb H=>Dv.lE Q T Q Q Jf xO yS gb.1 gb.2<|fr Q T Q Gn Q<|nK Q T Q Hu Q<|el H λtc hac H=>cl Q (cL 47) Q (kE.c hac)<|go 2<|gr H λgc H=>Dv.lE Q T Q Q Jf xO yS gc.1 gc.2<|fr Q T Q F7 Q<|nK Q T Q Hu Q<|el H λte had H=>cl Q (cL 46) Q (dq.c had)<|Dv.lD (qs:=[vS ta,vS a0,jQ,vS eE,vS tc,vI te]) (css:=[[vS ta],[vS a0],[vS tc],[vI te]]) Q T nb BS z107 Q ⟨(cells_one (ai Q)),⟨(cells_one (ai Q)),⟨(cells_one (ai Q)),⟨(cells_one (ai Q)),T⟩⟩⟩⟩ Q Q<|al Q T yY pD λbd=>sv 0 ?_
 refine .fin<|wr 2 1<|gr H λgi H=>?_
 obtain⟨ti2376,ti2376a,ti2376b,ti2376c,ti2376d⟩:=inf4
 refine Dv.mks (Kd:=dS) (false:Bool) Q T Q Q U60 ti2376a ti2376b ti2376c ti2376d Q dc Q gi nofun (λvb=>?_)
 refine go 1<|WP.kW H id (λpg=>[(0,vS a0),(1,sl dV.K a1),(4,iT ba),(5,iT bc),(6,vI xa),(7,iT bd),(8,eq vb.1)]) (λpg=>[ar bd 107 [vS ta,vS a0,jQ,vS eE,vS tc,vI te],ar bc 126 [vS xb,sl Event.K xc],ar ba 126 [vS eE,jQ],own dS vb.1 pg.2.2]++F) (λpg H=>?_) (λH=>?_)
 rotate_left
 ·refine so<|WP.block<|ws 4 [1,2,3,0] 0 ?_
  refine lq (λj_ (ph:Int×(List Bool))=>cI.l2 k a1 xa j_ ph.1 ph.2) (0,List.replicate (9:Int).toNat (false:Bool)) H [0,1,4,5,6,7,8] (λph=>[(9,vI ph.1)]) (λph=>[(3,own dS vb.1 ph.2)]) ?_
  rintro j_ ⟨xd,xe⟩ H
  rcases j_ with _ | jc
  ·exact(aW.no H).elim
  try dsimp only at H
  rw [cI.l2] at H
  refine WP.seq<|wr 16 0<|go 3<|gr H λgj H=>Dv.lE Q T Q Q Jf xO yS gj.1 gj.2<|fr Q T Q B6 Q<|nK Q T Q sc24 Q<|Dv.jw Q T Q yn<|gp 2 ?_
  cases cb:decide (xd<(((dV.K.at a1 xa).ag).length:Int))
  ·have H:=H.cf cb
   refine go 7<|WP.cond Q nofun (λ_=>?_)
   refine WP.exit ?_
   have H:=H.out
   exact jn (xd,false,xe) H
  have H:=H.ct cb
  refine gp 4 ?_
  cases cg:decide (xd<3)
  ·have H:=H.cf cg
   refine go 3<|WP.cond Q nofun (λ_=>?_)
   refine WP.exit ?_
   have H:=H.out
   exact jn (xd,false,xe) H
  have H:=H.ct cg
  refine go 3<|cf H ?_ ?_ <;> intro H
  ·refine WP.exit ?_
   have H:=H.out
   exact jn (xd,decide (0<xa),xe) H
  refine WP.skip<|WP.seq<|WP.block<|rg 13 4096<|go 3<|gr H λgk H=>Dv.lE Q T Q Q Jf xO yS gk.1 gk.2<|fr Q T Q B6 Q<|nK Q T Q sc24 Q<|go 1<|gr H λgn H=>Dv.lE Q T Q Q yn U3 c3 gn.1 gn.2<|nK Q T Q Hu Q<|go 1<|el H λtg hae H=>cl Q (cL 46) Q (dq.c hae)<|gr H λgt H=>?_
  have haf:tg.toNat<xe.length:=cQ gt
  exact Dv.na Q T Q (ab 3 Q) Q U60 U4 c4 gt.1 gt.2<|Dv.Ff (j:=tg.toNat) (f:=0) (jj:=3) true Q T Q Q (cells_one (ai Q)) U4 c4 Q Q haf (Nat.le_of_ble_eq_true Q) Q nofun<|.fin<|rg 3 0<|go 3<|bk jc (aE (xd+1),xe.set tg.toNat true) H
 refine WP.kW H (λqb:(Int×Bool×(List BA))×OV=>qb.1) (λqb=>[(0,vS a0),(1,sl dV.K a1),(4,iT ba),(5,iT bc),(6,vI xa),(7,iT bd)]) (λqb=>[ar bd 107 [vS ta,vS a0,eq qb.2.1,vS eE,vS tc,vI te],ar bc 126 [vS xb,sl Event.K xc],ar ba 126 [vS eE,jQ],own dS vb.1 pg.2.2,own az qb.2.1 qb.1.2.2]++F) (λqb H=>?_) (λH=>?_)
 rotate_left
 ·refine so<|WP.block<|wg (dX az none) λ_ _=>?_
  refine ws 5 [1,2,3,4,0] 0 ?_
  refine lq (λj_ (pi:Int×(List BA)×OV)=>cI.l1 k xa pg j_ pi.1 pi.2.1) (0,([]:List BA),iQ) H [0,1,4,5,6,7,8] (λpi=>[(10,vI pi.1)]) (λpi=>[(0,ar bd 107 [vS ta,vS a0,eq pi.2.2.1,vS eE,vS tc,vI te]),(4,own az pi.2.2.1 pi.2.1)]) ?_
  rintro j_ ⟨xf,xg,vd⟩ H
  rcases j_ with _ | jd
  ·exact(aW.no H).elim
  try dsimp only at H
  rw [cI.l1] at H
  refine WP.seq<|so<|cf H ?_ ?_ <;> intro H
  ·refine WP.exit ?_
   have H:=H.out
   exact jn ((xf,decide (xf<xa),xg),vd) H
  refine WP.skip<|WP.seq<|WP.block<|wr 4 0<|go 2<|gr H λgu H=>?_
  have hag:xf.toNat<pg.2.2.length:=cQ gu
  refine Dv.na Q T Q (ab 3 Q) Q U60 U4 c4 gu.1 gu.2<|Dv.D5 (j:=xf.toNat) (f:=0) (p:=vB (pg.2.2.getD xf.toNat default)) Q T Q (ab 3 Q) hag U4 Q Q<|.fin<|cf H ?_ ?_ <;> intro H
  ·exact WP.skip<|rg 3 0<|go 3<|bk jd (aE (xf+1),xg,vd) H
  refine dg mX 8 160<|gl 3 [0]<|el H λtj hah H=>cl Q (cL 22) Q (dw.c hah)<|Dv.lit az ([tj]:List BA) (css:=[[vS tj]]) Q T iu U9 c9 z9 Q dc dc Q ⟨(cells_one (ai Q)),T⟩ Q Q Q<|gr H λgv H=>ap az 4 ([tj]:List BA) dG iu (.inr ⟨_,iu⟩) wE gv pB λve=>?_
  refine go 1<|sx 0 Q T Q Q (cells_one cS) G3 Q Q Q pB ?_
  exact .fin<|rg 3 0<|go 3<|bk jd (aE (xf+1),xg++([tj]:List BA),ve) H
 obtain⟨pj,vh⟩:=qb
 refine WP.seq<|wr 7 0<|jf 4 [0] ?_
 cases ci:(te==0)
 ·have H:=H.cf ci
  refine go 3<|WP.cond Q nofun (λ_=>?_)
  refine WP.skip<|wr 9 192<|gl 2 [1,0]<|Dv.gh (o4 (E':=[(0,vS a0),(1,sl dV.K a1),(4,iT ba),(5,iT bc),(6,vI xa),(7,iT bd),(95,vB false),(129,agg [vS xb,sl Event.K xc]),(130,agg [vS ta,vS a0,sl az pj.2.2,vS eE,vS tc,vI te])]) (l':=[ar bd 107 [vS ta,vS a0,sl az pj.2.2,vS eE,vS tc,vI te],ar bc 126 [vS xb,sl Event.K xc],ar ba 126 [vS eE,jQ],own dS vb.1 pg.2.2]++F) 4 Q (ao Q aB (ao Q aB (ao Q aB (ao Q aB (ao Q aB (ao Q aB (ao Q aB (ao Q aB (ao Q (sN (.cons aB (.cons aB (.cons jx (.cons aB (.cons aB (.cons aB .nil))))))) iG))))))))) (fI (.cons (pW (.cons aB (.cons aB (.cons jx (.cons aB (.cons aB (.cons aB .nil))))))) (.cons bn (.cons bn (.cons bn .nil)))) λ_=>bn)) (λ_ _=>?_)
  refine el H λtm hai H=>cl Q (cL 119) Q (eC.c hai)<|go 1<|dZ Q T Q Q<|dZ Q T Q Q<|al Q T pM nofun λbe=>sy 0 ?_
  refine go 1<|rg 2 2<|gl 1 [0]<|sy 2 ?_
  refine .fin ?_
  have H:=H.out
  refine ns 5 [0,1,2,3,4] 2 ?_
  exact jn ((pg.1,pj.1,pg.2.1,pj.2.1,false,tm.1.aj,tm.1.fL,pg.2.2),vb) H
 have H:=H.ct ci
 refine go 3<|cf H ?_ ?_ <;> intro H
 ·refine WP.skip<|wr 9 192<|gl 2 [1,0]<|Dv.gh (o4 (E':=[(0,vS a0),(1,sl dV.K a1),(4,iT ba),(5,iT bc),(6,vI xa),(7,iT bd),(95,vB (decide (0<xa))),(129,agg [vS xb,sl Event.K xc]),(130,agg [vS ta,vS a0,sl az pj.2.2,vS eE,vS tc,vI te])]) (l':=[ar bd 107 [vS ta,vS a0,sl az pj.2.2,vS eE,vS tc,vI te],ar bc 126 [vS xb,sl Event.K xc],ar ba 126 [vS eE,jQ],own dS vb.1 pg.2.2]++F) 4 Q (ao Q aB (ao Q aB (ao Q aB (ao Q aB (ao Q aB (ao Q aB (ao Q aB (ao Q aB (ao Q (sN (.cons aB (.cons aB (.cons jx (.cons aB (.cons aB (.cons aB .nil))))))) iG))))))))) (fI (.cons (pW (.cons aB (.cons aB (.cons jx (.cons aB (.cons aB (.cons aB .nil))))))) (.cons bn (.cons bn (.cons bn .nil)))) λ_=>bn)) (λ_ _=>?_)
  refine el H λtn haj H=>cl Q (cL 119) Q (eC.c haj)<|go 1<|dZ Q T Q Q<|dZ Q T Q Q<|al Q T pM nofun λbg=>sy 0 ?_
  refine go 1<|rg 2 2<|gl 1 [0]<|sy 2 ?_
  refine .fin ?_
  have H:=H.out
  refine ns 5 [0,1,2,3,4] 2 ?_
  exact jn ((pg.1,pj.1,pg.2.1,pj.2.1,decide (0<xa),tn.1.aj,tn.1.fL,pg.2.2),vb) H
 refine wr 9 0<|go 2<|gr H λgw H=>Dv.lE Q T Q Q Jf xO yS gw.1 gw.2<|fr Q T Q G0 Q<|nK Q T Q Hu Q<|go 2<|el H λtp hak H=>cl Q (cL 46) Q (dq.c hak)<|go 1<|wr 21 0<|gp 4 ?_
 cases cj:decide (tp<xa)
 ·have H:=H.cf cj
  refine go 17<|WP.cond Q nofun (λ_=>?_)
  refine WP.skip<|wr 9 192<|gl 2 [1,0]<|Dv.gh (o4 (E':=[(0,vS a0),(1,sl dV.K a1),(4,iT ba),(5,iT bc),(6,vI xa),(7,iT bd),(11,vI tp),(95,vB (decide (0<xa))),(124,vB false),(129,agg [vS xb,sl Event.K xc]),(130,agg [vS ta,vS a0,sl az pj.2.2,vS eE,vS tc,vI te])]) (l':=[ar bd 107 [vS ta,vS a0,sl az pj.2.2,vS eE,vS tc,vI te],ar bc 126 [vS xb,sl Event.K xc],ar ba 126 [vS eE,jQ],own dS vb.1 pg.2.2]++F) 4 Q (ao Q aB (ao Q aB (ao Q aB (ao Q aB (ao Q aB (ao Q aB (ao Q aB (ao Q aB (ao Q aB (ao Q aB (ao Q (sN (.cons aB (.cons aB (.cons jx (.cons aB (.cons aB (.cons aB .nil))))))) iG))))))))))) (fI (.cons (pW (.cons aB (.cons aB (.cons jx (.cons aB (.cons aB (.cons aB .nil))))))) (.cons bn (.cons bn (.cons bn .nil)))) λ_=>bn)) (λ_ _=>?_)
  refine el H λtq ham H=>cl Q (cL 119) Q (eC.c ham)<|go 1<|dZ Q T Q Q<|dZ Q T Q Q<|al Q T pM nofun λbh=>sy 0 ?_
  refine go 1<|rg 2 2<|gl 1 [0]<|sy 2 ?_
  refine .fin ?_
  have H:=H.out
  refine ns 5 [0,1,2,3,4] 2 ?_
  exact jn ((pg.1,pj.1,pg.2.1,pj.2.1,decide (0<xa),tq.1.aj,tq.1.fL,pg.2.2),vb) H
 have H:=H.ct cj
 refine gl 3 [1]<|gr H λgy H=>Dv.lE Q (gg Q) Q Q rN nb px gy.1 gy.2<|fr Q (gg Q) Q BK Q<|nK Q (gg Q) Q Hu Q<|gp 3 ?_
 cases ck:(((Event.K.at xc tp).cW)==0)
 ·have H:=H.cf ck
  refine go 8<|WP.cond Q nofun (λ_=>?_)
  refine WP.skip<|wr 9 192<|gl 2 [1,0]<|Dv.gh (o4 (E':=[(0,vS a0),(1,sl dV.K a1),(4,iT ba),(5,iT bc),(6,vI xa),(7,iT bd),(11,vI tp),(95,vB (decide (0<xa))),(124,vB false),(129,agg [vS xb,sl Event.K xc]),(130,agg [vS ta,vS a0,sl az pj.2.2,vS eE,vS tc,vI te])]) (l':=[ar bd 107 [vS ta,vS a0,sl az pj.2.2,vS eE,vS tc,vI te],ar bc 126 [vS xb,sl Event.K xc],ar ba 126 [vS eE,jQ],own dS vb.1 pg.2.2]++F) 4 Q (ao Q aB (ao Q aB (ao Q aB (ao Q aB (ao Q aB (ao Q aB (ao Q aB (ao Q aB (ao Q aB (ao Q aB (ao Q (sN (.cons aB (.cons aB (.cons jx (.cons aB (.cons aB (.cons aB .nil))))))) iG))))))))))) (fI (.cons (pW (.cons aB (.cons aB (.cons jx (.cons aB (.cons aB (.cons aB .nil))))))) (.cons bn (.cons bn (.cons bn .nil)))) λ_=>bn)) (λ_ _=>?_)
  refine el H λtu han H=>cl Q (cL 119) Q (eC.c han)<|go 1<|dZ Q T Q Q<|dZ Q T Q Q<|al Q T pM nofun λbi=>sy 0 ?_
  refine go 1<|rg 2 2<|gl 1 [0]<|sy 2 ?_
  refine .fin ?_
  have H:=H.out
  refine ns 5 [0,1,2,3,4] 2 ?_
  exact jn ((pg.1,pj.1,pg.2.1,pj.2.1,decide (0<xa),tu.1.aj,tu.1.fL,pg.2.2),vb) H
 have H:=H.ct ck
 refine gl 3 [1]<|gr H λgz H=>Dv.lE Q (gg Q) Q Q rN nb px gz.1 gz.2<|fr Q (gg Q) Q xB Q<|nK Q (gg Q) Q o6 Q<|go 2<|cf H ?_ ?_ <;> intro H
 ·refine WP.skip<|wr 9 192<|gl 2 [1,0]<|Dv.gh (o4 (E':=[(0,vS a0),(1,sl dV.K a1),(4,iT ba),(5,iT bc),(6,vI xa),(7,iT bd),(11,vI tp),(95,vB (decide (0<xa))),(124,vB (decide (((Event.K.at xc tp).ah)=eE))),(129,agg [vS xb,sl Event.K xc]),(130,agg [vS ta,vS a0,sl az pj.2.2,vS eE,vS tc,vI te])]) (l':=[ar bd 107 [vS ta,vS a0,sl az pj.2.2,vS eE,vS tc,vI te],ar bc 126 [vS xb,sl Event.K xc],ar ba 126 [vS eE,jQ],own dS vb.1 pg.2.2]++F) 4 Q (ao Q aB (ao Q aB (ao Q aB (ao Q aB (ao Q aB (ao Q aB (ao Q aB (ao Q aB (ao Q aB (ao Q aB (ao Q (sN (.cons aB (.cons aB (.cons jx (.cons aB (.cons aB (.cons aB .nil))))))) iG))))))))))) (fI (.cons (pW (.cons aB (.cons aB (.cons jx (.cons aB (.cons aB (.cons aB .nil))))))) (.cons bn (.cons bn (.cons bn .nil)))) λ_=>bn)) (λ_ _=>?_)
  refine el H λtv hao H=>cl Q (cL 119) Q (eC.c hao)<|go 1<|dZ Q T Q Q<|dZ Q T Q Q<|al Q T pM nofun λbj=>sy 0 ?_
  refine go 1<|rg 2 2<|gl 1 [0]<|sy 2 ?_
  refine .fin ?_
  have H:=H.out
  refine ns 5 [0,1,2,3,4] 2 ?_
  exact jn ((pg.1,pj.1,pg.2.1,pj.2.1,decide (0<xa),tv.1.aj,tv.1.fL,pg.2.2),vb) H
 refine rg 4 8<|go 1<|el H λtw hap H=>cl Q (cL 22) Q (dw.c hap)<|go 1<|sy 0 ?_
 refine .fin<|wr 9 192<|gl 2 [1,0]<|Dv.gh (o4 (E':=[(0,vS a0),(1,sl dV.K a1),(4,iT ba),(5,iT bc),(6,vI xa),(7,iT bd),(11,vI tp),(95,vB (decide (0<xa))),(124,vB (decide (((Event.K.at xc tp).ah)=eE))),(129,agg [vS xb,sl Event.K xc]),(130,agg [vS ta,vS a0,sl az pj.2.2,vS tw,vS tc,vI te])]) (l':=[ar bd 107 [vS ta,vS a0,sl az pj.2.2,vS tw,vS tc,vI te],ar bc 126 [vS xb,sl Event.K xc],ar ba 126 [vS eE,jQ],own dS vb.1 pg.2.2]++F) 4 Q (ao Q aB (ao Q aB (ao Q aB (ao Q aB (ao Q aB (ao Q aB (ao Q aB (ao Q aB (ao Q aB (ao Q aB (ao Q (sN (.cons aB (.cons aB (.cons jx (.cons aB (.cons aB (.cons aB .nil))))))) iG))))))))))) (fI (.cons (pW (.cons aB (.cons aB (.cons jx (.cons aB (.cons aB (.cons aB .nil))))))) (.cons bn (.cons bn (.cons bn .nil)))) λ_=>bn)) (λ_ _=>?_)
 refine el H λtx haq H=>cl Q (cL 119) Q (eC.c haq)<|go 1<|dZ Q T Q Q<|dZ Q T Q Q<|al Q T pM nofun λbl=>sy 0 ?_
 refine go 1<|rg 2 2<|gl 1 [0]<|sy 2 ?_
 refine .fin ?_
 have H:=H.out
 refine ns 5 [0,1,2,3,4] 2 ?_
 exact jn ((pg.1,pj.1,pg.2.1,pj.2.1,decide (0<xa),tx.1.aj,tx.1.fL,pg.2.2),vb) H
theorem oF.c (h:oF.f k a0 a1=some r):Tr prog 44 [sl dV.K a0,sl dV.K a1] [] (γ:=OV) (λ_=>True) (λg=>eq g.1) (λg=>[own Event.K g.1 r]):=by
 refine tf func44 h λR0 F H=>?_
 refine so<|so<|wr 7 32<|go 1<|el H λta haa H=>cl Q (cL 16) Q (iK.c haa)<|go 1<|el H λtc hac H=>cl Q (cL 71) Q (cI.c hac)<|Dv.fld Q T Q nv Q rN Q Q<|vg (dX Event.K none) λ_ _=>?_
 refine gr H λgb H=>ap Event.K 0 tc.fL dG rN (.inr ⟨_,rN⟩) vC gb nofun λva=>?_
 refine go 1<|wr 7 32<|go 1<|el H λte had H=>cl Q (cL 16) Q (iK.c had)<|go 1<|el H λtg hae H=>cl Q (cL 71) Q (cI.c hae)<|Dv.fld Q T Q nv Q rN Q Q<|gr H λgc H=>ap Event.K 0 tg.fL dG rN (.inr ⟨_,rN⟩) vC gc nofun λvb=>?_
 refine gq 1 ?_
 cases H.out;exact et vb 1 [0] 0
theorem oy.c (h:oy.f k a0 a1 a2 a3=some r):Tr prog 14 [sl dV.K a0,sl dV.K a1,vI a2,vI a3] [] (γ:=OV) (λ_=>True) (λg=>eq g.1) (λg=>[ig WS.O g r]):=by
 refine tf func14 h λR0 F H=>?_
 refine so<|wr 8 4<|go 2<|el H λta haa H=>cx 0 [] (cL 6) (l8.c haa) nofun λgb _=>?_
 refine go 1<|dZ Q T Q Q<|dZ Q T Q Q<|go 2<|WP.seq<|wr 6 0<|go 1<|Dv.Gx (λ_=>bY.nn) Q T Q Q U25 (ab 0 Q)<|gp 1 ?_
 rcases bm H with⟨ca,H⟩|⟨ca,H⟩
 rotate_left
 ·refine sh 18 ca<|sh 19 ca<|go 3<|WP.cond Q (λ_=>?_) nofun
  refine so<|wg (fW (O:=WS.O)) λ_ _=>?_
  cases H.out;exact et dK 2 [1,0] 1
 refine sh 18 ca<|sh 19 ca ?_
 refine go 3<|ce H ?_ ?_ <;> intro H
 ·refine WP.seq<|wg (gT 0 Q ca) λ_ _=>?_
  refine rg 1 0<|go 1<|wg (fW (O:=WS.O)) λ_ _=>?_
  cases H.out;exact et dK 2 [1,0] 1
 refine WP.skip<|WP.seq<|wg (gT 0 Q ca) λ_ _=>?_
 refine rg 10 320<|go 3<|el H λtc hac H=>cl Q (cL 43) Q (uG.c hac)<|go 2<|el H λte had H=>cx 1 [0] (cL 44) (oF.c had) nofun λgc _=>?_
 refine Dv.lD (qs:=[eq gb.1,vS tc.eZ,vI tc.bK,vI tc.aS,sl bq.K tc.fV.fD,sl MK.K tc.fM.fL,vI tc.fM.fP.bW,sl ak.K tc.fM.fP.fL,vI tc.fM.fP.bS,sl ak.K tc.fT.fL,sl dS tc.fT.cK,sl ak.K tc.fP.fL,sl (aP .i64) tc.fP.cK,sl mu.K tc.fL,vI tc.dL,sl iX.K tc.fQ,sl iY.K tc.fF,eq gc.1,vI 0]) (css:=[[eq gb.1],rL.enc tc,[eq gc.1]]) Q T U72 pl72 z72 Q ⟨(cells_one cS),⟨(bx (rL.K.one _)),⟨(cells_one cS),T⟩⟩⟩ Q Q<|Dv.box Q T Q cA nofun λba=>go 1<|wg (WS.shut (p:=(⟨.pointer (some ⟨ba,0,none⟩),Q⟩:OV)) (m:=(⟨ta.1.getD default,tc,te,0⟩:WS)) (ba,gb,gc) Q (pm 3 [0,2,1])) λ_ _=>?_
 cases H.out;exact et (⟨.pointer (some ⟨ba,0,none⟩),Q⟩:OV) 1 [0] 0
theorem kb.c (h:kb.f k a0 a1=some r):Pt prog 51 [agg (dm.enc a0),vS a1] (agg (bq.enc r)):=by
 refine pf func51 h λR0 F H=>?_
 refine wr 2 3<|Dv.box Q T Q cA nofun λba=>al Q T pM nofun λbc=>.fin<|sr H id [1,4] (λ_=>[]) (λ_=>[]) (λpa H=>?_) (λH=>?_)
 ·refine wr 3 4<|go 1<|Dv.lD (qs:=[vS a1,jQ]) (css:=[[vS a1]]) Q T nv DB AP Q ⟨(cells_one (ai Q)),T⟩ Q Q<|sy 0 ?_
  refine .fin ?_
  cases H.out;exact r2 i2 Q (.cons (sW (aL Q nv Q nZ (ab 0 Q) Q) (qR (.cons cG (.cons kT .nil)))) .nil)
 refine so<|WP.block<|ws 2 [0,1] 0 ?_
 refine lq (λj_ (pc:Int)=>kb.l0 k a0 a1 j_ pc) 0 H [1,2,4] (λpc=>[(5,vI pc)]) (λ_=>[]) ?_
 rintro j_ xa H
 rcases j_ with _ | ja
 ·exact(aW.no H).elim
 try dsimp only at H
 rw [kb.l0] at H
 refine WP.seq<|wr 5 0<|gl 3 [1]<|Dv.jw Q T Q zQ<|go 1<|cf H ?_ ?_ <;> intro H
 ·refine WP.exit ?_
  have H:=H.out
  exact jn (xa,decide (xa<(a0.fD.length:Int))) H
 refine WP.skip<|WP.seq<|WP.block<|wr 8 0<|gl 3 [1]<|gr H λgb H=>Dv.lE Q T Q Q zQ nv nZ gb.1 gb.2<|fr Q T Q xj Q<|nK Q T Q o6 Q<|go 2<|cf H ?_ ?_ <;> intro H
 ·exact WP.skip<|rg 3 0<|go 3<|bk ja (aE (xa+1)) H
 refine wr 6 32<|gl 3 [1]<|gr H λgc H=>Dv.lE Q T Q Q zQ nv nZ gc.1 gc.2<|mY Q T Q HM Q<|sy 0 ?_
 refine .fin ?_
 have H:=H.cH
 cases H.out;exact r2 i2 Q (.cons (aL Q nv Q nZ (ab 0 Q) Q) .nil)
theorem eT.c (h:eT.f k a0 a1=some r):Pt prog 72 [agg (dm.enc a0),agg (Event.enc a1)] (lg [agg (dm.enc r.1),vI r.2]):=by
 refine pf func72 h λR0 F H=>?_
 refine wr 4 7<|Dv.box Q T Q cA nofun λba=>Dv.box Q T Q cA nofun λbc=>al Q T zc54 nofun λbd=>go 1<|wd mX 12 1536<|gl 3 [2,1]<|el H λta haa H=>cl Q (cL 51) Q (kb.c haa)<|gl 1 [1]<|el H λtc hac H=>cl Q (cL 119) Q (eC.c hac)<|go 1<|dZ Q T Q Q<|dZ Q T Q Q<|al Q T pM pD λbe=>sx 0 Q T Q Q cA sz126 Q Q Q pD ?_
 refine go 1<|WP.seq<|so<|ce H ?_ ?_ <;> intro H
 ·refine wr 4 4<|gl 2 [3]<|sy 1 ?_
  refine gq 1 ?_
  cases H.out;exact r4 i2 Q (.cons (aL Q U54 Q c54 (ab 1 Q) Q) (.cons (aQ Q) .nil))
 refine WP.skip<|so<|so<|WP.kW H (λqa:(Bool×Int×Bool×(List bq))×OV=>qa.1) (λqa=>[(4,iT bd),(6,iT be),(8,eq qa.2.1),(9,vB qa.1.1)]) (λqa=>[ar be 126 (bq.enc tc.1),ar bd 54 [jQ],ar bc 107 (Event.enc a1),ar ba 54 (dm.enc a0),own bq.K qa.2.1 qa.1.2.2.2]++F) (λqa H=>?_) (λH=>?_)
 ·obtain⟨pa,va⟩:=qa
  refine WP.seq<|so<|cf H ?_ ?_ <;> intro H
  ·refine WP.skip<|wr 4 4<|go 1<|Dv.lD (qs:=[eq va.1]) (css:=[[eq va.1]]) Q T U54 pl54 z54 Q ⟨(cells_one cS),T⟩ Q Q<|sy 1 ?_
   refine go 1<|fz 4 [4,5] [0,1] ?_
   cases H.out;exact r4 i2 Q (.cons (aL Q U54 Q c54 (ab 1 Q) Q) (.cons (aQ Q) .nil))
  refine rg 5 8<|gl 2 [0]<|Dv.lit bq.K ([tc.1]:List bq) (css:=[bq.enc tc.1]) Q T zQ nv nZ AP Q dc dc Q ⟨(bx (bq.K.one _)),T⟩ Q Q Q<|gr H λgb H=>ap bq.K 4 ([tc.1]:List bq) dG zQ (.inr ⟨_,zQ⟩) AO gb nofun λvb=>?_
  refine go 1<|wr 4 4<|go 1<|Dv.lD (qs:=[eq vb.1]) (css:=[[eq vb.1]]) Q T U54 pl54 z54 Q ⟨(cells_one cS),T⟩ Q Q<|sy 1 ?_
  refine go 1<|fz 4 [4,5] [0,1] ?_
  cases H.out;exact r4 i2 Q (.cons (aL Q U54 Q c54 (ab 1 Q) Q) (.cons (aQ Q) .nil))
 refine so<|WP.block<|wg (dX bq.K none) λ_ _=>?_
 refine ws 5 [1,2,3,4,0] 0 ?_
 refine lq (λj_ (pc:Bool×Int×(List bq)×OV)=>eT.l0 k a0 a1 tc j_ pc.1 pc.2.1 pc.2.2.1) (false,0,([]:List bq),iQ) H [2,3,4,6] (λpc=>[(8,eq pc.2.2.2.1),(9,vB pc.1),(10,vI pc.2.1)]) (λpc=>[(4,own bq.K pc.2.2.2.1 pc.2.2.1)]) ?_
 rintro j_ ⟨xa,xb,xc,vd⟩ H
 rcases j_ with _ | ja
 ·exact(aW.no H).elim
 try dsimp only at H
 rw [eT.l0] at H
 refine WP.seq<|wr 5 0<|gl 3 [3]<|Dv.jw Q T Q zQ<|go 1<|cf H ?_ ?_ <;> intro H
 ·refine WP.exit ?_
  have H:=H.out
  exact jn ((xa,xb,decide (xb<(a0.fD.length:Int)),xc),vd) H
 refine WP.skip<|WP.seq<|WP.block<|WP.kW H (λqb:(Bool×Bool×(List bq))×OV=>qb.1) (λqb=>[(2,iT ba),(3,iT bc),(4,iT bd),(6,iT be),(8,eq qb.2.1),(9,vB qb.1.1),(10,vI xb)]) (λqb=>[ar be 126 (bq.enc tc.1),ar bd 54 [jQ],ar bc 107 (Event.enc a1),ar ba 54 (dm.enc a0),own bq.K qb.2.1 qb.1.2.2]++F) (λqb H=>?_) (λH=>?_)
 ·obtain⟨pe,ve⟩:=qb
  refine wd mX 9 0<|gl 3 [3]<|gr H λgc H=>Dv.lE Q T Q Q zQ nv nZ gc.1 gc.2<|fr Q T Q xj Q<|nK Q T Q o6 Q<|gl 3 [2]<|cf H ?_ ?_ <;> intro H
  ·exact WP.skip<|rg 3 0<|go 3<|bk ja (pe.1,aE (xb+1),pe.2.2,ve) H
  refine rg 9 128<|gl 4 [3]<|gr H λgi H=>Dv.lE Q T Q Q zQ nv nZ gi.1 gi.2<|mY Q T Q HM Q<|Dv.lit bq.K ([bq.K.at a0.fD xb]:List bq) (css:=[bq.enc (bq.K.at a0.fD xb)]) Q T zQ nv nZ AP Q dc dc Q ⟨(bx (bq.K.one _)),T⟩ Q Q Q<|gr H λgj H=>ap bq.K 4 ([bq.K.at a0.fD xb]:List bq) dG zQ (.inr ⟨_,zQ⟩) AO gj nofun λvh=>?_
  exact go 1<|rg 3 0<|go 3<|bk ja (pe.1,aE (xb+1),pe.2.2++([bq.K.at a0.fD xb]:List bq),vh) H
 refine wd mX 13 0<|gp 3 ?_
 cases ca:!xa
 ·have H:=H.cf ca
  refine go 10<|WP.cond Q nofun (λ_=>?_)
  refine WP.skip ?_
  have H:=H.out
  exact jn ((xa,false,xc),vd) H
 have H:=H.ct ca
 refine gl 5 [2,3]<|gr H λgk H=>Dv.lE Q (gg Q) Q Q zQ nv nZ gk.1 gk.2<|fr Q (gg Q) Q xj Q<|nK Q (gg Q) Q o6 Q<|go 2<|cf H ?_ ?_ <;> intro H
 ·refine WP.skip ?_
  have H:=H.out
  exact jn ((xa,!il ((bq.K.at a0.fD xb).aj) a1.aj,xc),vd) H
 refine wr 5 8<|gl 2 [0]<|Dv.lit bq.K ([tc.1]:List bq) (css:=[bq.enc tc.1]) Q T zQ nv nZ AP Q dc dc Q ⟨(bx (bq.K.one _)),T⟩ Q Q Q<|gr H λgn H=>ap bq.K 4 ([tc.1]:List bq) dG zQ (.inr ⟨_,zQ⟩) AO gn nofun λvi=>?_
 refine go 1<|rg 1 0<|gq 1 ?_
 have H:=H.out
 exact jn ((true,!il ((bq.K.at a0.fD xb).aj) a1.aj,xc++([tc.1]:List bq)),vi) H
theorem eg.c (h:eg.f k a0 a1=some r):Pt prog 85 [agg (bq.enc a0),vS a1] (vI r):=by
 refine pf func85 h λR0 F H=>?_
 refine wr 2 1<|Dv.box Q T Q cA nofun λba=>go 1<|wr 4 0<|gl 2 [0]<|el H λta haa H=>cl Q (cL 52) Q (fh.c haa)<|go 1<|WP.seq<|so<|ce H ?_ ?_ <;> intro H
 ·refine sp ?_
  cases H.out;exact ek 1
 refine WP.skip<|wr 4 4<|go 2<|gr H λgb H=>?_
 obtain⟨ti2523,ti2523a,ti2523b,ti2523c,ti2523d⟩:=inf3
 refine Dv.mks (Kd:=(aP .i64)) (0:Int) Q T Q Q yn ti2523a ti2523b ti2523c ti2523d Q dc Q gb nofun (λva=>?_)
 refine go 1<|WP.kW H id (λpa=>[(5,vI ta),(6,eq va.1)]) (λpa=>[ar ba 126 (bq.enc a0),own (aP .i64) va.1 pa.2.2]++F) (λpa H=>?_) (λH=>?_)
 ·refine wr 5 0<|go 2<|gr H λgc H=>?_
  have hac:ta.toNat<pa.2.2.length:=cQ gc
  refine Dv.na Q T Q (ab 1 Q) Q yn U3 c3 gc.1 gc.2<|Dv.D5 (j:=ta.toNat) (f:=0) (p:=vI (pa.2.2.getD ta.toNat default)) Q T Q (ab 1 Q) hac U3 Q Q<|gq 1 ?_
  cases H.out;exact ek 2
 refine so<|WP.block<|ws 2 [1,0] 0 ?_
 refine lq (λj_ (pc:Int×(List Int))=>eg.l0 k a0 ta j_ pc.1 pc.2) (0,List.replicate (aE (ta+1)).toNat (0:Int)) H [2,5,6] (λpc=>[(7,vI pc.1)]) (λpc=>[(1,own (aP .i64) va.1 pc.2)]) ?_
 rintro j_ ⟨xa,xb⟩ H
 rcases j_ with _ | ja
 ·exact(aW.no H).elim
 try dsimp only at H
 rw [eg.l0] at H
 refine WP.seq<|so<|cf H ?_ ?_ <;> intro H
 ·refine WP.exit ?_
  have H:=H.out
  exact jn (xa,decide (xa<=ta),xb) H
 refine WP.skip<|WP.kW H id (λpe=>[(2,iT ba),(5,vI ta),(6,eq va.1),(7,vI xa)]) (λpe=>[ar ba 126 (bq.enc a0),own (aP .i64) va.1 pe.2.2]++F) (λpe H=>?_) (λH=>?_)
 ·exact rg 3 0<|go 3<|bk ja (aE (xa+1),pe.2.2) H
 refine WP.block<|so<|WP.block<|ws 2 [0,1] 0 ?_
 refine lq (λj_ (pg:Int×(List Int))=>eg.l1 k a0 xa j_ pg.1 pg.2) (0,xb) H [2,5,6,7] (λpg=>[(8,vI pg.1)]) (λpg=>[(1,own (aP .i64) va.1 pg.2)]) ?_
 rintro j_ ⟨xc,xd⟩ H
 rcases j_ with _ | jc
 ·exact(aW.no H).elim
 try dsimp only at H
 rw [eg.l1] at H
 refine WP.seq<|wr 9 0<|gl 4 [0]<|gr H λgi H=>Dv.lE Q T Q Q rN nb px gi.1 gi.2<|fr Q T Q Bk Q<|nK Q T Q sc23 Q<|Dv.jw Q T Q iu<|go 1<|cf H ?_ ?_ <;> intro H
 ·refine WP.exit ?_
  have H:=H.out
  exact jn (xc,decide (xc<(((Event.K.at a0.fL xa).ag).length:Int)),xd) H
 refine WP.skip<|WP.seq<|WP.block<|dg mX 24 8388608<|go 4<|gr H λgj H=>?_
 have had:xa.toNat<xd.length:=cQ gj
 refine Dv.na Q T Q (ab 1 Q) Q yn U3 c3 gj.1 gj.2<|Dv.D5 (j:=xa.toNat) (f:=0) (p:=vI (xd.getD xa.toNat default)) Q T Q (ab 1 Q) had U3 Q Q<|gl 5 [0,0]<|gr H λgk H=>Dv.lE Q T Q Q rN nb px gk.1 gk.2<|fr Q T Q Bk Q<|nK Q T Q sc23 Q<|go 1<|gr H λgn H=>Dv.lE Q T Q Q iu U9 c9 gn.1 gn.2<|nK Q T Q o6 Q<|el H λtc hae H=>cl Q (cL 52) Q (fh.c hae)<|gr H λgt H=>?_
 have haf:tc.toNat<xd.length:=cQ gt
 refine Dv.na Q T Q (ab 1 Q) Q yn U3 c3 gt.1 gt.2<|Dv.D5 (j:=tc.toNat) (f:=0) (p:=vI (xd.getD tc.toNat default)) Q T Q (ab 1 Q) haf U3 Q Q<|go 1<|Dv.Ch Q T Q Q<|gr H λgu H=>?_
 have hag:xa.toNat<xd.length:=cQ gu
 exact Dv.na Q T Q (ab 1 Q) Q yn U3 c3 gu.1 gu.2<|Dv.Ff (j:=xa.toNat) (f:=0) (jj:=1) (max (xd.getD xa.toNat default) (aE ((xd.getD tc.toNat default)+1))) Q T Q Q (cells_one (ai Q)) U3 c3 Q Q hag (Nat.le_of_ble_eq_true Q) Q (λ_=>ee kr)<|.fin<|rg 3 0<|go 3<|bk jc (aE (xc+1),xd.set xa.toNat (max (xd.getD xa.toNat default) (aE ((xd.getD tc.toNat default)+1)))) H
theorem kh.c (h:kh.f k a0 a1=some r):Pt prog 53 [agg (bq.enc a0),vS a1] (agg (Pos.enc r)):=by
 refine pf func53 h λR0 F H=>?_
 refine wr 2 3<|Dv.box Q T Q cA nofun λba=>al Q T nu nofun λbc=>.fin<|wr 6 32<|gl 2 [1]<|el H λta haa H=>cl Q (cL 85) Q (eg.c haa)<|go 1<|Dv.lD (qs:=[vI ta,vS a1]) (css:=[[vI ta],[vS a1]]) Q T uA Ct z49 Q ⟨(cells_one (ai Q)),⟨(cells_one (ai Q)),T⟩⟩ Q Q<|sy 0 ?_
 refine .fin ?_
 cases H.out;exact r2 i2 Q (.cons (aL Q uA Q yF (ab 0 Q) Q) .nil)
theorem eS.c (h:eS.f k a0 a1 a2=some r):Pt prog 23 [agg (dm.enc a0),vS a1,vS a2] (lg [agg (Pos.enc r.1),vB r.2]):=by
 refine pf func23 h λR0 F H=>?_
 refine wr 3 3<|Dv.box Q T Q cA nofun λba=>al Q T nu nofun λbc=>go 1<|wr 5 24<|gl 2 [1]<|el H λta haa H=>cl Q (cL 51) Q (kb.c haa)<|al Q T pM nofun λbd=>sy 0 ?_
 refine .fin<|WP.seq<|wr 4 0<|gl 2 [0]<|el H λtc hac H=>cl Q (cL 52) Q (fh.c hac)<|go 1<|cf H ?_ ?_ <;> intro H
 ·refine WP.skip<|wr 5 8<|gl 2 [0]<|el H λte had H=>cl Q (cL 53) Q (kh.c had)<|sy 1 ?_
  refine gq 1 ?_
  cases H.out;exact r3 i2 Q (.cons (aL Q uA Q yF (ab 1 Q) Q) (.cons (aQ Q) .nil))
 refine wr 3 2<|Dv.lD (qs:=[vI 0,vS eE]) (css:=[]) Q T uA Ct z49 Q T Q Q<|sy 1 ?_
 refine gq 1 ?_
 cases H.out;exact r3 i2 Q (.cons (aL Q uA Q yF (ab 1 Q) Q) (.cons (aQ Q) .nil))
theorem lu.c (h:lu.f k a0 a1 a2=some r):Tr prog 120 [agg (iH.enc a0),vS a1,vS a2] [] (γ:=OV) (λ_=>True) (λg=>lg [agg (iH.enc r.1),eq g.1]) (λg=>[own ak.K g.1 r.2]):=by
 refine tf func120 h λR0 F H=>?_
 refine wr 3 3<|Dv.box Q T Q cA nofun λba=>al Q T Fo nofun λbc=>go 1<|so<|so<|WP.kW H (λqa:(Int×Bool×(List ak)×(List ak))×OV×OV=>qa.1) (λqa=>[(3,iT ba),(6,iT bc),(8,eq qa.2.1.1),(9,eq qa.2.2.1)]) (λqa=>[ar bc 57 [vI 0,jQ,vI 0],ar ba 57 (iH.enc a0),own ak.K qa.2.1.1 qa.1.2.2.1,own ak.K qa.2.2.1 qa.1.2.2.2]++F) (λqa H=>?_) (λH=>?_)
 ·obtain⟨pa,va,vb⟩:=qa
  refine wr 9 128<|gl 5 [1,1]<|Dv.lD (qs:=[vI a0.bW,eq vb.1,vI a0.bS]) (css:=[[vI a0.bW],[eq vb.1],[vI a0.bS]]) Q T Hb FK z57 Q ⟨(cells_one (ai Q)),⟨(cells_one cS),⟨(cells_one (ai Q)),T⟩⟩⟩ Q Q<|go 1<|sy 0 ?_
  refine go 1<|fz 3 [6,7] [1] ?_
  obtain rfl:=aW.out H
  exact rt i2 Q va 3 [0,1,2] 2 (.cons (aL Q Hb Q HN (ab 0 Q) Q) (.cons (aQ Q) .nil))
 refine so<|WP.block<|wg (dX ak.K none) λ_ _=>?_
 refine wg (dX ak.K none) λ_ _=>?_
 refine ws 4 [2,3,1,0] 0 ?_
 refine lq (λj_ (pc:Int×(List ak)×(List ak)×OV×OV)=>lu.l0 k a0 a1 a2 j_ pc.1 pc.2.1 pc.2.2.1) (0,([]:List ak),([]:List ak),iQ,HT) H [1,2,3,6] (λpc=>[(8,eq pc.2.2.2.1.1),(9,eq pc.2.2.2.2.1),(10,vI pc.1)]) (λpc=>[(2,own ak.K pc.2.2.2.1.1 pc.2.1),(3,own ak.K pc.2.2.2.2.1 pc.2.2.1)]) ?_
 rintro j_ ⟨xa,xb,xc,vd,ve⟩ H
 rcases j_ with _ | ja
 ·exact(aW.no H).elim
 try dsimp only at H
 rw [lu.l0] at H
 refine WP.seq<|wr 5 0<|gl 3 [1]<|Dv.jw Q T Q fk<|go 1<|cf H ?_ ?_ <;> intro H
 ·refine WP.exit ?_
  have H:=H.out
  exact jn ((xa,decide (xa<(a0.fL.length:Int)),xb,xc),vd,ve) H
 refine WP.skip<|WP.seq<|WP.block<|wr 18 0<|gl 3 [1]<|gr H λgb H=>Dv.lE Q T Q Q fk fO ij gb.1 gb.2<|fr Q T Q Az Q<|nK Q T Q o6 Q<|gp 3 ?_
 cases ca:decide (((ak.K.at a0.fL xa).aj)=a1)
 ·have H:=H.cf ca
  refine go 9<|WP.cond Q nofun (λ_=>?_)
  refine rg 9 128<|gl 4 [1]<|gr H λgc H=>Dv.lE Q T Q Q fk fO ij gc.1 gc.2<|mY Q T Q nP Q<|Dv.lit ak.K ([ak.K.at a0.fL xa]:List ak) (css:=[ak.enc (ak.K.at a0.fL xa)]) Q T fk fO ij z80 Q dc dc Q ⟨(bx (ak.K.one _)),T⟩ Q Q Q<|gr H λgi H=>ap ak.K 3 ([ak.K.at a0.fL xa]:List ak) dG fk (.inr ⟨_,fk⟩) qp gi nofun λvh=>?_
  exact go 1<|rg 3 0<|go 3<|bk ja (aE (xa+1),xb,xc++([ak.K.at a0.fL xa]:List ak),vd,vh) H
 have H:=H.ct ca
 refine gl 3 [1]<|gr H λgj H=>Dv.lE Q (gg Q) Q Q fk fO ij gj.1 gj.2<|fr Q (gg Q) Q zV Q<|nK Q (gg Q) Q o6 Q<|go 3<|ce H ?_ ?_ <;> intro H
 ·refine rg 9 128<|gl 4 [1]<|gr H λgk H=>Dv.lE Q T Q Q fk fO ij gk.1 gk.2<|mY Q T Q nP Q<|Dv.lit ak.K ([ak.K.at a0.fL xa]:List ak) (css:=[ak.enc (ak.K.at a0.fL xa)]) Q T fk fO ij z80 Q dc dc Q ⟨(bx (ak.K.one _)),T⟩ Q Q Q<|gr H λgn H=>ap ak.K 2 ([ak.K.at a0.fL xa]:List ak) dG fk (.inr ⟨_,fk⟩) qp gn nofun λvi=>?_
  exact go 1<|rg 3 0<|go 3<|bk ja (aE (xa+1),xb++([ak.K.at a0.fL xa]:List ak),xc,vi,ve) H
 refine rg 9 128<|gl 4 [1]<|gr H λgt H=>Dv.lE Q T Q Q fk fO ij gt.1 gt.2<|mY Q T Q nP Q<|Dv.lit ak.K ([ak.K.at a0.fL xa]:List ak) (css:=[ak.enc (ak.K.at a0.fL xa)]) Q T fk fO ij z80 Q dc dc Q ⟨(bx (ak.K.one _)),T⟩ Q Q Q<|gr H λgu H=>ap ak.K 3 ([ak.K.at a0.fL xa]:List ak) dG fk (.inr ⟨_,fk⟩) qp gu nofun λvj=>?_
 exact go 1<|rg 3 0<|go 3<|bk ja (aE (xa+1),xb,xc++([ak.K.at a0.fL xa]:List ak),vd,vj) H
theorem nt.c (h:nt.f k a0=some r):Pt prog 88 [vS a0] (vB r):=by
 refine pf func88 h λR0 F H=>?_
 refine so<|wr 3 0<|go 1<|el H λta haa H=>cl Q (cL 87) Q (cZ.c haa)<|go 1<|wr 10 0<|gp 3 ?_
 cases ca:decide (a0=eE)
 rotate_left
 ·have H:=H.ct ca
  refine gq 7 ?_
  cases H.out;exact ek 0
 have H:=H.cf ca
 refine gp 4 ?_
 cases cb:decide (a0=(⟨#[109,97,105,110]⟩:BA))
 rotate_left
 ·have H:=H.ct cb
  refine gq 3 ?_
  cases H.out;exact ek 0
 have H:=H.cf cb
 refine gq 3 ?_
 cases H.out;exact ek 0
theorem iC.c (h:iC.f k a0=some r):Pt prog 54 [agg (ak.enc a0)] (vB r):=by
 refine pf func54 h λR0 F H=>?_
 refine wr 2 1<|Dv.box Q T Q cA nofun λba=>go 1<|wr 4 0<|gl 2 [0]<|el H λta haa H=>cl Q (cL 86) Q (jC.c haa)<|go 1<|wr 4 0<|gl 2 [0]<|el H λtc hac H=>cl Q (cL 86) Q (jC.c hac)<|go 1<|wr 4 0<|gl 2 [0]<|el H λte had H=>cl Q (cL 87) Q (cZ.c had)<|go 1<|wr 4 0<|gl 2 [0]<|el H λtg hae H=>cl Q (cL 88) Q (nt.c hae)<|go 1<|WP.seq<|wr 22 0<|gp 3 ?_
 cases ca:!ta
 rotate_left
 ·have H:=H.ct ca
  refine go 19<|WP.cond Q (λ_=>?_) nofun
  refine sp ?_
  cases H.out;exact ek 1
 have H:=H.cf ca
 refine jf 5 [0] ?_
 cases cb:decide (a0.bK<0)
 rotate_left
 ·have H:=H.ct cb
  refine go 14<|WP.cond Q (λ_=>?_) nofun
  refine sp ?_
  cases H.out;exact ek 1
 have H:=H.cf cb
 refine jf 5 [0] ?_
 cases cg:decide (1099511627776<a0.bK)
 rotate_left
 ·have H:=H.ct cg
  refine go 9<|WP.cond Q (λ_=>?_) nofun
  refine sp ?_
  cases H.out;exact ek 1
 have H:=H.cf cg
 refine jf 5 [0] ?_
 cases ci:decide (a0.aS<0)
 rotate_left
 ·have H:=H.ct ci
  refine go 4<|WP.cond Q (λ_=>?_) nofun
  refine sp ?_
  cases H.out;exact ek 1
 have H:=H.cf ci
 refine gl 4 [0]<|ce H ?_ ?_ <;> intro H
 ·refine sp ?_
  cases H.out;exact ek 1
 refine WP.skip<|WP.seq<|wu [0]<|WP.block<|so<|ce H ?_ ?_ <;> intro H
 ·refine wr 23 0<|gp 2 ?_
  cases cj:tc
  ·have H:=H.cf cj
   refine gq 21 ?_
   cases H.out;exact ek 1
  have H:=H.ct cj
  refine gp 3 ?_
  cases ck:te
  ·have H:=H.cf ck
   refine gq 18 ?_
   cases H.out;exact ek 1
  have H:=H.ct ck
  refine gp 3 ?_
  cases cn:tg
  ·have H:=H.cf cn
   refine gq 15 ?_
   cases H.out;exact ek 1
  have H:=H.ct cn
  refine jf 5 [0] ?_
  cases co:!a0.lO
  ·have H:=H.cf co
   refine gq 10 ?_
   cases H.out;exact ek 1
  have H:=H.ct co
  refine jf 5 [0] ?_
  cases cp:(a0.cX==0)
  ·have H:=H.cf cp
   refine gq 5 ?_
   cases H.out;exact ek 1
  have H:=H.ct cp
  refine E9 5 [0] ?_
  cases H.out;exact ek 1
 refine so<|cf H ?_ ?_ <;> intro H
 ·refine so<|cf H ?_ ?_ <;> intro H
  ·refine WP.skip<|sp ?_
   cases H.out;exact ek 1
  refine wr 39 0<|jf 4 [0] ?_
  cases cq:decide (a0.aj=eE)
  ·have H:=H.cf cq
   refine gq 35 ?_
   cases H.out;exact ek 1
  have H:=H.ct cq
  refine jf 5 [0] ?_
  cases cr:decide (a0.bP=eE)
  ·have H:=H.cf cr
   refine gq 30 ?_
   cases H.out;exact ek 1
  have H:=H.ct cr
  refine jf 5 [0] ?_
  cases cu:decide (a0.ah=eE)
  ·have H:=H.cf cu
   refine gq 25 ?_
   cases H.out;exact ek 1
  have H:=H.ct cu
  refine jf 5 [0] ?_
  cases cw:!a0.lO
  ·have H:=H.cf cw
   refine gq 20 ?_
   cases H.out;exact ek 1
  have H:=H.ct cw
  refine jf 5 [0] ?_
  cases cy:(a0.cX==0)
  ·have H:=H.cf cy
   refine gq 15 ?_
   cases H.out;exact ek 1
  have H:=H.ct cy
  refine jf 5 [0] ?_
  cases cz:!a0.ay
  ·have H:=H.cf cz
   refine gq 10 ?_
   cases H.out;exact ek 1
  have H:=H.ct cz
  refine jf 5 [0] ?_
  cases caa:decide (0<=a0.bU)
  ·have H:=H.cf caa
   refine gq 5 ?_
   cases H.out;exact ek 1
  have H:=H.ct caa
  refine E9 5 [0] ?_
  cases H.out;exact ek 1
 refine wr 23 0<|jf 3 [0] ?_
 cases cab:a0.lO
 ·have H:=H.cf cab
  refine jf 14 [0] ?_
  cases cac:!a0.lO
  ·have H:=H.cf cac
   refine go 6<|wr 25 0<|gp 2 ?_
   cases cad:tc
   ·have H:=H.cf cad
    refine gq 23 ?_
    cases H.out;exact ek 1
   have H:=H.ct cad
   refine gq 23 ?_
   cases H.out;exact ek 1
  have H:=H.ct cac
  refine gl 6 [0]<|wr 25 0<|gp 2 ?_
  cases cae:tc
  ·have H:=H.cf cae
   refine gq 23 ?_
   cases H.out;exact ek 1
  have H:=H.ct cae
  refine gp 3 ?_
  cases caf:(a0.cX==0)
  ·have H:=H.cf caf
   refine gq 20 ?_
   cases H.out;exact ek 1
  have H:=H.ct caf
  refine jf 5 [0] ?_
  cases cag:decide (a0.bP=eE)
  ·have H:=H.cf cag
   refine gq 15 ?_
   cases H.out;exact ek 1
  have H:=H.ct cag
  refine jf 5 [0] ?_
  cases cah:decide (a0.ah=eE)
  ·have H:=H.cf cah
   refine gq 10 ?_
   cases H.out;exact ek 1
  have H:=H.ct cah
  refine jf 5 [0] ?_
  cases cai:(a0.bU==0)
  ·have H:=H.cf cai
   refine gq 5 ?_
   cases H.out;exact ek 1
  have H:=H.ct cai
  refine E9 5 [0] ?_
  cases H.out;exact ek 1
 have H:=H.ct cab
 refine jf 5 [0] ?_
 cases caj:decide (1<=a0.cX)
 ·have H:=H.cf caj
  refine jf 9 [0] ?_
  cases cak:!a0.lO
  ·have H:=H.cf cak
   refine go 6<|wr 25 0<|gp 2 ?_
   cases cal:tc
   ·have H:=H.cf cal
    refine gq 23 ?_
    cases H.out;exact ek 1
   have H:=H.ct cal
   refine gq 23 ?_
   cases H.out;exact ek 1
  have H:=H.ct cak
  refine gl 6 [0]<|wr 25 0<|gp 2 ?_
  cases cam:tc
  ·have H:=H.cf cam
   refine gq 23 ?_
   cases H.out;exact ek 1
  have H:=H.ct cam
  refine gp 3 ?_
  cases can:(a0.cX==0)
  ·have H:=H.cf can
   refine gq 20 ?_
   cases H.out;exact ek 1
  have H:=H.ct can
  refine jf 5 [0] ?_
  cases cao:decide (a0.bP=eE)
  ·have H:=H.cf cao
   refine gq 15 ?_
   cases H.out;exact ek 1
  have H:=H.ct cao
  refine jf 5 [0] ?_
  cases caq:decide (a0.ah=eE)
  ·have H:=H.cf caq
   refine gq 10 ?_
   cases H.out;exact ek 1
  have H:=H.ct caq
  refine jf 5 [0] ?_
  cases car:(a0.bU==0)
  ·have H:=H.cf car
   refine gq 5 ?_
   cases H.out;exact ek 1
  have H:=H.ct car
  refine E9 5 [0] ?_
  cases H.out;exact ek 1
 have H:=H.ct caj
 refine jf 5 [0] ?_
 cases cas:decide (a0.cX<=60)
 rotate_left
 ·have H:=H.ct cas
  refine go 10<|wr 25 0<|gp 2 ?_
  cases cat:tc
  ·have H:=H.cf cat
   refine gq 23 ?_
   cases H.out;exact ek 1
  have H:=H.ct cat
  refine jf 8 [0] ?_
  cases cau:decide (a0.bP=eE)
  ·have H:=H.cf cau
   refine gq 15 ?_
   cases H.out;exact ek 1
  have H:=H.ct cau
  refine jf 5 [0] ?_
  cases cav:decide (a0.ah=eE)
  ·have H:=H.cf cav
   refine gq 10 ?_
   cases H.out;exact ek 1
  have H:=H.ct cav
  refine jf 5 [0] ?_
  cases caw:(a0.bU==0)
  ·have H:=H.cf caw
   refine gq 5 ?_
   cases H.out;exact ek 1
  have H:=H.ct caw
  refine E9 5 [0] ?_
  cases H.out;exact ek 1
 have H:=H.cf cas
 refine jf 4 [0] ?_
 cases cax:!a0.lO
 ·have H:=H.cf cax
  refine go 6<|wr 25 0<|gp 2 ?_
  cases cay:tc
  ·have H:=H.cf cay
   refine gq 23 ?_
   cases H.out;exact ek 1
  have H:=H.ct cay
  refine gq 23 ?_
  cases H.out;exact ek 1
 have H:=H.ct cax
 refine gl 6 [0]<|wr 25 0<|gp 2 ?_
 cases caz:tc
 ·have H:=H.cf caz
  refine gq 23 ?_
  cases H.out;exact ek 1
 have H:=H.ct caz
 refine gp 3 ?_
 cases cba:(a0.cX==0)
 ·have H:=H.cf cba
  refine gq 20 ?_
  cases H.out;exact ek 1
 have H:=H.ct cba
 refine jf 5 [0] ?_
 cases cbb:decide (a0.bP=eE)
 ·have H:=H.cf cbb
  refine gq 15 ?_
  cases H.out;exact ek 1
 have H:=H.ct cbb
 refine jf 5 [0] ?_
 cases cbc:decide (a0.ah=eE)
 ·have H:=H.cf cbc
  refine gq 10 ?_
  cases H.out;exact ek 1
 have H:=H.ct cbc
 refine jf 5 [0] ?_
 cases cbd:(a0.bU==0)
 ·have H:=H.cf cbd
  refine gq 5 ?_
  cases H.out;exact ek 1
 have H:=H.ct cbd
 refine E9 5 [0] ?_
 cases H.out;exact ek 1
theorem qF.c (h:qF.f a0=some r):Pt prog 122 [agg (ak.enc a0)] (agg (aM.enc r)):=by
 refine pf func122 h λR0 F H=>?_
 refine wr 2 3<|Dv.box Q T Q cA nofun λba=>al Q T zc181 nofun λbc=>.fin<|wr 10 512<|gl 8 [1,1,1,1]<|Dv.lD (qs:=[vS a0.aj,vS a0.aC,vS a0.ah,vB a0.ay]) (css:=[[vS a0.aj],[vS a0.aC],[vS a0.ah],[vB a0.ay]]) Q T wD pl181 dY Q ⟨(cells_one (ai Q)),⟨(cells_one (ai Q)),⟨(cells_one (ai Q)),⟨(cells_one (ai Q)),T⟩⟩⟩⟩ Q Q<|sy 0 ?_
 refine .fin ?_
 cases H.out;exact r2 i2 Q (.cons (aL Q wD Q zn (ab 0 Q) Q) .nil)
theorem pK.c (h:pK.f k a0 a1 a2 a3=some r):Pt prog 191 [agg (dm.enc a0),vS a1,vS a2,vS a3] (vI r):=by
 refine pf func191 h λR0 F H=>?_
 refine wr 2 1<|Dv.box Q T Q cA nofun λba=>go 1<|wr 5 24<|gl 2 [0]<|el H λta haa H=>cl Q (cL 51) Q (kb.c haa)<|al Q T pM nofun λbc=>sy 0 ?_
 refine .fin<|wr 4 0<|gl 2 [0]<|el H λtc hac H=>cl Q (cL 52) Q (fh.c hac)<|go 1<|WP.seq<|so<|ce H ?_ ?_ <;> intro H
 ·refine sp ?_
  cases H.out;exact ek 2
 refine WP.skip<|wr 7 0<|gl 3 [0]<|gr H λgb H=>Dv.lE Q T Q Q rN nb px gb.1 gb.2<|fr Q T Q xB Q<|nK Q T Q o6 Q<|go 1<|WP.seq<|wr 24 0<|gp 3 ?_
 cases ca:decide (a3=eE)
 rotate_left
 ·have H:=H.ct ca
  refine go 21<|WP.cond Q (λ_=>?_) nofun
  refine sp ?_
  cases H.out;exact ek 2
 have H:=H.cf ca
 refine gp 5 ?_
 cases cb:decide (a3=a2)
 rotate_left
 ·have H:=H.ct cb
  refine go 16<|WP.cond Q (λ_=>?_) nofun
  refine sp ?_
  cases H.out;exact ek 2
 have H:=H.cf cb
 refine gp 3 ?_
 cases cg:decide (a3=(⟨#[109,97,105,110]⟩:BA))
 ·have H:=H.cf cg
  refine gp 8 ?_
  cases ci:!decide (((Event.K.at ta.fL tc).ah)=eE)
  ·have H:=H.cf ci
   refine go 5<|WP.cond Q nofun (λ_=>?_)
   refine WP.skip<|sp ?_
   cases H.out;exact ek 2
  have H:=H.ct ci
  refine go 5<|ce H ?_ ?_ <;> intro H
  ·refine sp ?_
   cases H.out;exact ek 2
  refine WP.skip<|sp ?_
  cases H.out;exact ek 2
 have H:=H.ct cg
 refine gp 5 ?_
 cases cj:decide (((Event.K.at ta.fL tc).ah)=eE)
 rotate_left
 ·have H:=H.ct cj
  refine go 8<|WP.cond Q (λ_=>?_) nofun
  refine sp ?_
  cases H.out;exact ek 2
 have H:=H.cf cj
 refine gp 3 ?_
 cases ck:!decide (((Event.K.at ta.fL tc).ah)=eE)
 ·have H:=H.cf ck
  refine go 5<|WP.cond Q nofun (λ_=>?_)
  refine WP.skip<|sp ?_
  cases H.out;exact ek 2
 have H:=H.ct ck
 refine go 5<|ce H ?_ ?_ <;> intro H
 ·refine sp ?_
  cases H.out;exact ek 2
 refine WP.skip<|sp ?_
 cases H.out;exact ek 2
theorem oh.c (h:oh.f k a0 a1=some r):Pt prog 192 [agg (iH.enc a0),agg (ak.enc a1)] (lg [agg (iH.enc r.1),agg (ak.enc r.2.1),vB r.2.2]):=by
 refine pf func192 h λR0 F H=>?_
 refine wr 5 15<|Dv.box Q T Q cA nofun λba=>Dv.box Q T Q cA nofun λbc=>al Q T Fo nofun λbd=>al Q T qP nofun λbe=>go 1<|sr H id [2,3,4,5] (λ_=>[]) (λ_=>[]) (λpa H=>?_) (λH=>?_)
 rotate_left
 ·refine so<|WP.block<|ws 4 [0,1,2,3] 0 ?_
  refine lq (λj_ (pc:Int)=>oh.l0 k a0 a1 j_ pc) 0 H [2,3,4,5] (λpc=>[(7,vI pc)]) (λ_=>[]) ?_
  rintro j_ xa H
  rcases j_ with _ | ja
  ·exact(aW.no H).elim
  try dsimp only at H
  rw [oh.l0] at H
  refine WP.seq<|wr 5 0<|gl 3 [3]<|Dv.jw Q T Q fk<|go 1<|cf H ?_ ?_ <;> intro H
  ·refine WP.exit ?_
   have H:=H.out
   exact jn (xa,decide (xa<(a0.fL.length:Int))) H
  refine WP.skip<|WP.seq<|WP.block<|wd mX 7 0<|gl 3 [3]<|gr H λgb H=>Dv.lE Q T Q Q fk fO ij gb.1 gb.2<|mY Q T Q nP Q<|gl 1 [2]<|Dv.eqs [.int .i64 ((ak.K.at a0.fL xa).bf),.string ((ak.K.at a0.fL xa).aj),.string ((ak.K.at a0.fL xa).aC),.string ((ak.K.at a0.fL xa).bP),.string ((ak.K.at a0.fL xa).ah),.bool ((ak.K.at a0.fL xa).ay),.bool ((ak.K.at a0.fL xa).lO),.int .i64 ((ak.K.at a0.fL xa).cX),.int .i64 ((ak.K.at a0.fL xa).bU),.int .i64 ((ak.K.at a0.fL xa).bK),.int .i64 ((ak.K.at a0.fL xa).aS)] [.int .i64 a1.bf,.string a1.aj,.string a1.aC,.string a1.bP,.string a1.ah,.bool a1.ay,.bool a1.lO,.int .i64 a1.cX,.int .i64 a1.bU,.int .i64 a1.bK,.int .i64 a1.aS] Q T Q Q Q Q Gl (λ_=>dJ 2 dc (λ_=>yL (ak.K.at a0.fL xa) a1))<|.fin<|cf H ?_ ?_ <;> intro H
  ·exact WP.skip<|rg 3 0<|go 3<|bk ja (aE (xa+1)) H
  refine wr 5 12<|gl 1 [3]<|Dv.lD (qs:=[vI 0,vS eE,vS eE,vS eE,vS eE,vB false,vB false,vI 0,vI 0,vI 0,vI 0]) (css:=[]) Q T fO s5 z80 Q T Q Q<|sy 1 ?_
  refine sy 0 ?_
  refine gq 1 ?_
  have H:=H.cH
  cases H.out;exact r4 i2 Q (.cons (aL Q Hb Q HN (ab 1 Q) Q) (.cons (aL Q fO Q ij (ab 0 Q) Q) (.cons (aQ Q) .nil)))
 refine so<|wr 5 8<|gl 3 [3]<|vg (dX ak.K none) λ_ _=>?_
 refine gr H λgc H=>ap ak.K 0 a0.fL dG fk (.inr ⟨_,fk⟩) qp gc nofun λva=>?_
 refine go 1<|wr 5 8<|gl 2 [3]<|Dv.lit ak.K ([a1]:List ak) (css:=[ak.enc a1]) Q T fk fO ij z80 Q dc dc Q ⟨(bx (ak.K.one _)),T⟩ Q Q Q<|gr H λgi H=>ap ak.K 0 ([a1]:List ak) dG fk (.inr ⟨_,fk⟩) qp gi nofun λvb=>?_
 refine go 1<|WP.seq<|wr 5 0<|go 1<|Dv.kl Q T Q (ab 0 Q) fk<|gl 3 [4]<|cf H ?_ ?_ <;> intro H
 ·refine WP.skip<|wr 10 384<|gl 5 [4,4]<|Dv.lD (qs:=[vI a0.bW,eq vb.1,vI a0.bS]) (css:=[[vI a0.bW],[eq vb.1],[vI a0.bS]]) Q T Hb FK z57 Q ⟨(cells_one (ai Q)),⟨(cells_one cS),⟨(cells_one (ai Q)),T⟩⟩⟩ Q Q<|Dv.lD (qs:=[vI 0,vS eE,vS eE,vS eE,vS eE,vB false,vB false,vI 0,vI 0,vI 0,vI 0]) (css:=[]) Q T fO s5 z80 Q T Q Q<|sy 2 ?_
  refine sy 1 ?_
  refine go 1<|fz 0 [4,5,6] [0,1] ?_
  cases H.out;exact r4 i2 Q (.cons (aL Q Hb Q HN (ab 1 Q) Q) (.cons (aL Q fO Q ij (ab 0 Q) Q) (.cons (aQ Q) .nil)))
 refine WP.seq<|fz 0 [2,3,4,5,8,37] [] ?_
 refine dg mX 14 6144<|gl 3 [3]<|gr H λgj H=>Dv.sls Q T Q fk fO ij (fg Q gj.1) dQ gj.2.1 gj.2.2<|gl 3 [3]<|Dv.lD (qs:=[vI a0.bW,sl ak.K ((((([]:List ak)++a0.fL)++([a1]:List ak)).take (((([]:List ak)++a0.fL)++([a1]:List ak)).length)).drop ((1:Int).toNat)),vI (aE (a0.bS+1))]) (css:=[[vI a0.bW],[sl ak.K ((((([]:List ak)++a0.fL)++([a1]:List ak)).take (((([]:List ak)++a0.fL)++([a1]:List ak)).length)).drop ((1:Int).toNat))],[vI (aE (a0.bS+1))]]) Q T Hb FK z57 Q ⟨(cells_one (ai Q)),⟨(cells_one dR),⟨(cells_one (ai Q)),T⟩⟩⟩ Q Q<|go 1<|gr H λgk H=>Dv.lE Q T Q Q fk fO ij gk.1 gk.2<|mY Q T Q nP Q<|sx 1 Q T Q Q cA sz57 Q Q Q pD ?_
 refine sv 0 ?_
 refine gq 1 ?_
 cases H.out;exact r4 i2 Q (.cons (aL Q Hb Q HN (ab 1 Q) Q) (.cons (aL Q fO Q ij (ab 0 Q) Q) (.cons (aQ Q) .nil)))
theorem bD.c (h:bD.f a0 a1=some r):Pt prog 24 [agg (Pos.enc a0),agg (Pos.enc a1)] (vB r):=by
 refine pf func24 h λR0 F H=>?_
 refine wr 3 3<|Dv.box Q T Q cA nofun λba=>Dv.box Q T Q cA nofun λbc=>go 1<|wr 20 0<|jf 6 [1,0] ?_
 cases ca:decide (a0.br<a1.br)
 rotate_left
 ·have H:=H.ct ca
  refine gq 14 ?_
  cases H.out;exact ek 2
 have H:=H.cf ca
 refine jf 6 [1,0] ?_
 cases cb:(a0.br==a1.br)
 ·have H:=H.cf cb
  refine gq 8 ?_
  cases H.out;exact ek 2
 have H:=H.ct cb
 refine E9 8 [1,0] ?_
 cases H.out;exact ek 2
theorem oa.c (h:oa.f k a0 a1=some r):Pt prog 239 [sl MK.K a0,agg (aM.enc a1)] (vI r):=by
 refine pf func239 h λR0 F H=>?_
 refine wr 2 1<|Dv.box Q T Q cA nofun λba=>go 1<|sr H id [] (λ_=>[]) (λ_=>[]) (λpa H=>?_) (λH=>?_)
 ·refine sp ?_
  cases H.out;exact ek 1
 refine so<|WP.block<|ws 1 [0] 0 ?_
 refine lq (λj_ (pc:Int)=>oa.l0 k a0 a1 j_ pc) 0 H [0,3] (λpc=>[(5,vI pc)]) (λ_=>[]) ?_
 rintro j_ xa H
 rcases j_ with _ | ja
 ·exact(aW.no H).elim
 try dsimp only at H
 rw [oa.l0] at H
 refine WP.seq<|wr 4 0<|go 2<|Dv.jw Q T Q yw<|go 1<|cf H ?_ ?_ <;> intro H
 ·refine WP.exit ?_
  have H:=H.out
  exact jn (xa,decide (xa<(a0.length:Int))) H
 refine WP.skip<|WP.seq<|WP.block<|wd mX 7 0<|go 2<|gr H λgb H=>Dv.lE Q T Q Q yw wv Ak gb.1 gb.2<|fr Q T Q BO Q<|mY Q T Q HD Q<|gl 1 [0]<|Dv.eqs [.string (((MK.K.at a0 xa).fK).aj),.string (((MK.K.at a0 xa).fK).aC),.string (((MK.K.at a0 xa).fK).ah),.bool (((MK.K.at a0 xa).fK).ay)] [.string a1.aj,.string a1.aC,.string a1.ah,.bool a1.ay] Q T Q Q Q Q HH (λ_=>dJ 2 dc (λ_=>Dj ((MK.K.at a0 xa).fK) a1))<|.fin<|cf H ?_ ?_ <;> intro H
 ·exact WP.skip<|rg 3 0<|go 3<|bk ja (aE (xa+1)) H
 refine sp ?_
 have H:=H.cH
 cases H.out;exact ek 1
theorem qh.c (h:qh.f a0 a1=some r):Pt prog 240 [agg (aM.enc a0),agg (aM.enc a1)] (vB r):=by
 refine pf func240 h λR0 F H=>?_
 refine wr 3 3<|Dv.box Q T Q cA nofun λba=>Dv.box Q T Q cA nofun λbc=>go 1<|WP.seq<|wu [1,0]<|ce H ?_ ?_ <;> intro H
 ·refine Jq [1,0] ?_
  cases H.out;exact ek 2
 refine WP.skip<|WP.seq<|wu [1,0]<|ce H ?_ ?_ <;> intro H
 ·refine Jq [1,0] ?_
  cases H.out;exact ek 2
 refine WP.skip<|WP.seq<|wu [1,0]<|ce H ?_ ?_ <;> intro H
 ·refine Jq [1,0] ?_
  cases H.out;exact ek 2
 refine WP.skip<|wr 8 0<|jf 4 [1] ?_
 cases ca:!a0.ay
 ·have H:=H.cf ca
  refine gq 4 ?_
  cases H.out;exact ek 2
 have H:=H.ct ca
 refine E9 4 [0] ?_
 cases H.out;exact ek 2
theorem nY.c (h:nY.f k a0 a1 a2=some r):Pt prog 193 [sl MK.K a0,agg (aM.enc a1),agg (Pos.enc a2)] (lg [sl MK.K r.1,vB r.2]):=by
 refine pf func193 h λR0 F H=>?_
 refine wr 4 3<|Dv.box Q T Q cA nofun λba=>Dv.box Q T Q cA nofun λbc=>go 2<|wr 4 0<|gl 2 [1]<|el H λta haa H=>cl Q (cL 239) Q (oa.c haa)<|go 1<|so<|WP.seq<|so<|ce H ?_ ?_ <;> intro H
 ·refine wd mX 8 0<|go 2<|gr H λgb H=>Dv.lE Q T Q Q yw wv Ak gb.1 gb.2<|fr Q T Q Bg Q<|mY Q T Q zy Q<|gl 1 [0]<|el H λtc hac H=>cl Q (cL 24) Q (bD.c hac)<|go 1<|WP.seq<|so<|ce H ?_ ?_ <;> intro H
  ·refine sp ?_
   cases H.out;exact ek 2
  refine WP.skip<|wr 4 4<|go 2<|vg (dX MK.K none) λ_ _=>?_
  refine gr H λgc H=>ap MK.K 0 a0 dG yw (.inr ⟨_,yw⟩) xK gc nofun λva=>?_
  refine go 1<|wr 6 32<|gl 3 [1]<|gr H λgi H=>?_
  have had:ta.toNat<(([]:List MK)++a0).length:=cQ gi
  refine Dv.na Q T Q (ab 0 Q) Q yw wv Ak gi.1 gi.2<|fw Q T Q Bg<|Dv.Ff (j:=ta.toNat) (f:=4) (jj:=0) (⟨((([]:List MK)++a0).getD ta.toNat default).fK,a2⟩:MK) Q T Q Q (bx (Pos.K.one _)) uA yF Q Q had (Nat.le_of_ble_eq_true Q) Q nofun<|.fin<|so<|fz 0 [6,7] [] ?_
  cases H.out;exact ek 2
 refine WP.skip<|so<|sq H id [0,4,5,9] (λpa=>[(11,vI pa.1)]) (λ_=>[]) (λpa H=>?_) (λH=>?_)
 rotate_left
 ·refine WP.block<|ws 2 [0,1] 0 ?_
  refine lq (λj_ (pc:Int)=>nY.l0 k a0 a1 j_ pc) 0 H [0,4,5,9] (λpc=>[(11,vI pc)]) (λ_=>[]) ?_
  rintro j_ xa H
  rcases j_ with _ | ja
  ·exact(aW.no H).elim
  try dsimp only at H
  rw [nY.l0] at H
  refine WP.seq<|wd mX 13 0<|go 2<|Dv.jw Q T Q yw<|gp 2 ?_
  cases ca:decide (xa<(a0.length:Int))
  ·have H:=H.cf ca
   refine go 8<|WP.cond Q nofun (λ_=>?_)
   refine WP.exit ?_
   have H:=H.out
   exact jn (xa,false) H
  have H:=H.ct ca
  refine go 2<|gr H λgj H=>Dv.lE Q (gg Q) Q Q yw wv Ak gj.1 gj.2<|fr Q (gg Q) Q BO Q<|mY Q (gg Q) Q HD Q<|gl 1 [1]<|el H λte hae H=>Dv.call Q (gg Q) (cL 240) Q (qh.c hae)<|go 1<|cf H ?_ ?_ <;> intro H
  ·refine WP.exit ?_
   have H:=H.out
   exact jn (xa,te) H
  exact WP.skip<|WP.block<|rg 3 0<|go 3<|bk ja (aE (xa+1)) H
 refine wr 6 16<|go 3<|gr H λgk H=>Dv.sls Q T Q yw wv Ak dQ (fg Q gk.1) gk.2.1 gk.2.2<|vg (dX MK.K none) λ_ _=>?_
 refine gr H λgn H=>ap MK.K 0 ((a0.take pa.1.toNat).drop 0) dG yw (.inr ⟨_,yw⟩) xK gn nofun λvb=>?_
 refine go 1<|wr 7 32<|gl 3 [2,1]<|Dv.lD (qs:=[vS a1.aj,vS a1.aC,vS a1.ah,vB a1.ay,vI a2.br,vS a2.cC]) (css:=[aM.enc a1,Pos.enc a2]) Q T wv pl363 z363 Q ⟨(bx (aM.K.one _)),⟨(bx (Pos.K.one _)),T⟩⟩ Q Q<|Dv.lit MK.K ([(⟨a1,a2⟩:MK)]:List MK) (css:=[[vS a1.aj,vS a1.aC,vS a1.ah,vB a1.ay,vI a2.br,vS a2.cC]]) Q T yw wv Ak z363 Q dc dc Q ⟨(bx (ae (ai Q) (ae (ai Q) (ae (ai Q) (ae (ai Q) (ae (ai Q) (ae (ai Q) cN))))))),T⟩ Q Q Q<|gr H λgt H=>ap MK.K 0 ([(⟨a1,a2⟩:MK)]:List MK) dG yw (.inr ⟨_,yw⟩) xK gt nofun λvd=>?_
 refine go 1<|wr 7 16<|go 3<|gr H λgu H=>Dv.sls Q T Q yw wv Ak (fg Q gu.1) dQ gu.2.1 gu.2.2<|gr H λgv H=>ap MK.K 0 ((a0.take a0.length).drop pa.1.toNat) dG yw (.inr ⟨_,yw⟩) xK gv nofun λve=>?_
 refine go 2<|fz 0 [6,7] [] ?_
 cases H.out;exact ek 2
theorem uE.c (h:uE.f k a0 a1 a2=some r):Pt prog 121 [agg (mJ.enc a0),agg (dm.enc a1),agg (ak.enc a2)] (lg [agg (mJ.enc r.1),vB r.2.1,vI r.2.2]):=by
 refine pf func121 h λR0 F H=>?_
 refine wr 6 15<|Dv.box Q T Q cA nofun λba=>Dv.box Q T Q cA nofun λbc=>Dv.box Q T Q cA nofun λbd=>al Q T Gm nofun λbe=>go 2<|wr 3 0<|gl 1 [1]<|el H λta haa H=>cl Q (cL 54) Q (iC.c haa)<|go 1<|WP.seq<|wr 7 0<|jf 4 [1] ?_
 cases ca:(a2.bf != 1)
 rotate_left
 ·have H:=H.ct ca
  refine go 3<|WP.cond Q (λ_=>?_) nofun
  refine wr 4 2<|gl 1 [3]<|sy 0 ?_
  refine gq 2 ?_
  cases H.out;exact r4 i2 Q (.cons (aL Q C7 Q Hy (ab 0 Q) Q) (.cons (aQ Q) (.cons (aQ Q) .nil)))
 have H:=H.cf ca
 refine go 3<|ce H ?_ ?_ <;> intro H
 ·refine wr 4 2<|gl 1 [3]<|sy 0 ?_
  refine gq 2 ?_
  cases H.out;exact r4 i2 Q (.cons (aL Q C7 Q Hy (ab 0 Q) Q) (.cons (aQ Q) (.cons (aQ Q) .nil)))
 refine WP.skip<|wr 9 0<|gl 7 [2,1,1,1]<|el H λtc hac H=>cl Q (cL 191) Q (pK.c hac)<|go 1<|WP.seq<|so<|ce H ?_ ?_ <;> intro H
 ·refine wr 13 3840<|gl 3 [3,1]<|el H λte had H=>cl Q (cL 192) Q (oh.c had)<|go 1<|dZ Q T Q Q<|dZ Q T Q Q<|dZ Q T Q Q<|al Q T Fo nofun λbg=>al Q T qP nofun λbh=>sy 1 ?_
  refine sy 0 ?_
  refine go 1<|wr 7 16<|gl 3 [5,1]<|Dv.lD (qs:=[sl MK.K a0.fL,vI te.1.bW,sl ak.K te.1.fL,vI te.1.bS]) (css:=[[sl MK.K a0.fL],iH.enc te.1]) Q T C7 Fy z59 Q ⟨(cells_one dR),⟨(bx (iH.K.one _)),T⟩⟩ Q Q<|sy 2 ?_
  refine gq 2 ?_
  cases H.out;exact rt i2 Q () 6 [0,1,2,3,4,5] 6 (.cons (aL Q C7 Q Hy (ab 2 Q) Q) (.cons (aQ Q) (.cons (aQ Q) .nil)))
 refine WP.skip<|WP.seq<|so<|ce H ?_ ?_ <;> intro H
 ·refine wr 5 4<|gl 2 [3]<|sy 0 ?_
  refine gq 2 ?_
  cases H.out;exact r4 i2 Q (.cons (aL Q C7 Q Hy (ab 0 Q) Q) (.cons (aQ Q) (.cons (aQ Q) .nil)))
 refine WP.skip<|wr 12 1536<|gl 5 [2,1,1]<|el H λtg hae H=>cl Q (cL 23) Q (eS.c hae)<|go 1<|dZ Q T Q Q<|dZ Q T Q Q<|al Q T nu nofun λbi=>sy 0 ?_
 refine go 1<|wd mX 11 0<|gl 3 [4,2]<|el H λtj haf H=>cl Q (cL 122) Q (qF.c haf)<|gl 1 [0]<|el H λtm hag H=>cl Q (cL 193) Q (nY.c hag)<|go 1<|dZ Q T Q Q<|dZ Q T Q Q<|go 2<|wr 8 32<|gl 3 [4]<|Dv.lD (qs:=[sl MK.K tm.1,vI a0.fP.bW,sl ak.K a0.fP.fL,vI a0.fP.bS]) (css:=[[sl MK.K tm.1],iH.enc a0.fP]) Q T C7 Fy z59 Q ⟨(cells_one dR),⟨(bx (iH.K.one _)),T⟩⟩ Q Q<|go 1<|sy 1 ?_
 refine gq 2 ?_
 cases H.out;exact r5 i2 Q (.cons (aL Q C7 Q Hy (ab 1 Q) Q) (.cons (aQ Q) (.cons (aQ Q) .nil)))
theorem eM.c (h:eM.f k a0 a1 a2 a3=some r):Tr prog 73 [agg (mJ.enc a0),agg (dm.enc a1),vS a2,vS a3] [] (γ:=OV) (λ_=>True) (λg=>lg [agg (mJ.enc r.1),eq g.1]) (λg=>[own aM.K g.1 r.2]):=by
 refine tf func73 h λR0 F H=>?_
 refine wr 4 7<|Dv.box Q T Q cA nofun λba=>Dv.box Q T Q cA nofun λbc=>al Q T Gm nofun λbd=>go 1<|wr 10 384<|gl 3 [1]<|el H λta haa H=>cl Q (cL 23) Q (eS.c haa)<|go 1<|dZ Q T Q Q<|dZ Q T Q Q<|al Q T nu nofun λbe=>sy 0 ?_
 refine go 1<|WP.seq<|so<|ce H ?_ ?_ <;> intro H
 ·refine wr 3 2<|gl 1 [3]<|sy 1 ?_
  refine go 1<|wg (dX aM.K none) λ_ _=>?_
  obtain rfl:=aW.out H
  exact rt i2 Q iQ 5 [1,2,3,4,0] 4 (.cons (aL Q C7 Q Hy (ab 2 Q) Q) (.cons (aQ Q) .nil))
 refine WP.skip<|wr 11 784<|gl 4 [3]<|el H λtc hac H=>cx 4 [0,1,2,3] (cL 120) (lu.c hac) nofun λgb _=>?_
 refine go 1<|dZ Q T Q Q<|dZ Q T Q Q<|al Q T Fo nofun λbg=>sy 0 ?_
 refine go 1<|wr 5 16<|gl 3 [5,0]<|Dv.lD (qs:=[sl MK.K a0.fL,vI tc.1.bW,sl ak.K tc.1.fL,vI tc.1.bS]) (css:=[[sl MK.K a0.fL],iH.enc tc.1]) Q T C7 Fy z59 Q ⟨(cells_one dR),⟨(bx (iH.K.one _)),T⟩⟩ Q Q<|sy 5 ?_
 refine .fin<|so<|WP.kW H (λqa:(Int×Bool×(List MK)×Int×(List ak)×Int×(List aM))×OV=>qa.1) (λqa=>[(4,iT ba),(8,iT bd),(14,eq qa.2.1)]) (λqa=>[ar bg 57 (iH.enc tc.1),ar be 49 (Pos.enc ta.1),ar bd 59 [jQ,vI 0,jQ,vI 0],ar bc 54 (dm.enc a1),ar ba 59 [sl MK.K qa.1.2.2.1,vI qa.1.2.2.2.1,sl ak.K qa.1.2.2.2.2.1,vI qa.1.2.2.2.2.2.1],own ak.K gb.1 tc.2,own aM.K qa.2.1 qa.1.2.2.2.2.2.2]++F) (λqa H=>?_) (λH=>?_)
 ·obtain⟨pa,va⟩:=qa
  refine wr 4 4<|gl 2 [4]<|sy 2 ?_
  refine gq 1 ?_
  obtain rfl:=aW.out H
  exact rt i2 Q va 7 [0,1,2,3,4,5,6] 6 (.cons (aL Q C7 Q Hy (ab 2 Q) Q) (.cons (aQ Q) .nil))
 refine so<|WP.block<|wg (dX aM.K none) λ_ _=>?_
 refine ws 7 [1,3,4,5,6,2,0] 0 ?_
 refine lq (λj_ (pc:Int×(List MK)×Int×(List ak)×Int×(List aM)×OV)=>eM.l0 k a1 tc j_ pc.1 pc.2.1 pc.2.2.1 pc.2.2.2.1 pc.2.2.2.2.1 pc.2.2.2.2.2.1) (0,a0.fL,tc.1.bW,tc.1.fL,tc.1.bS,([]:List aM),iQ) H [4,5,8,13] (λpc=>[(14,eq pc.2.2.2.2.2.2.1),(15,vI pc.1)]) (λpc=>[(4,ar ba 59 [sl MK.K pc.2.1,vI pc.2.2.1,sl ak.K pc.2.2.2.1,vI pc.2.2.2.2.1]),(6,own aM.K pc.2.2.2.2.2.2.1 pc.2.2.2.2.2.1)]) ?_
 rintro j_ ⟨xa,xb,xc,xd,xe,xf,vb⟩ H
 rcases j_ with _ | ja
 ·exact(aW.no H).elim
 try dsimp only at H
 rw [eM.l0] at H
 refine WP.seq<|wr 4 0<|go 2<|Dv.kl Q T Q (ab 5 Q) fk<|go 1<|cf H ?_ ?_ <;> intro H
 ·refine WP.exit ?_
  have H:=H.out
  exact jn ((xa,decide (xa<(tc.2.length:Int)),xb,xc,xd,xe,xf),vb) H
 refine WP.skip<|WP.kW H (λqb:(Bool×Bool×Int×Bool×Bool×(List MK)×Int×(List ak)×Int×(List aM))×OV=>qb.1) (λqb=>[(4,iT ba),(5,iT bc),(8,iT bd),(13,eq gb.1),(14,eq qb.2.1),(15,vI xa)]) (λqb=>[ar bg 57 (iH.enc tc.1),ar be 49 (Pos.enc ta.1),ar bd 59 [jQ,vI 0,jQ,vI 0],ar bc 54 (dm.enc a1),ar ba 59 [sl MK.K qb.1.2.2.2.2.2.1,vI qb.1.2.2.2.2.2.2.1,sl ak.K qb.1.2.2.2.2.2.2.2.1,vI qb.1.2.2.2.2.2.2.2.2.1],own ak.K gb.1 tc.2,own aM.K qb.2.1 qb.1.2.2.2.2.2.2.2.2.2]++F) (λqb H=>?_) (λH=>?_)
 ·obtain⟨pe,vd⟩:=qb
  exact rg 3 0<|go 3<|bk ja (aE (xa+1),pe.2.2.2.2.2.1,pe.2.2.2.2.2.2.1,pe.2.2.2.2.2.2.2.1,pe.2.2.2.2.2.2.2.2.1,pe.2.2.2.2.2.2.2.2.2,vd) H
 refine WP.block<|wd mX 15 6144<|gl 4 [4,3]<|gr H λgc H=>?_
 have had:xa.toNat<tc.2.length:=cQ gc
 refine Dv.na Q T Q (ab 5 Q) Q fk fO ij gc.1 gc.2<|Dv.kX (j:=xa.toNat) (f:=0) Q T Q (ab 5 Q) had fO Q ij (Nat.le_of_ble_eq_true Q)<|el H λte hae H=>cl Q (cL 121) Q (uE.c hae)<|go 1<|dZ Q T Q Q<|dZ Q T Q Q<|dZ Q T Q Q<|al Q T Gm pD λbh=>sx 0 Q T Q Q cA sz59 Q Q Q pD ?_
 refine go 2<|wr 2 2<|gl 1 [0]<|sy 5 ?_
 refine .fin<|so<|WP.kW H id (λpg=>[(4,iT ba),(5,iT bc),(8,iT bd),(13,eq gb.1),(14,eq vb.1),(15,vI xa),(17,vB te.2.1),(19,vB pg.1)]) (λpg=>[ar bh 59 [sl MK.K te.1.fL,vI te.1.fP.bW,sl ak.K te.1.fP.fL,vI te.1.fP.bS],ar bg 57 (iH.enc tc.1),ar be 49 (Pos.enc ta.1),ar bd 59 [jQ,vI 0,jQ,vI 0],ar bc 54 (dm.enc a1),ar ba 59 [sl MK.K te.1.fL,vI te.1.fP.bW,sl ak.K te.1.fP.fL,vI te.1.fP.bS],own ak.K gb.1 tc.2,own aM.K vb.1 xf]++F) (λpg H=>?_) (λH=>?_)
 ·refine wr 5 0<|gp 2 ?_
  cases ca:te.2.1
  ·have H:=H.cf ca
   refine go 3<|WP.cond Q nofun (λ_=>?_)
   refine WP.skip ?_
   have H:=H.out
   refine ns 8 [0,1,2,3,4,5,6,7] 1 ?_
   exact jn ((false,pg.1,pg.2.1,pg.2.2,false,te.1.fL,te.1.fP.bW,te.1.fP.fL,te.1.fP.bS,xf),vb) H
  have H:=H.ct ca
  refine go 3<|cf H ?_ ?_ <;> intro H
  ·refine WP.skip ?_
   have H:=H.out
   refine ns 8 [0,1,2,3,4,5,6,7] 1 ?_
   exact jn ((true,pg.1,pg.2.1,pg.2.2,!pg.1,te.1.fL,te.1.fP.bW,te.1.fP.fL,te.1.fP.bS,xf),vb) H
  refine rg 9 128<|go 3<|gr H λgi H=>?_
  have haf:xa.toNat<tc.2.length:=cQ gi
  refine Dv.na Q T Q (ab 6 Q) Q fk fO ij gi.1 gi.2<|Dv.kX (j:=xa.toNat) (f:=0) Q T Q (ab 6 Q) haf fO Q ij (Nat.le_of_ble_eq_true Q)<|el H λtg hag H=>cl Q (cL 122) Q (qF.c hag)<|Dv.lit aM.K ([tg]:List aM) (css:=[aM.enc tg]) Q T AT wD zn dY Q dc dc Q ⟨(bx (aM.K.one _)),T⟩ Q Q Q<|gr H λgj H=>ap aM.K 7 ([tg]:List aM) dG AT (.inr ⟨_,AT⟩) HZ gj nofun λve=>?_
  refine gq 1 ?_
  have H:=H.out
  refine ns 8 [0,1,2,3,4,5,6,7] 1 ?_
  exact jn ((true,pg.1,pg.2.1,pg.2.2,!pg.1,te.1.fL,te.1.fP.bW,te.1.fP.fL,te.1.fP.bS,xf++([tg]:List aM)),ve) H
 refine so<|WP.block<|ws 8 [0,1,2,3,4,5,6,7] 0 ?_
 refine lq (λj_ (ph:Bool×Int)=>eM.l1 k tc xa xf j_ ph.1 ph.2) (false,0) H [4,5,8,13,14,15,17] (λph=>[(19,vB ph.1),(20,vI ph.2)]) (λ_=>[]) ?_
 rintro j_ ⟨xg,xi⟩ H
 rcases j_ with _ | jc
 ·exact(aW.no H).elim
 try dsimp only at H
 rw [eM.l1] at H
 refine WP.seq<|wr 4 0<|go 2<|Dv.kl Q T Q (ab 7 Q) AT<|go 1<|cf H ?_ ?_ <;> intro H
 ·refine WP.exit ?_
  have H:=H.out
  exact jn (xg,xi,decide (xi<(xf.length:Int))) H
 refine WP.skip<|WP.seq<|WP.block<|dg mX 14 0<|gp 2 ?_
 cases cb:xg
 rotate_left
 ·have H:=H.ct cb
  exact go 12<|rg 3 0<|go 3<|bk jc (true,aE (xi+1)) H
 have H:=H.cf cb
 refine go 2<|gr H λgk H=>?_
 have hah:xi.toNat<xf.length:=cQ gk
 refine Dv.na Q (gg Q) Q (ab 7 Q) Q AT wD zn gk.1 gk.2<|Dv.kX (j:=xi.toNat) (f:=0) Q (gg Q) Q (ab 7 Q) hah wD Q zn (Nat.le_of_ble_eq_true Q)<|go 2<|gr H λgn H=>?_
 have hai:xa.toNat<tc.2.length:=cQ gn
 exact Dv.na Q (gg Q) Q (ab 6 Q) Q fk fO ij gn.1 gn.2<|Dv.kX (j:=xa.toNat) (f:=0) Q (gg Q) Q (ab 6 Q) hai fO Q ij (Nat.le_of_ble_eq_true Q)<|el H λtj haj H=>Dv.call Q (gg Q) (cL 122) Q (qF.c haj)<|Dv.eqs [.string ((xf.getD xi.toNat default).aj),.string ((xf.getD xi.toNat default).aC),.string ((xf.getD xi.toNat default).ah),.bool ((xf.getD xi.toNat default).ay)] [.string tj.aj,.string tj.aC,.string tj.ah,.bool tj.ay] Q (gg Q) Q Q Q Q HH (λ_=>dJ 2 dc (λ_=>Dj (xf.getD xi.toNat default) tj))<|go 2<|rg 3 0<|go 3<|bk jc (decide (xf.getD xi.toNat default=tj),aE (xi+1)) H
theorem uy.c (h:uy.f a0=some r):Pt prog 123 [agg (rL.enc a0)] (vI r):=by
 refine pf func123 h λR0 F H=>?_
 refine wr 2 1<|Dv.box Q T Q cA nofun λba=>go 1<|wr 7 0<|gl 4 [0,0]<|Dv.jw Q T Q Ja<|gq 2 ?_
 cases H.out;exact ek 1
theorem sC.c (h:sC.f a0 a1=some r):Pt prog 74 [agg (rL.enc a0),agg (mu.enc a1)] (agg (rL.enc r)):=by
 refine pf func74 h λR0 F H=>?_
 refine wr 3 7<|Dv.box Q T Q cA nofun λba=>Dv.box Q T Q cA nofun λbc=>al Q T GH nofun λbd=>.fin<|WP.seq<|wr 3 0<|gl 1 [2]<|el H λta haa H=>cl Q (cL 123) Q (uy.c haa)<|go 1<|ce H ?_ ?_ <;> intro H
 ·refine wr 2 2<|gl 1 [2]<|sy 0 ?_
  refine .fin ?_
  cases H.out;exact r3 i2 Q (.cons (aL Q Hm Q IX (ab 0 Q) Q) .nil)
 refine WP.skip<|so<|wr 5 8<|gl 3 [2]<|vg (dX mu.K none) λ_ _=>?_
 refine gr H λgb H=>ap mu.K 0 a0.fL dG Ja (.inr ⟨_,Ja⟩) En gb nofun λva=>?_
 refine go 1<|wr 6 40<|gl 2 [2]<|Dv.lit mu.K ([a1]:List mu) (css:=[[vI a1.bf,vS a1.fK.aj,vS a1.fK.aC,vS a1.fK.ah,vB a1.fK.ay,vS a1.EU]]) Q T Ja U183 c183 z183 Q dc dc Q ⟨(bx (ae (ai Q) (ae (ai Q) (ae (ai Q) (ae (ai Q) (ae (ai Q) (ae (ai Q) cN))))))),T⟩ Q Q Q<|gr H λgc H=>ap mu.K 0 ([a1]:List mu) dG Ja (.inr ⟨_,Ja⟩) En gc nofun λvb=>?_
 refine go 1<|sx 3 Q T Q Q (cells_one cS) sz65 Q Q Q nofun ?_
 refine .fin<|wr 2 2<|gl 1 [3]<|sy 1 ?_
 refine .fin<|fz 0 [4] [1,0,1] ?_
 cases H.out;exact r3 i2 Q (.cons (aL Q Hm Q IX (ab 0 Q) Q) .nil)
theorem kL.c (h:kL.f k a0 a1=some r):Pt prog 45 [agg (rL.enc a0),agg (Event.enc a1)] (lg [agg (rL.enc r.1),vI r.2]):=by
 refine pf func45 h λR0 F H=>?_
 refine wr 4 7<|Dv.box Q T Q cA nofun λba=>Dv.box Q T Q cA nofun λbc=>al Q T GH nofun λbd=>go 1<|wr 10 384<|gl 3 [2,1]<|el H λta haa H=>cl Q (cL 72) Q (eT.c haa)<|go 1<|dZ Q T Q Q<|dZ Q T Q Q<|al Q T zc54 nofun λbe=>sy 0 ?_
 refine go 1<|WP.seq<|so<|ce H ?_ ?_ <;> intro H
 ·refine wr 4 4<|gl 2 [3]<|sy 1 ?_
  refine gq 1 ?_
  cases H.out;exact r4 i2 Q (.cons (aL Q Hm Q IX (ab 1 Q) Q) (.cons (aQ Q) .nil))
 refine WP.skip<|wr 3 4<|gl 2 [0]<|sy 3 ?_
 refine .fin<|wr 14 6272<|gl 7 [3,0,2,2]<|el H λtc hac H=>cx 4 [0,1,2,3] (cL 73) (eM.c hac) nofun λgb _=>?_
 refine go 1<|dZ Q T Q Q<|dZ Q T Q Q<|al Q T Gm nofun λbg=>sy 0 ?_
 refine go 1<|wr 3 4<|gl 2 [0]<|sy 5 ?_
 refine .fin<|WP.kW H id (λpa=>[(2,iT ba),(4,iT bd)]) (λpa=>[ar bg 59 [sl MK.K tc.1.fL,vI tc.1.fP.bW,sl ak.K tc.1.fP.fL,vI tc.1.fP.bS],ar be 54 (dm.enc ta.1),ar bd 69 [vS eE,vI 0,vI 0,jQ,jQ,vI 0,jQ,vI 0,jQ,jQ,jQ,jQ,jQ,vI 0,jQ,jQ],ar bc 107 (Event.enc a1),ar ba 69 [vS pa.2.2.eZ,vI pa.2.2.bK,vI pa.2.2.aS,sl bq.K pa.2.2.fV.fD,sl MK.K pa.2.2.fM.fL,vI pa.2.2.fM.fP.bW,sl ak.K pa.2.2.fM.fP.fL,vI pa.2.2.fM.fP.bS,sl ak.K pa.2.2.fT.fL,sl dS pa.2.2.fT.cK,sl ak.K pa.2.2.fP.fL,sl (aP .i64) pa.2.2.fP.cK,sl mu.K pa.2.2.fL,vI pa.2.2.dL,sl iX.K pa.2.2.fQ,sl iY.K pa.2.2.fF],own aM.K gb.1 tc.2]++F) (λpa H=>?_) (λH=>?_)
 ·refine wr 3 2<|gl 1 [4]<|sy 2 ?_
  refine gq 1 ?_
  cases H.out;exact rt i2 Q () 6 [0,1,2,3,4,5] 6 (.cons (aL Q Hm Q IX (ab 2 Q) Q) (.cons (aQ Q) .nil))
 refine so<|WP.block<|ws 6 [0,2,3,4,5,1] 0 ?_
 refine lq (λj_ (pc:Int×rL)=>kL.l0 k tc j_ pc.1 pc.2) (0,(⟨a0.eZ,a0.bK,a0.aS,ta.1,(⟨tc.1.fL,tc.1.fP⟩:mJ),a0.fT,a0.fP,a0.fL,a0.dL,a0.fQ,a0.fF⟩:rL)) H [2,4,9] (λpc=>[(10,vI pc.1)]) (λpc=>[(4,ar ba 69 [vS pc.2.eZ,vI pc.2.bK,vI pc.2.aS,sl bq.K pc.2.fV.fD,sl MK.K pc.2.fM.fL,vI pc.2.fM.fP.bW,sl ak.K pc.2.fM.fP.fL,vI pc.2.fM.fP.bS,sl ak.K pc.2.fT.fL,sl dS pc.2.fT.cK,sl ak.K pc.2.fP.fL,sl (aP .i64) pc.2.fP.cK,sl mu.K pc.2.fL,vI pc.2.dL,sl iX.K pc.2.fQ,sl iY.K pc.2.fF])]) ?_
 rintro j_ ⟨xa,xb⟩ H
 rcases j_ with _ | ja
 ·exact(aW.no H).elim
 try dsimp only at H
 rw [kL.l0] at H
 refine WP.seq<|wr 4 0<|go 2<|Dv.kl Q T Q (ab 5 Q) AT<|go 1<|cf H ?_ ?_ <;> intro H
 ·refine WP.exit ?_
  have H:=H.out
  exact jn (xa,decide (xa<(tc.2.length:Int)),xb) H
 refine WP.skip<|WP.seq<|WP.block<|dg mX 8 128<|gl 3 [4]<|gr H λgc H=>?_
 have had:xa.toNat<tc.2.length:=cQ gc
 refine Dv.na Q T Q (ab 5 Q) Q AT wD zn gc.1 gc.2<|Dv.kX (j:=xa.toNat) (f:=0) Q T Q (ab 5 Q) had wD Q zn (Nat.le_of_ble_eq_true Q)<|Dv.lD (qs:=[vI 1,vS ((tc.2.getD xa.toNat default).aj),vS ((tc.2.getD xa.toNat default).aC),vS ((tc.2.getD xa.toNat default).ah),vB ((tc.2.getD xa.toNat default).ay),vS eE]) (css:=[[vI 1],aM.enc (tc.2.getD xa.toNat default)]) Q T U183 pl183 z183 Q ⟨(cells_one (ai Q)),⟨(bx (aM.K.one _)),T⟩⟩ Q Q<|el H λte hae H=>cl Q (cL 74) Q (sC.c hae)<|sv 4 ?_
 exact .fin<|rg 3 0<|go 3<|bk ja (aE (xa+1),te) H
theorem lv.c {p0_:OV} (h:lv.f k a0=some r):Tr prog 15 [eq p0_.1] [lax,WS.O p0_ a0] (γ:=Unit) (λ_=>True) (λg=>vB r.1) (λg=>[lax,WS.O p0_ r.2]):=by
 refine tf func15 h λR0 F H=>?_
 refine so<|WP.seq<|WP.seq<|wg (WS.eF 1 Q) λgb haa=>?_
 refine dg mX 10 0<|go 1<|Dv.aJ haa Q T Q<|fp haa Q T Q vU<|gl 2 [0]<|Dv.aJ haa Q T Q<|fp haa Q T Q AE<|gl 1 [0]<|Dv.kl Q T Q (ab 2 Q) rN<|go 1<|ce H ?_ ?_ <;> intro H
 ·refine so<|wg (WS.shut (p:=p0_) (m:=(⟨a0.fS,a0.fR,a0.fE,a0.fN⟩:WS)) (gb.1,gb.2.1,gb.2.2) haa (pm 4 [0,1,2,3])) λ_ _=>?_
  cases H.out;exact et () 2 [1,0] 0
 refine WP.skip<|wd mX 21 786432<|go 1<|Dv.aJ haa Q T Q<|fp haa Q T Q s8<|gl 2 [0]<|Dv.aJ haa Q T Q<|fp haa Q T Q AE<|gl 2 [0]<|Dv.aJ haa Q T Q<|fp haa Q T Q vU<|gl 1 [0]<|gr H λgc H=>?_
 have hac:a0.fN.toNat<a0.fE.length:=cQ gc
 refine Dv.na Q T Q (ab 2 Q) Q rN nb px gc.1 gc.2<|Dv.kX (j:=a0.fN.toNat) (f:=0) Q T Q (ab 2 Q) hac nb Q px (Nat.le_of_ble_eq_true Q)<|el H λta had H=>cl Q (cL 45) Q (kL.c had)<|go 1<|dZ Q T Q Q<|dZ Q T Q Q<|al Q T GH pD λba=>sx 0 Q T Q Q cA sz69 Q Q Q pD ?_
 refine go 1<|wr 5 16<|gl 2 [0]<|Dv.aJ haa Q T Q<|fp haa Q T Q s8<|sy 1 ?_
 refine .fin<|wr 8 128<|go 1<|Dv.aJ haa Q T Q<|fp haa Q T Q vU<|gl 2 [1]<|Dv.aJ haa Q T Q<|fp haa Q T Q vU<|sy 1 ?_
 refine .fin<|WP.seq<|dgo mX [0,1,2,3,4,5,6,7,8,9,10,11,12,13,14,16,15,17,18] [15]<|go 1<|Dv.aJ haa Q T Q<|fp haa Q T Q sU<|gl 2 [1]<|Dv.aJ haa Q T Q<|fp haa Q T Q AE<|gl 2 [1]<|Dv.aJ haa Q T Q<|fp haa Q T Q vU<|gl 2 [1]<|gr H λgi H=>?_
 have hae:(aE ((aE (a0.fN+1))-1)).toNat<a0.fE.length:=cQ gi
 refine Dv.na Q T Q (ab 3 Q) Q rN nb px gi.1 gi.2<|Dv.kX (j:=((aE ((aE (a0.fN+1))-1)).toNat)) (f:=0) Q T Q (ab 3 Q) hae nb Q px (Nat.le_of_ble_eq_true Q)<|go 1<|el H λtc haf H=>Dv.lS (pre:=[lax,bY.O gb.2.1 a0.fS]) (F:=[ar ba 69 [vS ta.1.eZ,vI ta.1.bK,vI ta.1.aS,sl bq.K ta.1.fV.fD,sl MK.K ta.1.fM.fL,vI ta.1.fM.fP.bW,sl ak.K ta.1.fM.fP.fL,vI ta.1.fM.fP.bS,sl ak.K ta.1.fT.fL,sl dS ta.1.fT.cK,sl ak.K ta.1.fP.fL,sl (aP .i64) ta.1.fP.cK,sl mu.K ta.1.fL,vI ta.1.dL,sl iX.K ta.1.fQ,sl iY.K ta.1.fF],ar gb.1 72 [eq gb.2.1.1,vS ta.1.eZ,vI ta.1.bK,vI ta.1.aS,sl bq.K ta.1.fV.fD,sl MK.K ta.1.fM.fL,vI ta.1.fM.fP.bW,sl ak.K ta.1.fM.fP.fL,vI ta.1.fM.fP.bS,sl ak.K ta.1.fT.fL,sl dS ta.1.fT.cK,sl ak.K ta.1.fP.fL,sl (aP .i64) ta.1.fP.cK,sl mu.K ta.1.fL,vI ta.1.dL,sl iX.K ta.1.fQ,sl iY.K ta.1.fF,eq gb.2.2.1,vI (aE (a0.fN+1))],own Event.K gb.2.2.1 a0.fE]++F) (λ_:Unit=>[lax,bY.O gb.2.1 tc.2,ar ba 69 [vS ta.1.eZ,vI ta.1.bK,vI ta.1.aS,sl bq.K ta.1.fV.fD,sl MK.K ta.1.fM.fL,vI ta.1.fM.fP.bW,sl ak.K ta.1.fM.fP.fL,vI ta.1.fM.fP.bS,sl ak.K ta.1.fT.fL,sl dS ta.1.fT.cK,sl ak.K ta.1.fP.fL,sl (aP .i64) ta.1.fP.cK,sl mu.K ta.1.fL,vI ta.1.dL,sl iX.K ta.1.fQ,sl iY.K ta.1.fF],ar gb.1 72 [eq gb.2.1.1,vS ta.1.eZ,vI ta.1.bK,vI ta.1.aS,sl bq.K ta.1.fV.fD,sl MK.K ta.1.fM.fL,vI ta.1.fM.fP.bW,sl ak.K ta.1.fM.fP.fL,vI ta.1.fM.fP.bS,sl ak.K ta.1.fT.fL,sl dS ta.1.fT.cK,sl ak.K ta.1.fP.fL,sl (aP .i64) ta.1.fP.cK,sl mu.K ta.1.fL,vI ta.1.dL,sl iX.K ta.1.fQ,sl iY.K ta.1.fF,eq gb.2.2.1,vI (aE (a0.fN+1))],own Event.K gb.2.2.1 a0.fE]++F) Q T (cL 38) Q (server_Server_Event.c haf (p0_:=gb.2.1)) (bN (L:=[ar ba 69 [vS ta.1.eZ,vI ta.1.bK,vI ta.1.aS,sl bq.K ta.1.fV.fD,sl MK.K ta.1.fM.fL,vI ta.1.fM.fP.bW,sl ak.K ta.1.fM.fP.fL,vI ta.1.fM.fP.bS,sl ak.K ta.1.fT.fL,sl dS ta.1.fT.cK,sl ak.K ta.1.fP.fL,sl (aP .i64) ta.1.fP.cK,sl mu.K ta.1.fL,vI ta.1.dL,sl iX.K ta.1.fQ,sl iY.K ta.1.fF],ar gb.1 72 [eq gb.2.1.1,vS ta.1.eZ,vI ta.1.bK,vI ta.1.aS,sl bq.K ta.1.fV.fD,sl MK.K ta.1.fM.fL,vI ta.1.fM.fP.bW,sl ak.K ta.1.fM.fP.fL,vI ta.1.fM.fP.bS,sl ak.K ta.1.fT.fL,sl dS ta.1.fT.cK,sl ak.K ta.1.fP.fL,sl (aP .i64) ta.1.fP.cK,sl mu.K ta.1.fL,vI ta.1.dL,sl iX.K ta.1.fQ,sl iY.K ta.1.fF,eq gb.2.2.1,vI (aE (a0.fN+1))],bY.O gb.2.1 a0.fS,own Event.K gb.2.2.1 a0.fE,lax]) (F:=F) [4,2,0,1,3] kr Q Q) Q pE (λ_ _=>?_)
 refine go 2<|wg (WS.shut (p:=p0_) (m:=(⟨tc.2,ta.1,a0.fE,aE (a0.fN+1)⟩:WS)) (gb.1,gb.2.1,gb.2.2) haa (pm 5 [3,1,4,0,2])) λ_ _=>?_
 cases H.out;exact et () 3 [2,1,0] 1
theorem o9.c (h:o9.f a0 a1=some r):Pt prog 17 [agg (cV.enc a0),vS a1] (vS r):=by
 refine pf func17 h λR0 F H=>?_
 refine wr 2 1<|Dv.box Q T Q cA nofun λba=>go 1<|WP.seq<|wr 4 0<|gl 2 [0]<|rr Q Q Q (q7 dc)<|go 1<|ce H ?_ ?_ <;> intro H
 ·refine wr 4 0<|gl 2 [0]<|el H λta haa H=>cl Q (cL 47) Q (kE.c haa)<|gq 1 ?_
  cases H.out;exact ek 1
 refine WP.skip<|wr 9 0<|Dv.lit az ([(⟨#[64,97,58]⟩:BA),(⟨#[64,98,58]⟩:BA),(⟨#[64,99,58]⟩:BA)]:List BA) (css:=[[vS (⟨#[64,97,58]⟩:BA)],[vS (⟨#[64,98,58]⟩:BA)],[vS (⟨#[64,99,58]⟩:BA)]]) Q T iu U9 c9 z9 Q dc dc Q ⟨(cells_one (ai Q)),⟨(cells_one (ai Q)),⟨(cells_one (ai Q)),T⟩⟩⟩ Q Q Q<|gl 2 [0]<|el H λtc hac H=>cl Q (cL 46) Q (dq.c hac)<|gr H λgb H=>Dv.lE Q T Q Q iu U9 c9 gb.1 gb.2<|nK Q T Q o6 Q<|go 1<|gr H λgc H=>rr Q Q Q (nA gc)<|gq 1 ?_
 cases H.out;exact ek 1
theorem lJ.c (h:lJ.f k a0=some r):Pt prog 18 [vI a0] (vS r):=by
 refine pf func18 h λR0 F H=>?_
 refine so<|wr 3 0<|go 1<|el H λta haa H=>cl Q (cL 46) Q (dq.c haa)<|go 1<|WP.seq<|so<|ce H ?_ ?_ <;> intro H
 ·refine sp ?_
  cases H.out;exact ek 0
 refine WP.skip<|WP.seq<|so<|ce H ?_ ?_ <;> intro H
 ·refine sp ?_
  cases H.out;exact ek 0
 refine WP.skip<|wr 3 0<|go 1<|el H λtc hac H=>cl Q (cL 22) Q (dw.c hac)<|gq 1 ?_
 cases H.out;exact ek 0
theorem eA.c (h:eA.f k a0 a1=some r):Pt prog 19 [sl dW.K a0,agg (aM.enc a1)] (agg (Pos.enc r)):=by
 refine pf func19 h λR0 F H=>?_
 refine wr 2 3<|Dv.box Q T Q cA nofun λba=>al Q T nu nofun λbc=>.fin<|sr H id [4] (λ_=>[]) (λ_=>[]) (λpa H=>?_) (λH=>?_)
 ·refine wr 2 2<|Dv.lD (qs:=[vI 0,vS eE]) (css:=[]) Q T uA Ct z49 Q T Q Q<|sy 0 ?_
  refine .fin ?_
  cases H.out;exact r2 i2 Q (.cons (aL Q uA Q yF (ab 0 Q) Q) .nil)
 refine so<|WP.block<|ws 2 [0,1] 0 ?_
 refine lq (λj_ (pc:Int)=>eA.l0 k a0 a1 j_ pc) 0 H [0,3,4] (λpc=>[(5,vI pc)]) (λ_=>[]) ?_
 rintro j_ xa H
 rcases j_ with _ | ja
 ·exact(aW.no H).elim
 try dsimp only at H
 rw [eA.l0] at H
 refine WP.seq<|wr 4 0<|go 2<|Dv.jw Q T Q B0<|go 1<|cf H ?_ ?_ <;> intro H
 ·refine WP.exit ?_
  have H:=H.out
  exact jn (xa,decide (xa<(a0.length:Int))) H
 refine WP.skip<|WP.seq<|WP.block<|wd mX 7 0<|go 2<|gr H λgb H=>Dv.lE Q T Q Q B0 sA vK gb.1 gb.2<|fr Q T Q GW Q<|mY Q T Q sg47 Q<|gl 1 [1]<|Dv.eqs [.string (((dW.K.at a0 xa).kD).aj),.string (((dW.K.at a0 xa).kD).aC),.string (((dW.K.at a0 xa).kD).ah),.bool (((dW.K.at a0 xa).kD).ay)] [.string a1.aj,.string a1.aC,.string a1.ah,.bool a1.ay] Q T Q Q Q Q eg47 (λ_=>dJ 2 dc (λ_=>EJ ((dW.K.at a0 xa).kD) a1))<|.fin<|cf H ?_ ?_ <;> intro H
 ·exact WP.skip<|rg 3 0<|go 3<|bk ja (aE (xa+1)) H
 refine wr 6 32<|go 2<|gr H λgc H=>Dv.lE Q T Q Q B0 sA vK gc.1 gc.2<|fr Q T Q FF Q<|mY Q T Q zy Q<|sy 0 ?_
 refine .fin ?_
 have H:=H.cH
 cases H.out;exact r2 i2 Q (.cons (aL Q uA Q yF (ab 0 Q) Q) .nil)
theorem b7.c (h:b7.f k a0 a1=some r):Pt prog 124 [sl dW.K a0,nH a1] (vI r):=by
 refine pf func124 h λR0 F H=>?_
 refine so<|sr H id [] (λ_=>[]) (λ_=>[]) (λpa H=>?_) (λH=>?_)
 ·refine sp ?_
  cases H.out;exact ek 0
 refine wr 3 0<|go 1<|Dv.jw Q T Q B0<|go 1<|WP.block<|ws 0 [] 0 ?_
 refine lq (λj_ (pc:Int)=>b7.l0 k a0 a1 j_ pc) 0 H [0,1,7] (λpc=>[(8,vI pc)]) (λ_=>[]) ?_
 rintro j_ xa H
 rcases j_ with _ | ja
 ·exact(aW.no H).elim
 try dsimp only at H
 rw [b7.l0] at H
 refine so<|WP.seq<|cf H ?_ ?_ <;> intro H
 ·refine WP.exit ?_
  have H:=H.out
  exact jn (xa,decide (xa<(a0.length:Int))) H
 refine WP.skip<|WP.seq<|WP.block<|so<|wr 6 0<|go 3<|gr H λgb H=>Dv.lE Q T Q Q B0 sA vK gb.1 gb.2<|mY Q T Q sg119 Q<|el H λta haa H=>Dv.ql (ret:=vB ta) Q T Q Q ⟨_,_,haa,Q,Q⟩<|.fin<|cf H ?_ ?_ <;> intro H
 ·exact WP.skip<|rg 2 0<|go 2<|bk ja (aE (xa+1)) H
 refine sp ?_
 have H:=H.cH
 cases H.out;exact ek 0
theorem slices_DeleteFunc_Mark.c {p0_:OV} (h:slices_DeleteFunc_Mark.f k a0 a1=some r):Tr prog 76 [eq p0_.1,nH a1] [own dW.K p0_.1 a0] (γ:=OV) (λ_=>True) (λg=>eq g.1) (λg=>[own dW.K g.1 r]):=by
 refine tf func76 h λR0 F H=>?_
 refine so<|wr 4 0<|go 2<|el H λta haa H=>mH (B:=[own dW.K p0_.1 a0]) 1 [0] (cL 124) (Pt.qz _ (b7.c haa) (.cons (ln (ab 0 Q)) (.cons nV .nil)) cJ) ?_
 refine go 1<|WP.seq<|so<|ce H ?_ ?_ <;> intro H
 ·refine sp ?_
  cases H.out;exact et p0_ 1 [0] 0
 refine WP.skip<|sq H id [0] (λpa=>[(5,vI pa.1)]) (λpa=>[(0,own dW.K p0_.1 pa.2.2.2)]) (λpa H=>?_) (λH=>?_)
 ·refine wr 4 8<|go 2<|gr H λgb H=>vg (oT 0 Q (List.length_pos_iff.1 (Nat.lt_of_le_of_lt (Nat.zero_le _) gb.2))) λgc hac=>?_
  refine Dv.sV (o':=gc.2.1+pa.1.toNat*dW.K.sz) (m':=pa.2.2.2.length-pa.1.toNat) (c':=gc.2.2-pa.1.toNat) Q T ((show opv _ _=some (eq p0_.1) from Q).trans (congrArg (λz=>some (eq z)) hac.1)) B0 sA vK (fg Q gb.1) dQ (Nat.le_of_lt gb.2) hac.2 (.inl (Nat.lt_of_lt_of_le gb.2 hac.2)) Q Q Q<|Dv.GJ (jj:=0) (⟨(⟨eE,eE,eE,false⟩:aM),(⟨0,eE⟩:Pos)⟩:dW) Q T Q B0 z119 Q Q (λu hu=>List.all_eq_true.1 (show(Value.cells _).toList.all (λu=>u.oneCell')=true by kernel_rfl) u hu) hac.1 Q gb.2 Q nofun<|.fin<|wr 4 4<|go 2<|gr H λgi H=>Dv.Jt (jj:=0) Q T Q Q B0 sA vK dQ (fg Q gi.1) (.inl Q) gi.2.1 gi.2.2 nofun (λva=>?_)
  refine gq 1 ?_
  cases H.out;exact et va 1 [0] 0
 refine so<|WP.block<|ws 1 [0] 0 ?_
 refine lq (λj_ (pc:Int×Int×(List dW))=>slices_DeleteFunc_Mark.l0 k a1 j_ pc.1 pc.2.1 pc.2.2) (ta,aE (ta+1),a0) H [0,1] (λpc=>[(5,vI pc.1),(6,vI pc.2.1)]) (λpc=>[(0,own dW.K p0_.1 pc.2.2)]) ?_
 rintro j_ ⟨xa,xb,xc⟩ H
 rcases j_ with _ | ja
 ·exact(aW.no H).elim
 try dsimp only at H
 rw [slices_DeleteFunc_Mark.l0] at H
 refine WP.seq<|wr 4 0<|go 2<|Dv.kl Q T Q (ab 0 Q) B0<|go 1<|cf H ?_ ?_ <;> intro H
 ·refine WP.exit ?_
  have H:=H.out
  exact jn (xa,xb,decide (xb<(xc.length:Int)),xc) H
 refine WP.skip<|WP.seq<|WP.block<|wr 6 48<|go 2<|gr H λgj H=>?_
 have had:xb.toNat<xc.length:=cQ gj
 refine Dv.na Q T Q (ab 0 Q) Q B0 sA vK gj.1 gj.2<|Dv.kX (j:=xb.toNat) (f:=0) Q T Q (ab 0 Q) had sA Q vK (Nat.le_of_ble_eq_true Q)<|al Q T zc119 nofun λba=>sy 0 ?_
 refine .fin<|wr 4 0<|gl 2 [0]<|el H λtc hae H=>Dv.ql (ret:=vB tc) Q T Q Q ⟨_,_,hae,Q,Q⟩<|go 1<|cf H ?_ ?_ <;> intro H
 ·refine WP.skip<|rg 3 0<|go 3<|ns 2 [0,1] 1 ?_
  exact bk ja (xa,aE (xb+1),xc) H
 refine wr 5 16<|gl 3 [0]<|gr H λgk H=>?_
 have haf:xa.toNat<xc.length:=cQ gk
 refine Dv.na Q T Q (ab 1 Q) Q B0 sA vK gk.1 gk.2<|Dv.Ff (j:=xa.toNat) (f:=0) (jj:=1) (⟨(xc.getD xb.toNat default).kD,(xc.getD xb.toNat default).sJ⟩:dW) Q T Q Q (bx (ae (ai Q) (ae (ai Q) (ae (ai Q) (ae (ai Q) (ae (ai Q) (ae (ai Q) cN))))))) sA vK Q Q haf (Nat.le_of_ble_eq_true Q) Q nofun<|.fin<|rg 3 0<|go 3<|rg 3 0<|go 3<|ns 2 [0,1] 1 ?_
 exact bk ja (aE (xa+1),aE (xb+1),xc.set xa.toNat (⟨(xc.getD xb.toNat default).kD,(xc.getD xb.toNat default).sJ⟩:dW)) H
theorem jk.c (h:jk.f a0=some r):Pt prog 198 [vB a0] (vI r):=by
 refine pf func198 h λR0 F H=>?_
 refine so<|WP.seq<|so<|ce H ?_ ?_ <;> intro H
 ·refine sp ?_
  cases H.out;exact ek 0
 refine WP.skip<|sp ?_
 cases H.out;exact ek 0
theorem jz.c (h:jz.f k a0 a1=some r):Pt prog 127 [agg (aM.enc a0),agg (aM.enc a1)] (vI r):=by
 refine pf func127 h λR0 F H=>?_
 refine wr 3 3<|Dv.box Q T Q cA nofun λba=>Dv.box Q T Q cA nofun λbc=>go 1<|wd mX 25 0<|gl 4 [1,0]<|el H λta haa H=>cl Q (cL 196) Q (bu.c haa)<|gl 4 [1,0]<|el H λtc hac H=>cl Q (cL 196) Q (bu.c hac)<|gl 4 [1,0]<|el H λte had H=>cl Q (cL 196) Q (bu.c had)<|gl 2 [1]<|el H λtg hae H=>cl Q (cL 198) Q (jk.c hae)<|gl 2 [0]<|el H λtj haf H=>cl Q (cL 198) Q (jk.c haf)<|el H λtm hag H=>cl Q (cL 197) Q (dj.c hag)<|Dv.lit (aP .i64) ([ta,tc,te,tm]:List Int) (css:=[[vI ta],[vI tc],[vI te],[vI tm]]) Q T yn U3 c3 z3 Q dc dc Q ⟨(cells_one (ai Q)),⟨(cells_one (ai Q)),⟨(cells_one (ai Q)),⟨(cells_one (ai Q)),T⟩⟩⟩⟩ Q Q Q<|el H λtn hah H=>cl Q (cL 195) Q (b8.c hah)<|gq 1 ?_
 cases H.out;exact ek 2
theorem iL.c (h:iL.f k a0 a1=some r):Pt prog 126 [agg (dW.enc a0),agg (dW.enc a1)] (vI r):=by
 refine pf func126 h λR0 F H=>?_
 refine wr 3 3<|Dv.box Q T Q cA nofun λba=>Dv.box Q T Q cA nofun λbc=>go 1<|wr 6 0<|gl 4 [1,0]<|el H λta haa H=>cl Q (cL 127) Q (jz.c haa)<|gq 1 ?_
 cases H.out;exact ek 2
theorem u9 (x y:BA):bu.f x y=some (nS x y):=by
 unfold bu.f cmp_isNaN_string.f nS
 simp only [Option.bind_some,bne_self_eq_false,decide_true,Bool.not_true,cond_false]
 cases il x y <;> cases il y x <;> rfl
theorem AR:CE DR:=(xn.zI (λx:aM=>x.aj)).or ((xn.zI (λx:aM=>x.aC)).or ((xn.zI (λx:aM=>x.ah)).or (FX.zI (λx:aM=>if x.ay then 1 else 0))))
theorem Ei (x y:Int):dj.f x y=some (rS x y):=by
 unfold dj.f cmp_isNaN_int.f rS
 simp only [Option.bind_some,bne_self_eq_false,cond_false]
 by_cases h:x<y
 ·simp [h]
 by_cases k:y<x <;> simp [h,k]
theorem or4_f (a b c d:Int):b8.f 8 [a,b,c,d]=some (C8 a (C8 b (C8 c d))):=by
 unfold C8
 have e1:IntKind.i64.wrap 1=1:=dc
 have e2:IntKind.i64.wrap 2=2:=dc
 have e3:IntKind.i64.wrap 3=3:=dc
 have e4:IntKind.i64.wrap 4=4:=dc
 by_cases h1:a=0 <;> by_cases h2:b=0 <;> by_cases h3:c=0 <;> by_cases h4:d=0 <;> simp [b8.f,b8.l0,Kd.at,aP,aF,fall,h1,h2,h3,h4,aE,e1,e2,e3,e4,bne_iff_ne,show ∀ x:Int,(x != 0)=decide (x≠0) from λx=>by by_cases h:x=0 <;> simp [h]]
theorem Ip (x y:aM):jz.f 8 x y=some (DR x y):=by
 unfold jz.f jk.f
 rw [u9,u9,u9]
 have e:∀ b:Bool,(cond b (some 1) (some 0):Option Int)=some (if b then 1 else 0):=λb=>by cases b <;> rfl
 simp only [Option.bind_some,e,Ei,or4_f]
 rfl
theorem aD.cf_f (x y:dW):iL.f 8 x y=some (aD.cf x y):=by
 unfold iL.f
 rw [Ip]
 rfl
theorem aD.Ii:CE aD.cf:=AR.zI (λx:dW=>x.kD)
theorem aD.c {p0_:OV} (h:aD.f a0=some r):Tr prog 125 [eq p0_.1,eq (.func (.func 126) #[] #[])] [own dW.K p0_.1 a0] (γ:=Unit) (λ_=>True) (λg=>lg []) (λg=>[own dW.K p0_.1 r]):=by
 unfold aD.f at h
 obtain⟨⟨h0,hT⟩,h5⟩:=(aW.of h).aF
 obtain rfl:=aW.out h5
 exact Cq (K:=dW.K) (λ_=>(cD iD (cD iD (cD iD (cD iD (cD iD (cD iD ot))))))) dc aD.Ii.swo hT (λx y=>iL.c (aD.cf_f x y)) (λev hk h1 cf hO ar off cap d w hc hH hb hs=>AnyQ.slices_SortFunc Tryz.lays6f125 6 Tryz.isAgg119 Tryz.sizeOf119 ev hk h1 cf hO 126 #[] ar off cap d w (enters_of func126 kr Q) hc hH hb hs) (λq cap w=>AnyF.slices_SortFunc_none Tryz.lays6f125 q cap _ w) om
theorem iz.c {p0_:OV} (h:iz.f a0=some r):Tr prog 77 [eq p0_.1] [gP.O p0_ a0] (γ:=OV) (λ_=>True) (λg=>eq g.1) (λg=>[gP.O p0_ a0,own dW.K g.1 r]):=by
  unfold iz.f at h
  refine tb func77 ntmps77 h λR0 F H=>?_
  refine WP.seq ?_
  refine rg 1 0 ?_
  refine Dv.uW Q T Q ?_
  refine .fin ?_
  refine WP.seq ?_
  refine rg 1 0 ?_
  refine Dv.uW Q T Q ?_
  refine .fin ?_
  obtain⟨gb,H⟩:=aW.aF H
  refine WP.xX (β:=List Nat×OV) (λb=>b.1.Perm (List.range a0.dA.length)) (λb=>[(3,eq b.2.1)]) (λb=>[own dW.K b.2.1 (eD a0.dA (λe:aM×Pos=>some (⟨e.1,e.2⟩:dW)) b.1),gP.O p0_ a0]++F) (λb hb=>?_) ?_
  · obtain⟨is,va⟩:=b
    replace hb:is.Perm (List.range a0.dA.length):=hb
    have hp:=pP (f:=(λe:aM×Pos=>some (⟨e.1,e.2⟩:dW))) hb
    have e7:a0.dA.filterMap (λe:aM×Pos=>some (⟨e.1,e.2⟩:dW))=(a0.dA.map (λe:aM×Pos=>(⟨e.1,e.2⟩:dW))):=by rw [<- List.filterMap_eq_map];rfl
    rw [e7] at hp
    have hs:aD.f (eD a0.dA (λe:aM×Pos=>some (⟨e.1,e.2⟩:dW)) is)=some (lW aD.cf (a0.dA.map (λe:aM×Pos=>(⟨e.1,e.2⟩:dW)))):=by
      unfold aD.f Sp.aF
      rw [if_pos ⟨by rw [hp.length_eq,List.length_map];exact gb.1,(hp.pairwise_iff (λh=>h.symm)).2 gb.2⟩,yU aD.Ii.swo gb.2 ((oD _).trans hp) (uB aD.Ii.swo _)]
    refine wr 2 2<|go 1<|cx 2 [0,1] (cL 125) (aD.c hs (p0_:=va)) nofun λ_ _=>.fin ?_
    refine WP.gh (l':=λ_:Unit=>[own dW.K va.1 (lW aD.cf (a0.dA.map (λe:aM×Pos=>(⟨e.1,e.2⟩:dW)))),gP.O p0_ a0]++F) (bL (ok:=λ_=>True) λR w k=>⟨(),T,k⟩) (λ_ _=>?_)
    refine WP.seq ?_
    refine rg 2 0 ?_
    refine Dv.mv Q T Q ?_
    refine Dv.uW Q T Q ?_
    refine .fin ?_
    obtain rfl:=aW.out H
    exact WP.u7 (λ_ _ h=>h) Q va T (.cons (aQ Q) .nil) Q (oX (L:=[own dW.K va.1 (lW aD.cf (a0.dA.map (λe:aM×Pos=>(⟨e.1,e.2⟩:dW)))),gP.O p0_ a0]) (F:=F) [1,0] 0 Q Q Q)
  · refine WP.seq ?_
    refine rg 5 16 ?_
    refine Dv.mv Q T Q ?_
    refine Dv.mD gP.nn Q T Q (ab 0 Q) ?_
    refine Dv.gh (l':=λ(gc:Nat×OV)=>[ar gc.1 203 [eq gc.2.1],mp aM.kv (λx:Pos=>agg (Pos.enc x)) gc.2.1 a0.dA]++F) (bL (gP.eF 0 Q)) (λgc haa=>?_)
    refine fp haa Q T Q rX ?_
    refine jf 1 [0] ?_
    refine Dv.Jp (jj:=1) Q T Q Q CO nofun (λqa=>?_)
    refine .fin ?_
    refine WP.gh (l':=λ_:Unit=>[ar gc.1 203 [eq gc.2.1],kG aM.kv (λx:Pos=>agg (Pos.enc x)) gc.2.1 qa.1 a0.dA []]++F) (bL (ok:=λ_=>True) λR w k=>⟨(),T,k⟩) (λ_ _=>?_)
    refine WP.gh (l':=λ_:Unit=>[own dW.K iQ.1 [],ar gc.1 203 [eq gc.2.1],kG aM.kv (λx:Pos=>agg (Pos.enc x)) gc.2.1 qa.1 a0.dA []]++F) (bL (dX dW.K none)) (λ_ _=>?_)
    refine WP.gh (l':=λ_:Unit=>[own dW.K iQ.1 [],kG aM.kv (λx:Pos=>agg (Pos.enc x)) gc.2.1 qa.1 a0.dA [],ar gc.1 203 [eq gc.2.1]]++F) (bL (py 3 [0,2,1] 0 kr Q Q)) (λ_ _=>?_)
    refine WP.block ?_
    refine WP.fG (E':=(λb:List Nat×OV=>[(3,eq b.2.1),(10,eq qa.1)]) ([],iQ)) (aH Q (aH Q dD)) (WP.loop (β:=List Nat×OV) (λkk b=>b.1.length+kk=a0.dA.length) (λb=>[(3,eq b.2.1),(10,eq qa.1)]) (λb=>[own dW.K b.2.1 (eD a0.dA (λe:aM×Pos=>some (⟨e.1,e.2⟩:dW)) b.1),kG aM.kv (λx:Pos=>agg (Pos.enc x)) gc.2.1 qa.1 a0.dA b.1,ar gc.1 203 [eq gc.2.1]]++F) ?_ (k:=a0.dA.length) (b:=([],iQ)) (Nat.zero_add _))
    rintro kk ⟨is,v⟩ hk
    replace hk:is.length+kk=a0.dA.length:=hk
    refine wr 2 1<|Dv.Jg (jj:=1) Q T Q Q nofun (λz hz=>?_)
    rcases z with _ | j
    · have hz:is.Perm (List.range a0.dA.length):=hz
      refine dZ Q T Q Q<|.fin<|WP.seq<|WP.cond Q nofun (λ_=>WP.exit ?_)
      refine Dn.gh (l':=λ_:Unit=>[own dW.K v.1 (eD a0.dA (λe:aM×Pos=>some (⟨e.1,e.2⟩:dW)) is),kG aM.kv (λx:Pos=>agg (Pos.enc x)) gc.2.1 qa.1 a0.dA is,ar gc.1 203 [eq gc.2.1]]++F) (bL (ok:=λ_=>True) λR w k=>⟨(),T,k⟩) (λ_ _=>?_)
      refine Dn.gh (l':=λ_:Unit=>[mp aM.kv (λx:Pos=>agg (Pos.enc x)) gc.2.1 a0.dA,own dW.K v.1 (eD a0.dA (λe:aM×Pos=>some (⟨e.1,e.2⟩:dW)) is),ar gc.1 203 [eq gc.2.1]]++F) (bL (rB (pm 3 [1,0,2]))) (λ_ _=>?_)
      refine Dn.gh (l':=λ_:Unit=>[gP.O p0_ a0,own dW.K v.1 (eD a0.dA (λe:aM×Pos=>some (⟨e.1,e.2⟩:dW)) is)]++F) (bL (gP.shut (p:=p0_) (m:=a0) (r:=[own dW.K v.1 (eD a0.dA (λe:aM×Pos=>some (⟨e.1,e.2⟩:dW)) is)]++F) (gc.1,gc.2) haa (bN (L:=[mp aM.kv (λx:Pos=>agg (Pos.enc x)) gc.2.1 a0.dA,own dW.K v.1 (eD a0.dA (λe:aM×Pos=>some (⟨e.1,e.2⟩:dW)) is),ar gc.1 203 [eq gc.2.1]]) (F:=F) [2,0,1] Q Q Q))) (λ_ _=>?_)
      refine Dn.gh (l':=λ_:Unit=>[own dW.K v.1 (eD a0.dA (λe:aM×Pos=>some (⟨e.1,e.2⟩:dW)) is),gP.O p0_ a0]++F) (bL (nX (L:=[gP.O p0_ a0,own dW.K v.1 (eD a0.dA (λe:aM×Pos=>some (⟨e.1,e.2⟩:dW)) is)]) (F:=F) [1,0] 0 Q Q Q)) (λ_ _=>?_)
      exact Jn.mk (is,v) hz (aH Q dD) (List.Perm.refl _)
    have hz:j<a0.dA.length/\j ∉ is/\is.length<a0.dA.length:=hz
    obtain⟨e,he⟩:∃ e,a0.dA[j]? = some e:=⟨_,gE hz.1⟩
    have hsl:=Nat.le_trans (qJ (m:=a0.dA) (f:=(λe:aM×Pos=>some (⟨e.1,e.2⟩:dW))) (is:=is)) (Nat.le_of_lt hz.2.2)
    have e1:nxV aM.kv (λx:Pos=>agg (Pos.enc x)) a0.dA (some j)=lg [vB true,eq (aM.kv e.1),(λx:Pos=>agg (Pos.enc x)) e.2]:=by simp only [nxV,he]
    rw [e1]
    refine dZ Q T Q Q<|.fin<|WP.seq<|WP.cond Q (λ_=>WP.skip ?_) nofun
    refine WP.gh (l':=λ_:Unit=>[own dW.K v.1 (eD a0.dA (λe:aM×Pos=>some (⟨e.1,e.2⟩:dW)) is),kG aM.kv (λx:Pos=>agg (Pos.enc x)) gc.2.1 qa.1 a0.dA (is++[j]),ar gc.1 203 [eq gc.2.1]]++F) (bL (ok:=λ_=>True) λR w k=>⟨(),T,k⟩) (λ_ _=>?_)
    refine WP.block<|wr 7 120<|Dv.Jr 1 Q T Q Q he ?_
    refine dZ Q T Q Q<|dZ Q T Q Q<|al Q T Hj nofun λb4=>al Q T nu nofun λb5=>?_
    refine sx 1 Q T Q Q (Ej (vs:=aM.cv e.1) (by intro u hu;simp [aM.cv] at hu;rcases hu with rfl | hu <;> first | exact Q | (rcases hu with rfl | hu <;> first | exact Q | (rcases hu with rfl | rfl <;> rfl)))) sz47 Q Q Q nofun<|sx 0 Q T Q Q (bx (Pos.K.one _)) vZ Q Q Q nofun<|.fin ?_
    refine WP.gh (l':=λ_:Unit=>[ar b5 49 (Pos.enc e.2),ar b4 47 (aM.enc e.1),own dW.K v.1 (eD a0.dA (λe:aM×Pos=>some (⟨e.1,e.2⟩:dW)) is),kG aM.kv (λx:Pos=>agg (Pos.enc x)) gc.2.1 qa.1 a0.dA (is++[j]),ar gc.1 203 [eq gc.2.1]]++F) (bL (ok:=λ_=>True) λR w k=>⟨(),T,k⟩) (λ_ _=>?_)
    have e6:=o7 (f:=(λe:aM×Pos=>some (⟨e.1,e.2⟩:dW))) (is:=is) he rfl
    have H:aW (aF ((eD a0.dA (λe:aM×Pos=>some (⟨e.1,e.2⟩:dW)) is).length+([(⟨e.1,e.2⟩:dW)]:List dW).length<=9223372036854775807/\((eD a0.dA (λe:aM×Pos=>some (⟨e.1,e.2⟩:dW)) is).length+([(⟨e.1,e.2⟩:dW)]:List dW).length)*80<=140737488355328) (some ())) (λ_:Unit=>True):=⟨(),by unfold aF;rw [if_pos (by rw [List.length_singleton];omega)],trivial⟩
    refine rg 7 32 ?_
    refine Dv.mv Q T Q ?_
    refine jf 1 [1] ?_
    refine jf 1 [0] ?_
    refine Dv.lD (qs:=[vS e.1.aj,vS e.1.aC,vS e.1.ah,vB e.1.ay,vI e.2.br,vS e.2.cC]) (css:=[aM.enc e.1,Pos.enc e.2]) Q T sA pl119 z119 Q ⟨(bx (aM.K.one _)),⟨(bx (Pos.K.one _)),T⟩⟩ Q Q ?_
    refine Dv.lit dW.K ([(⟨e.1,e.2⟩:dW)]:List dW) (css:=[[vS e.1.aj,vS e.1.aC,vS e.1.ah,vB e.1.ay,vI e.2.br,vS e.2.cC]]) Q T B0 sA vK z119 Q dc dc Q ⟨(bx (ae (ai Q) (ae (ai Q) (ae (ai Q) (ae (ai Q) (ae (ai Q) (ae (ai Q) cN))))))),T⟩ Q Q Q ?_
    obtain⟨gi,H⟩:=aW.aF H
    refine Dv.uX (Kd:=dW.K) (jj:=2) (ys:=([(⟨e.1,e.2⟩:dW)]:List dW)) (λvb:OV=>[ar b5 49 (Pos.enc e.2),ar b4 47 (aM.enc e.1),own dW.K vb.1 ((eD a0.dA (λe:aM×Pos=>some (⟨e.1,e.2⟩:dW)) is)++([(⟨e.1,e.2⟩:dW)]:List dW)),kG aM.kv (λx:Pos=>agg (Pos.enc x)) gc.2.1 qa.1 a0.dA (is++[j]),ar gc.1 203 [eq gc.2.1]]++F) Q T Q Q Q dG B0 (.inr ⟨_,B0⟩) I0 Q dc gi Q nofun (λvb=>?_)
    refine Dv.uW Q T Q ?_
    refine .fin ?_
    refine Dn.gh (l':=λ_:Unit=>[own dW.K vb.1 ((eD a0.dA (λe:aM×Pos=>some (⟨e.1,e.2⟩:dW)) is)++([(⟨e.1,e.2⟩:dW)]:List dW)),kG aM.kv (λx:Pos=>agg (Pos.enc x)) gc.2.1 qa.1 a0.dA (is++[j]),ar gc.1 203 [eq gc.2.1]]++F) (bL (nX (L:=[ar b5 49 (Pos.enc e.2),ar b4 47 (aM.enc e.1),own dW.K vb.1 ((eD a0.dA (λe:aM×Pos=>some (⟨e.1,e.2⟩:dW)) is)++([(⟨e.1,e.2⟩:dW)]:List dW)),kG aM.kv (λx:Pos=>agg (Pos.enc x)) gc.2.1 qa.1 a0.dA (is++[j]),ar gc.1 203 [eq gc.2.1]]) (F:=F) [0,1,2,3,4] 2 kr Q Q)) (λ_ _=>?_)
    rw [e6]
    exact qt.mk (kk-1) (is++[j],vb) om (by show(is++[j]).length+(kk-1)=_;rw [List.length_append,List.length_singleton];omega) (aH Q (aH Q dD)) (List.Perm.refl _)
theorem eo.c (h:eo.f a0=some r):Pt prog 78 [agg (dW.enc a0)] (vB r):=by
 refine pf func78 h λR0 F H=>?_
 refine wr 2 1<|Dv.box Q T Q cA nofun λba=>go 1<|Jq [0] ?_
 cases H.out;exact ek 1
theorem fu.c {p0_:OV} (h:fu.f k a0=some r):Tr prog 48 [eq p0_.1] [gP.O p0_ a0] (γ:=OV) (λ_=>True) (λg=>eq g.1) (λg=>[gP.O p0_ a0,own dW.K g.1 r]):=by
 refine tf func48 h λR0 F H=>?_
 refine so<|wr 4 6<|go 1<|el H λta haa H=>cx 1 [0] (cL 77) (iz.c haa (p0_:=p0_)) nofun λgb _=>?_
 refine el H λtc hac H=>cx 2 [1,0] (cL 76) (Tr.fG (slices_DeleteFunc_Mark.c hac (p0_:=gb)) (.cons cG (.cons (tA (cL 78) (by rintro _ _ ⟨a0_,r_,h_,rfl,rfl⟩;exact eo.c h_)) .nil))) nofun λgc _=>?_
 refine gq 1 ?_
 cases H.out;exact et gc 2 [1,0] 0
theorem dC.c {p0_:OV} (h:dC.f k a0=some r):Tr prog 20 [eq p0_.1] [bY.O p0_ a0] (γ:=OV) (λ_=>True) (λg=>eq g.1) (λg=>[bY.O p0_ a0,own dW.K g.1 r]):=by
 refine tf func20 h λR0 F H=>?_
 refine so<|wr 10 256<|go 1<|Dv.mD bY.nn Q T Q (ab 0 Q)<|vg (bY.eF 0 Q) λgb haa=>?_
 refine fp haa Q T Q iS<|gl 2 [0]<|Dv.mD dE.nn Q T Q (ab 4 Q)<|vg (dE.eF 4 Q) λgc hac=>?_
 refine fp hac Q T Q xF<|gl 1 [0]<|el H λta had H=>cx 12 [1,0,2,3,4,5,6,7,8,9,10,11] (cL 48) (fu.c had (p0_:=gc.2.1)) nofun λgi _=>?_
 refine go 1<|wg (dE.shut (p:=gb.2.2.2.2.1) (m:=a0.fall.aA) (gc.1,gc.2.1,gc.2.2) hac (pm 13 [2,0,3,1,4,5,6,7,8,9,10,11,12])) λ_ _=>?_
 refine wg (bY.shut (p:=p0_) (m:=a0) (gb.1,gb.2.1,gb.2.2.1,gb.2.2.2.1,gb.2.2.2.2.1,gb.2.2.2.2.2.1,gb.2.2.2.2.2.2.1,gb.2.2.2.2.2.2.2.1,gb.2.2.2.2.2.2.2.2.1,gb.2.2.2.2.2.2.2.2.2) haa (pm 11 [2,3,4,5,0,6,7,8,9,10,1])) λ_ _=>?_
 cases H.out;exact et gi 2 [0,1] 0
theorem fq.c {p0_:OV} (h:fq.f k a0 a1 a2 a3 a4 a5=some r):Tr prog 21 [eq p0_.1,vS a1,vS a2,vS a3,vS a4,vB a5] [lax,bY.O p0_ a0] (γ:=Unit) (λ_=>True) (λg=>vI r.1) (λg=>[lax,bY.O p0_ r.2]):=by
 refine tf func21 h λR0 F H=>?_
 refine so<|wr 9 128<|go 6<|Dv.lD (qs:=[vI 1,vS a2,vS a1,vS a3,vS a4,vB a5,vB false,vI 0,vI 0,vI 0,vI 0]) (css:=[[vI 1],[vS a2],[vS a1],[vS a3],[vS a4],[vB a5]]) Q T fO s5 z80 Q ⟨(cells_one (ai Q)),⟨(cells_one (ai Q)),⟨(cells_one (ai Q)),⟨(cells_one (ai Q)),⟨(cells_one (ai Q)),⟨(cells_one (ai Q)),T⟩⟩⟩⟩⟩⟩ Q Q<|el H λta haa H=>cx 2 [0,1] (cL 49) (bF.c haa (p0_:=p0_)) nofun λ_ _=>?_
 refine gq 1 ?_
 cases H.out;exact et () 2 [0,1] 0
theorem oP.c (h:oP.f k a0=some r):Pt prog 25 [agg (ak.enc a0)] (vB r):=by
 refine pf func25 h λR0 F H=>?_
 refine wr 2 1<|Dv.box Q T Q cA nofun λba=>go 1<|wr 3 0<|gl 1 [0]<|el H λta haa H=>cl Q (cL 54) Q (iC.c haa)<|go 1<|wr 7 0<|gp 2 ?_
 cases ca:ta
 ·have H:=H.cf ca
  refine gq 5 ?_
  cases H.out;exact ek 1
 have H:=H.ct ca
 refine E9 5 [0] ?_
 cases H.out;exact ek 1
end Go.Proofs.YtelcbdmigiacpaaGreat
