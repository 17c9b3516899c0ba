import Derived.Test.YtfknmdelgepbjaaGreatDoorVZWalks3
set_option linter.all false
set_option autoImplicit true
set_option maxRecDepth 10000
set_option maxHeartbeats 20000000
namespace Go.Proofs.YtfknmdelgepbjaaGreatDoor
open Go Go.Sp Tryz
theorem bf.c (h:bf.f k a0 a1 a2 a3=some r):Pt prog 15 [agg (dU.enc a0),vS a1,vI a2,vI a3] (lu [agg (mf.enc r.1),vI r.2]):=by
 refine pf func15 h fun R0 F H=>?_
 refine wr 3 3<|Dv.box Q T Q cA nofun fun ba=>al Q T Em nofun fun bc=>go 1<|wr 7 0<|gl 4 [1,1]<|Dv.fk Q T Q Bc<|go 2<|WP.seq<|wr 7 0<|gp 3 ?_
 rcases bm H with ⟨cc,H⟩ | ⟨cc,H⟩
 rotate_left
 ·
  refine sh 32 cc ?_
  refine sh 33 cc ?_
  refine go 4<|WP.cond Q (fun _=>?_) nofun
  refine wr 3 2<|Dv.kL (qs:=[vI 0,dJ,dJ,dJ]) (css:=[]) Q T Jr H9 z66 Q T Q Q<|sy 0 ?_
  refine gq 1 ?_
  cases H.out; exact r2 i2 Q (.cons (nW (au Q Jr Q c66 (aa 0 Q) Q) (mZ (.cons bV (.cons cU (.cons cU (.cons cU .nil)))))) (.cons (aB Q) .nil))
 refine sh 32 cc ?_
 refine sh 33 cc ?_
 refine go 4<|ce H ?_ ?_ <;> intro H
 ·
  refine wr 3 2<|Dv.kL (qs:=[vI 0,dJ,dJ,dJ]) (css:=[]) Q T Jr H9 z66 Q T Q Q<|sy 0 ?_
  refine gq 1 ?_
  cases H.out; exact r2 i2 Q (.cons (nW (au Q Jr Q c66 (aa 0 Q) Q) (mZ (.cons bV (.cons cU (.cons cU (.cons cU .nil)))))) (.cons (aB Q) .nil))
 refine WP.skip<|wr 4 12<|go 1<|Dv.kL (qs:=[vI (av (a0.aC+(a0.fL.length:Int))),dJ,dJ,dJ]) (css:=[[vI (av (a0.aC+(a0.fL.length:Int)))]]) Q T Jr H9 z66 Q ⟨(cells_one (ah Q)),T⟩ Q Q<|al Q T Em nofun fun bd=>sy 0 ?_
 refine .fin<|WP.jh H (fun qh:(Int×Bool×(List MK))×OV=>qh.1) (fun qh=>[(1,vS a1),(2,vI a2),(3,vI a3),(4,ey ba),(8,ey bc),(11,ey bd)]) (fun qh=>[aE bd 66 [vI (av (a0.aC+(a0.fL.length:Int))),eq qh.2.1,dJ,dJ],aE bc 66 [vI 0,dJ,dJ,dJ],aE ba 43 [sl aM.K a0.fV.fD,sl MK.K a0.fM,sl ak.K a0.fT.fL,sl cG a0.fT.db,sl ak.K a0.fP.fL,sl (bq .i64) a0.fP.db,sl kb.K a0.fL,vI a0.aC],own MK.K qh.2.1 qh.1.2.2]++F) (fun qh H=>?_) (fun H=>?_)
 rotate_left
 ·
  refine so<|WP.block<|wg (dy MK.K none) fun _ _=>?_
  refine ws 4 [1,2,3,0] 0 ?_
  refine lq (fun j_ (pa:Int×(List MK)×OV)=>bf.l3 k a0 a1 a2 j_ pa.1 pa.2.1) (0,([]:List MK),jR) H [1,2,3,4,8,11] (fun pa=>[(12,vI pa.1)]) (fun pa=>[(0,aE bd 66 [vI (av (a0.aC+(a0.fL.length:Int))),eq pa.2.2.1,dJ,dJ]),(3,own MK.K pa.2.2.1 pa.2.1)]) ?_
  rintro j_ ⟨xc,xd,va⟩ H
  rcases j_ with _ | ja
  ·
   exact (aS.no H).elim
  try dsimp only at H
  rw [bf.l3] at H
  refine WP.seq<|wr 5 0<|gl 3 [2]<|Dv.fk Q T Q pO<|go 1<|cf H ?_ ?_ <;> intro H
  ·
   refine WP.exit ?_
   have H:=H.out
   exact jn ((xc,decide (xc<(a0.fM.length:Int)),xd),va) H
  refine WP.skip<|WP.seq<|WP.block<|wr 8 192<|gl 3 [2]<|gr H fun ga H=>Dv.fR Q T Q Q pO wX Bg ga.1 ga.2<|fr Q T Q Bz Q<|lr Q T Q Kv Q<|al Q T zc79 nofun fun be=>sy 0 ?_
  refine .fin<|wd mX 7 0<|gl 3 [3,0]<|Dv.kL (qs:=[vI 1,vS (((MK.K.at a0.fM xc).fK).ab),vS (((MK.K.at a0.fM xc).fK).aj),vS (((MK.K.at a0.fM xc).fK).ae),vB (((MK.K.at a0.fM xc).fK).aq),vS eE]) (css:=[[vI 1],bB.enc ((MK.K.at a0.fM xc).fK)]) Q T rf xV z116 Q ⟨(cells_one (ah Q)),⟨(aR (bB.K.one _)),T⟩⟩ Q Q<|el H fun ta haa H=>cl Q (cL 49) Q (iL.c haa)<|el H fun tc hac H=>cl Q (cL 68) Q (fS.c hac)<|go 1<|wr 7 0<|gl 5 [3,0]<|el H fun te had H=>cl Q (cL 27) Q (eB.c had)<|go 1<|wr 15 0<|gp 2 ?_
  rcases bm H with ⟨cg,H⟩ | ⟨cg,H⟩
  ·
   refine sh 59 cg ?_
   refine sh 14 cg ?_
   refine sh 66 cg ?_
   refine sh 67 cg ?_
   refine go 13<|WP.cond Q nofun (fun _=>?_)
   refine WP.skip<|rg 3 0<|go 3<|ns 5 [0,1,2,3,4] 1 ?_
   exact bk ja (av (xc+1),xd,va) H
  refine sh 59 cg ?_
  refine sh 14 cg ?_
  refine sh 66 cg ?_
  refine sh 67 cg ?_
  refine gp 3 ?_
  rcases bm H with ⟨ci,H⟩ | ⟨ci,H⟩
  ·
   refine sh 65 ci ?_
   refine sh 15 ci ?_
   refine sh 68 ci ?_
   refine sh 69 ci ?_
   refine sh 70 ci ?_
   refine go 10<|WP.cond Q nofun (fun _=>?_)
   refine WP.skip<|rg 3 0<|go 3<|ns 5 [0,1,2,3,4] 1 ?_
   exact bk ja (av (xc+1),xd,va) H
  refine sh 65 ci ?_
  refine sh 15 ci ?_
  refine sh 68 ci ?_
  refine sh 69 ci ?_
  refine sh 70 ci ?_
  refine kU 4 [0] ?_
  rcases bm H with ⟨cj,H⟩ | ⟨cj,H⟩
  rotate_left
  ·
   refine sh 73 cj ?_
   refine sh 74 cj ?_
   refine go 6<|WP.cond Q (fun _=>?_) nofun
   refine dg mX 11 1280<|gl 5 [1,3]<|gr H fun gb H=>Dv.fR Q T Q Q pO wX Bg gb.1 gb.2<|lr Q T Q JH Q<|Dv.lit MK.K ([(⟨(MK.K.at a0.fM xc).fK,(MK.K.at a0.fM xc).hM⟩:MK)]:List MK) (css:=[[vS (((MK.K.at a0.fM xc).fK).ab),vS (((MK.K.at a0.fM xc).fK).aj),vS (((MK.K.at a0.fM xc).fK).ae),vB (((MK.K.at a0.fM xc).fK).aq),vI (((MK.K.at a0.fM xc).hM).br),vS (((MK.K.at a0.fM xc).hM).bQ)]]) Q T pO wX Bg LQ Q dc dc Q ⟨(aR (ai (ah Q) (ai (ah Q) (ai (ah Q) (ai (ah Q) (ai (ah Q) (ai (ah Q) bM))))))),T⟩ Q Q Q<|gr H fun gi H=>ap MK.K 4 ([(⟨(MK.K.at a0.fM xc).fK,(MK.K.at a0.fM xc).hM⟩:MK)]:List MK) bD pO (.inr ⟨_,pO⟩) vT gi pB fun vb=>?_
   refine go 1<|sx 1 Q T Q Q (cells_one bG) Jm Q Q Q pB ?_
   refine .fin<|rg 3 0<|go 3<|ns 5 [0,1,2,3,4] 1 ?_
   exact bk ja (av (xc+1),xd++([(⟨(MK.K.at a0.fM xc).fK,(MK.K.at a0.fM xc).hM⟩:MK)]:List MK),vb) H
  refine sh 73 cj ?_
  refine sh 74 cj ?_
  refine gl 6 [0]<|cf H ?_ ?_ <;> intro H
  ·
   refine WP.skip<|rg 3 0<|go 3<|ns 5 [0,1,2,3,4] 1 ?_
   exact bk ja (av (xc+1),xd,va) H
  refine dg mX 11 1280<|gl 5 [1,3]<|gr H fun gj H=>Dv.fR Q T Q Q pO wX Bg gj.1 gj.2<|lr Q T Q JH Q<|Dv.lit MK.K ([(⟨(MK.K.at a0.fM xc).fK,(MK.K.at a0.fM xc).hM⟩:MK)]:List MK) (css:=[[vS (((MK.K.at a0.fM xc).fK).ab),vS (((MK.K.at a0.fM xc).fK).aj),vS (((MK.K.at a0.fM xc).fK).ae),vB (((MK.K.at a0.fM xc).fK).aq),vI (((MK.K.at a0.fM xc).hM).br),vS (((MK.K.at a0.fM xc).hM).bQ)]]) Q T pO wX Bg LQ Q dc dc Q ⟨(aR (ai (ah Q) (ai (ah Q) (ai (ah Q) (ai (ah Q) (ai (ah Q) (ai (ah Q) bM))))))),T⟩ Q Q Q<|gr H fun gk H=>ap MK.K 4 ([(⟨(MK.K.at a0.fM xc).fK,(MK.K.at a0.fM xc).hM⟩:MK)]:List MK) bD pO (.inr ⟨_,pO⟩) vT gk pB fun vd=>?_
  refine go 1<|sx 1 Q T Q Q (cells_one bG) Jm Q Q Q pB ?_
  refine .fin<|rg 3 0<|go 3<|ns 5 [0,1,2,3,4] 1 ?_
  exact bk ja (av (xc+1),xd++([(⟨(MK.K.at a0.fM xc).fK,(MK.K.at a0.fM xc).hM⟩:MK)]:List MK),vd) H
 obtain ⟨pc,ve⟩:=qh
 refine so<|so<|WP.jh H (fun qi:(Int×Bool×(List BA)×(List BA))×OV×OV=>qi.1) (fun qi=>[(1,vS a1),(2,vI a2),(3,vI a3),(4,ey ba),(8,ey bc),(11,ey bd),(16,eq qi.2.1.1),(17,eq qi.2.2.1)]) (fun qi=>[aE bd 66 [vI (av (a0.aC+(a0.fL.length:Int))),eq ve.1,dJ,dJ],aE bc 66 [vI 0,dJ,dJ,dJ],aE ba 43 [sl aM.K a0.fV.fD,sl MK.K a0.fM,sl ak.K a0.fT.fL,sl cG a0.fT.db,sl ak.K a0.fP.fL,sl (bq .i64) a0.fP.db,sl kb.K a0.fL,vI a0.aC],own MK.K ve.1 pc.2.2,own aw qi.2.1.1 qi.1.2.2.1,own aw qi.2.2.1 qi.1.2.2.2]++F) (fun qi H=>?_) (fun H=>?_)
 rotate_left
 ·
  refine so<|WP.block<|wg (dy aw none) fun _ _=>?_
  refine wg (dy aw none) fun _ _=>?_
  refine ws 6 [2,3,4,5,1,0] 0 ?_
  refine lq (fun j_ (pe:Int×(List BA)×(List BA)×OV×OV)=>bf.l2 k a0 j_ pe.1 pe.2.1 pe.2.2.1) (0,([]:List BA),([]:List BA),jR,C9) H [1,2,3,4,8,11] (fun pe=>[(16,eq pe.2.2.2.1.1),(17,eq pe.2.2.2.2.1),(18,vI pe.1)]) (fun pe=>[(4,own aw pe.2.2.2.1.1 pe.2.1),(5,own aw pe.2.2.2.2.1 pe.2.2.1)]) ?_
  rintro j_ ⟨xe,xf,xg,vh,vi⟩ H
  rcases j_ with _ | jc
  ·
   exact (aS.no H).elim
  try dsimp only at H
  rw [bf.l2] at H
  refine WP.seq<|wr 5 0<|gl 3 [2]<|Dv.fk Q T Q Bc<|go 1<|cf H ?_ ?_ <;> intro H
  ·
   refine WP.exit ?_
   have H:=H.out
   exact jn ((xe,decide (xe<(a0.fL.length:Int)),xf,xg),vh,vi) H
  refine WP.skip<|WP.seq<|WP.block<|WP.jh H (fun qj:(List BA)×OV=>qj.1) (fun qj=>[(1,vS a1),(2,vI a2),(3,vI a3),(4,ey ba),(8,ey bc),(11,ey bd),(16,eq qj.2.1),(17,eq vi.1),(18,vI xe)]) (fun qj=>[aE bd 66 [vI (av (a0.aC+(a0.fL.length:Int))),eq ve.1,dJ,dJ],aE bc 66 [vI 0,dJ,dJ,dJ],aE ba 43 [sl aM.K a0.fV.fD,sl MK.K a0.fM,sl ak.K a0.fT.fL,sl cG a0.fT.db,sl ak.K a0.fP.fL,sl (bq .i64) a0.fP.db,sl kb.K a0.fL,vI a0.aC],own MK.K ve.1 pc.2.2,own aw vi.1 xg,own aw qj.2.1 qj.1]++F) (fun qj H=>?_) (fun H=>?_)
  rotate_left
  ·
   refine wr 7 0<|gl 3 [2]<|gr H fun gm H=>Dv.fR Q T Q Q Bc rf xq gm.1 gm.2<|fr Q T Q DC Q<|jw Q T Q wu Q<|go 1<|cf H ?_ ?_ <;> intro H
   ·
    refine WP.skip ?_
    have H:=H.out
    refine ns 6 [0,1,2,3,5,4] 0 ?_
    exact jn (xf,vh) H
   refine rg 9 128<|gl 4 [2]<|gr H fun gn H=>Dv.fR Q T Q Q Bc rf xq gn.1 gn.2<|fr Q T Q Dk Q<|jw Q T Q nu Q<|el H fun tg hae H=>cx 6 [4,0,1,2,3,5] (cL 69) (Tr.wT [own aw vh.1 xf] (gQ.c hae) (.cons (pq (aa 0 Q)) (.cons q7 .nil)) (fun _=>lM) (fun _=>(tF (xw xX) rn))) nofun fun gu _=>?_
   refine gq 1 ?_
   have H:=H.out
   refine ns 7 [0,2,3,4,5,6,1] 1 ?_
   exact jn (tg,gu) H
  obtain ⟨pg,vj⟩:=qj
  refine wr 7 0<|gl 3 [2]<|gr H fun gv H=>Dv.fR Q T Q Q Bc rf xq gv.1 gv.2<|fr Q T Q DC Q<|jw Q T Q wu Q<|go 1<|cf H ?_ ?_ <;> intro H
  ·
   refine WP.skip<|rg 3 0<|go 3<|ns 6 [0,1,2,3,5,4] 0 ?_
   exact bk jc (av (xe+1),pg,xg,vj,vi) H
  refine rg 9 128<|gl 4 [2]<|gr H fun gw H=>Dv.fR Q T Q Q Bc rf xq gw.1 gw.2<|fr Q T Q Dk Q<|jw Q T Q nu Q<|el H fun tj haf H=>cx 6 [4,0,1,2,3,5] (cL 69) (Tr.wT [own aw vi.1 xg] (gQ.c haf) (.cons (pq (aa 0 Q)) (.cons q7 .nil)) (fun _=>lM) (fun _=>(tF (xw xX) rn))) nofun fun gy _=>?_
  refine go 1<|rg 3 0<|go 3<|ns 7 [0,2,3,4,5,6,1] 1 ?_
  exact bk jc (av (xe+1),pg,tj,vj,gy) H
 obtain ⟨ph,vk,vl⟩:=qi
 refine WP.jh H (fun qk:(Int×Bool×(List fE))×OV=>qk.1) (fun qk=>[(1,vS a1),(2,vI a2),(3,vI a3),(4,ey ba),(8,ey bc),(11,ey bd),(17,eq vl.1)]) (fun qk=>[aE bd 66 [vI (av (a0.aC+(a0.fL.length:Int))),eq ve.1,eq qk.2.1,dJ],aE bc 66 [vI 0,dJ,dJ,dJ],aE ba 43 [sl aM.K a0.fV.fD,sl MK.K a0.fM,sl ak.K a0.fT.fL,sl cG a0.fT.db,sl ak.K a0.fP.fL,sl (bq .i64) a0.fP.db,sl kb.K a0.fL,vI a0.aC],own MK.K ve.1 pc.2.2,own aw vk.1 ph.2.2.1,own aw vl.1 ph.2.2.2,own fE.K qk.2.1 qk.1.2.2]++F) (fun qk H=>?_) (fun H=>?_)
 rotate_left
 ·
  refine so<|WP.block<|wg (dy fE.K none) fun _ _=>?_
  refine ws 7 [1,2,3,4,5,6,0] 0 ?_
  refine lq (fun j_ (pi:Int×(List fE)×OV)=>bf.l1 k a0 a1 a2 a3 ph j_ pi.1 pi.2.1) (0,([]:List fE),jR) H [1,2,3,4,8,11,16,17] (fun pi=>[(19,vI pi.1)]) (fun pi=>[(0,aE bd 66 [vI (av (a0.aC+(a0.fL.length:Int))),eq ve.1,eq pi.2.2.1,dJ]),(6,own fE.K pi.2.2.1 pi.2.1)]) ?_
  rintro j_ ⟨xi,xj,vm⟩ H
  rcases j_ with _ | jd
  ·
   exact (aS.no H).elim
  try dsimp only at H
  rw [bf.l1] at H
  refine WP.seq<|wr 4 0<|go 2<|Dv.ko Q T Q (aa 4 Q) de<|go 1<|cf H ?_ ?_ <;> intro H
  ·
   refine WP.exit ?_
   have H:=H.out
   exact jn ((xi,decide (xi<(ph.2.2.1.length:Int)),xj),vm) H
  refine WP.skip<|WP.seq<|WP.block<|wd mX 10 0<|gl 4 [2]<|gr H fun gz H=>?_
  have hag:xi.toNat<ph.2.2.1.length:=bp gz
  refine Dv.jX Q T Q (aa 4 Q) Q de U9 c9 gz.1 gz.2<|Dv.na (j:=xi.toNat) (f:=0) (p:=vS (ph.2.2.1.getD xi.toNat default)) Q T Q (aa 4 Q) hag U9 Q Q<|Dv.kL (qs:=[vI 2,vS eE,vS eE,vS eE,vB false,vS (ph.2.2.1.getD xi.toNat default)]) (css:=[[vI 2],[vS (ph.2.2.1.getD xi.toNat default)]]) Q T rf xV z116 Q ⟨(cells_one (ah Q)),⟨(cells_one (ah Q)),T⟩⟩ Q Q<|el H fun tm hah H=>cl Q (cL 49) Q (iL.c hah)<|el H fun tn hai H=>cl Q (cL 68) Q (fS.c hai)<|go 1<|wd mX 9 0<|gl 4 [2]<|gr H fun gaa H=>?_
  have haj:xi.toNat<ph.2.2.1.length:=bp gaa
  refine Dv.jX Q T Q (aa 4 Q) Q de U9 c9 gaa.1 gaa.2<|Dv.na (j:=xi.toNat) (f:=0) (p:=vS (ph.2.2.1.getD xi.toNat default)) Q T Q (aa 4 Q) haj U9 Q Q<|go 1<|el H fun tp hak H=>cl Q (cL 27) Q (eB.c hak)<|go 1<|wr 4 0<|gp 2 ?_
  rcases bm H with ⟨ck,H⟩ | ⟨ck,H⟩
  ·
   refine sh 142 ck ?_
   refine sh 20 ck ?_
   refine sh 151 ck ?_
   refine sh 152 ck ?_
   refine go 2<|WP.cond Q nofun (fun _=>?_)
   exact WP.skip<|rg 3 0<|go 3<|bk jd (av (xi+1),xj,vm) H
  refine sh 142 ck ?_
  refine sh 20 ck ?_
  refine sh 151 ck ?_
  refine sh 152 ck ?_
  refine go 2<|cf H ?_ ?_ <;> intro H
  ·
   exact WP.skip<|rg 3 0<|go 3<|bk jd (av (xi+1),xj,vm) H
  refine dg mX 18 163840<|gl 4 [0]<|gr H fun gab H=>?_
  have ham:xi.toNat<ph.2.2.1.length:=bp gab
  refine Dv.jX Q T Q (aa 4 Q) Q de U9 c9 gab.1 gab.2<|Dv.na (j:=xi.toNat) (f:=0) (p:=vS (ph.2.2.1.getD xi.toNat default)) Q T Q (aa 4 Q) ham U9 Q Q<|gl 3 [2]<|gr H fun gac H=>?_
  have han:xi.toNat<ph.2.2.1.length:=bp gac
  refine Dv.jX Q T Q (aa 4 Q) Q de U9 c9 gac.1 gac.2<|Dv.na (j:=xi.toNat) (f:=0) (p:=vS (ph.2.2.1.getD xi.toNat default)) Q T Q (aa 4 Q) han U9 Q Q<|go 1<|el H fun tq hao H=>cl Q (cL 21) Q (eI.c hao)<|Dv.kL (qs:=[vS (ph.2.2.1.getD xi.toNat default),sl aw tq]) (css:=[[vS (ph.2.2.1.getD xi.toNat default)],[sl aw tq]]) Q T zp pl156 z156 Q ⟨(cells_one (ah Q)),⟨(cells_one dL),T⟩⟩ Q Q<|Dv.lit fE.K ([(⟨ph.2.2.1.getD xi.toNat default,tq⟩:fE)]:List fE) (css:=[[vS (ph.2.2.1.getD xi.toNat default),sl aw tq]]) Q T CC zp yE z156 Q dc dc Q ⟨(aR (ai (ah Q) (ai dL bM))),T⟩ Q Q Q<|gr H fun gad H=>ap fE.K 6 ([(⟨ph.2.2.1.getD xi.toNat default,tq⟩:fE)]:List fE) bD CC (.inr ⟨_,CC⟩) Ha gad pB fun vn=>?_
  refine go 1<|sx 0 Q T Q Q (cells_one bG) sz63 Q Q Q pB ?_
  exact .fin<|rg 3 0<|go 3<|bk jd (av (xi+1),xj++([(⟨ph.2.2.1.getD xi.toNat default,tq⟩:fE)]:List fE),vn) H
 obtain ⟨pj,vo⟩:=qk
 refine WP.jh H (fun ql:(Int×Bool×(List fm))×OV=>ql.1) (fun ql=>[(8,ey bc),(11,ey bd)]) (fun ql=>[aE bd 66 [vI (av (a0.aC+(a0.fL.length:Int))),eq ve.1,eq vo.1,eq ql.2.1],aE bc 66 [vI 0,dJ,dJ,dJ],aE ba 43 [sl aM.K a0.fV.fD,sl MK.K a0.fM,sl ak.K a0.fT.fL,sl cG a0.fT.db,sl ak.K a0.fP.fL,sl (bq .i64) a0.fP.db,sl kb.K a0.fL,vI a0.aC],own MK.K ve.1 pc.2.2,own aw vk.1 ph.2.2.1,own aw vl.1 ph.2.2.2,own fE.K vo.1 pj.2.2,own fm.K ql.2.1 ql.1.2.2]++F) (fun ql H=>?_) (fun H=>?_)
 ·
  obtain ⟨pn,vq⟩:=ql
  refine wr 3 2<|gl 1 [0]<|sy 1 ?_
  refine go 1<|fz 3 [8,9] [1,1] ?_
  refine fz 5 [8,9] [1,1] ?_
  refine fz 5 [8,9] [1,1] ?_
  cases H.out; exact r5 i2 Q (.cons (au Q Jr Q c66 (aa 1 Q) Q) (.cons (aB Q) .nil))
 refine so<|WP.block<|wg (dy fm.K none) fun _ _=>?_
 refine ws 8 [1,2,3,4,5,6,7,0] 0 ?_
 refine lq (fun j_ (po:Int×(List fm)×OV)=>bf.l0 k a0 a1 a2 a3 ph j_ po.1 po.2.1) (0,([]:List fm),jR) H [1,2,3,4,8,11,17] (fun po=>[(22,vI po.1)]) (fun po=>[(0,aE bd 66 [vI (av (a0.aC+(a0.fL.length:Int))),eq ve.1,eq vo.1,eq po.2.2.1]),(7,own fm.K po.2.2.1 po.2.1)]) ?_
 rintro j_ ⟨xk,xn,vr⟩ H
 rcases j_ with _ | je
 ·
  exact (aS.no H).elim
 try dsimp only at H
 rw [bf.l0] at H
 refine WP.seq<|wr 4 0<|go 2<|Dv.ko Q T Q (aa 5 Q) de<|go 1<|cf H ?_ ?_ <;> intro H
 ·
  refine WP.exit ?_
  have H:=H.out
  exact jn ((xk,decide (xk<(ph.2.2.2.length:Int)),xn),vr) H
 refine WP.skip<|WP.seq<|WP.block<|wd mX 10 0<|gl 4 [2]<|gr H fun gae H=>?_
 have hap:xk.toNat<ph.2.2.2.length:=bp gae
 refine Dv.jX Q T Q (aa 5 Q) Q de U9 c9 gae.1 gae.2<|Dv.na (j:=xk.toNat) (f:=0) (p:=vS (ph.2.2.2.getD xk.toNat default)) Q T Q (aa 5 Q) hap U9 Q Q<|Dv.kL (qs:=[vI 3,vS eE,vS eE,vS eE,vB false,vS (ph.2.2.2.getD xk.toNat default)]) (css:=[[vI 3],[vS (ph.2.2.2.getD xk.toNat default)]]) Q T rf xV z116 Q ⟨(cells_one (ah Q)),⟨(cells_one (ah Q)),T⟩⟩ Q Q<|el H fun tu haq H=>cl Q (cL 49) Q (iL.c haq)<|el H fun tw har H=>cl Q (cL 68) Q (fS.c har)<|go 1<|wd mX 9 0<|gl 5 [2]<|gr H fun gaf H=>?_
 have has:xk.toNat<ph.2.2.2.length:=bp gaf
 refine Dv.jX Q T Q (aa 5 Q) Q de U9 c9 gaf.1 gaf.2<|Dv.na (j:=xk.toNat) (f:=0) (p:=vS (ph.2.2.2.getD xk.toNat default)) Q T Q (aa 5 Q) has U9 Q Q<|el H fun tx hau H=>cl Q (cL 28) Q (dQ.c hau)<|go 1<|wr 4 0<|gp 2 ?_
 rcases bm H with ⟨cn,H⟩ | ⟨cn,H⟩
 ·
  refine sh 186 cn ?_
  refine sh 23 cn ?_
  refine sh 195 cn ?_
  refine sh 196 cn ?_
  refine go 2<|WP.cond Q nofun (fun _=>?_)
  exact WP.skip<|rg 3 0<|go 3<|bk je (av (xk+1),xn,vr) H
 refine sh 186 cn ?_
 refine sh 23 cn ?_
 refine sh 195 cn ?_
 refine sh 196 cn ?_
 refine go 2<|cf H ?_ ?_ <;> intro H
 ·
  exact WP.skip<|rg 3 0<|go 3<|bk je (av (xk+1),xn,vr) H
 refine dg mX 19 327680<|gl 4 [0]<|gr H fun gag H=>?_
 have hav:xk.toNat<ph.2.2.2.length:=bp gag
 refine Dv.jX Q T Q (aa 5 Q) Q de U9 c9 gag.1 gag.2<|Dv.na (j:=xk.toNat) (f:=0) (p:=vS (ph.2.2.2.getD xk.toNat default)) Q T Q (aa 5 Q) hav U9 Q Q<|gl 4 [2]<|gr H fun gah H=>?_
 have haw:xk.toNat<ph.2.2.2.length:=bp gah
 refine Dv.jX Q T Q (aa 5 Q) Q de U9 c9 gah.1 gah.2<|Dv.na (j:=xk.toNat) (f:=0) (p:=vS (ph.2.2.2.getD xk.toNat default)) Q T Q (aa 5 Q) haw U9 Q Q<|go 1<|el H fun tz hax H=>cl Q (cL 70) Q (du.c hax)<|Dv.kL (qs:=[vS (ph.2.2.2.getD xk.toNat default),vI tz]) (css:=[[vS (ph.2.2.2.getD xk.toNat default)],[vI tz]]) Q T B1 pl158 KA Q ⟨(cells_one (ah Q)),⟨(cells_one (ah Q)),T⟩⟩ Q Q<|Dv.lit fm.K ([(⟨ph.2.2.2.getD xk.toNat default,tz⟩:fm)]:List fm) (css:=[[vS (ph.2.2.2.getD xk.toNat default),vI tz]]) Q T EJ B1 Fq KA Q dc dc Q ⟨(aR (ai (ah Q) (ai (ah Q) bM))),T⟩ Q Q Q<|gr H fun gai H=>ap fm.K 7 ([(⟨ph.2.2.2.getD xk.toNat default,tz⟩:fm)]:List fm) bD EJ (.inr ⟨_,EJ⟩) Hk gai pB fun vt=>?_
 refine go 1<|sx 0 Q T Q Q (cells_one bG) sz64 Q Q Q pB ?_
 exact .fin<|rg 3 0<|go 3<|bk je (av (xk+1),xn++([(⟨ph.2.2.2.getD xk.toNat default,tz⟩:fm)]:List fm),vt) H
theorem cH.c (h:cH.f k a0 a1=some r):Pt prog 19 [sl aw a0,sl aw a1] (vB r):=by
 refine pf func19 h fun R0 F H=>?_
 refine so<|WP.seq<|wr 5 0<|go 1<|Dv.fk Q T Q de<|go 1<|Dv.fk Q T Q de<|go 1<|ce H ?_ ?_ <;> intro H
 ·
  refine sp ?_
  cases H.out; exact ek 0
 refine WP.skip<|sr H id [] (fun _=>[]) (fun _=>[]) (fun pa H=>?_) (fun H=>?_)
 ·
  refine sp ?_
  cases H.out; exact ek 0
 refine so<|WP.block<|ws 0 [] 0 ?_
 refine lq (fun j_ (pc:Int)=>cH.l0 k a0 a1 j_ pc) 0 H [0,1] (fun pc=>[(5,vI pc)]) (fun _=>[]) ?_
 rintro j_ xc H
 rcases j_ with _ | ja
 ·
  exact (aS.no H).elim
 try dsimp only at H
 rw [cH.l0] at H
 refine WP.seq<|wr 4 0<|go 2<|Dv.fk Q T Q de<|go 1<|cf H ?_ ?_ <;> intro H
 ·
  refine WP.exit ?_
  have H:=H.out
  exact jn (xc,decide (xc<(a0.length:Int))) H
 refine WP.skip<|WP.seq<|WP.block<|wd mX 9 0<|go 2<|gr H fun ga H=>Dv.fR Q T Q Q de U9 c9 ga.1 ga.2<|jw Q T Q nu Q<|go 2<|gr H fun gb H=>Dv.fR Q T Q Q de U9 c9 gb.1 gb.2<|jw Q T Q nu Q<|go 1<|cf H ?_ ?_ <;> intro H
 ·
  exact WP.skip<|rg 3 0<|go 3<|bk ja (av (xc+1)) H
 refine sp ?_
 have H:=H.fg
 cases H.out; exact ek 0
theorem ij.c (h:ij.f k a0 a1=some r):Pt prog 26 [sl MK.K a0,sl MK.K a1] (vB r):=by
 refine pf func26 h fun R0 F H=>?_
 refine so<|WP.seq<|wr 5 0<|go 1<|Dv.fk Q T Q pO<|go 1<|Dv.fk Q T Q pO<|go 1<|ce H ?_ ?_ <;> intro H
 ·
  refine sp ?_
  cases H.out; exact ek 0
 refine WP.skip<|sr H id [] (fun _=>[]) (fun _=>[]) (fun pa H=>?_) (fun H=>?_)
 ·
  refine sp ?_
  cases H.out; exact ek 0
 refine so<|WP.block<|ws 0 [] 0 ?_
 refine lq (fun j_ (pc:Int)=>ij.l0 k a0 a1 j_ pc) 0 H [0,1] (fun pc=>[(5,vI pc)]) (fun _=>[]) ?_
 rintro j_ xc H
 rcases j_ with _ | ja
 ·
  exact (aS.no H).elim
 try dsimp only at H
 rw [ij.l0] at H
 refine WP.seq<|wr 4 0<|go 2<|Dv.fk Q T Q pO<|go 1<|cf H ?_ ?_ <;> intro H
 ·
  refine WP.exit ?_
  have H:=H.out
  exact jn (xc,decide (xc<(a0.length:Int))) H
 refine WP.skip<|WP.seq<|WP.block<|wd mX 9 0<|go 2<|gr H fun ga H=>Dv.fR Q T Q Q pO wX Bg ga.1 ga.2<|lr Q T Q JH Q<|go 2<|gr H fun gb H=>Dv.fR Q T Q Q pO wX Bg gb.1 gb.2<|lr Q T Q JH Q<|Dv.nes [.string (((MK.K.at a0 xc).fK).ab),.string (((MK.K.at a0 xc).fK).aj),.string (((MK.K.at a0 xc).fK).ae),.bool (((MK.K.at a0 xc).fK).aq),.int .i64 (((MK.K.at a0 xc).hM).br),.string (((MK.K.at a0 xc).hM).bQ)] [.string (((MK.K.at a1 xc).fK).ab),.string (((MK.K.at a1 xc).fK).aj),.string (((MK.K.at a1 xc).fK).ae),.bool (((MK.K.at a1 xc).fK).aq),.int .i64 (((MK.K.at a1 xc).hM).br),.string (((MK.K.at a1 xc).hM).bQ)] Q T Q Q Q Q eg83 (fun _=>lP 3 dc (fun _=>eqt83 (⟨(MK.K.at a0 xc).fK,(MK.K.at a0 xc).hM⟩:MK) (⟨(MK.K.at a1 xc).fK,(MK.K.at a1 xc).hM⟩:MK)))<|.fin<|cf H ?_ ?_ <;> intro H
 ·
  exact WP.skip<|rg 3 0<|go 3<|bk ja (av (xc+1)) H
 refine sp ?_
 have H:=H.fg
 cases H.out; exact ek 0
theorem dC.c (h:dC.f k a0 a1=some r):Pt prog 16 [agg (mf.enc a0),agg (mf.enc a1)] (vB r):=by
 refine pf func16 h fun R0 F H=>?_
 refine wr 3 3<|Dv.box Q T Q cA nofun fun ba=>Dv.box Q T Q cA nofun fun bc=>go 1<|wr 6 0<|gl 4 [1,0]<|el H fun ta haa H=>cl Q (cL 26) Q (ij.c haa)<|go 1<|WP.seq<|wr 20 0<|gp 3 ?_
 rcases bm H with ⟨cc,H⟩ | ⟨cc,H⟩
 rotate_left
 ·
  refine sh 15 cc ?_
  refine sh 16 cc ?_
  refine go 17<|WP.cond Q (fun _=>?_) nofun
  refine sp ?_
  cases H.out; exact ek 2
 refine sh 15 cc ?_
 refine sh 16 cc ?_
 refine gl 2 [1]<|Dv.fk Q (gg Q) Q CC<|gl 2 [0]<|Dv.fk Q (gg Q) Q CC<|gp 3 ?_
 rcases bm H with ⟨cg,H⟩ | ⟨cg,H⟩
 rotate_left
 ·
  refine sh 23 cg ?_
  refine sh 24 cg ?_
  refine sh 25 cg ?_
  refine go 8<|WP.cond Q (fun _=>?_) nofun
  refine sp ?_
  cases H.out; exact ek 2
 refine sh 23 cg ?_
 refine sh 24 cg ?_
 refine sh 25 cg ?_
 refine gl 2 [1]<|Dv.fk Q (gg Q) Q EJ<|gl 2 [0]<|Dv.fk Q (gg Q) Q EJ<|go 2<|ce H ?_ ?_ <;> intro H
 ·
  refine sp ?_
  cases H.out; exact ek 2
 refine WP.skip<|sr H id [2,3] (fun _=>[]) (fun _=>[]) (fun pa H=>?_) (fun H=>?_)
 ·
  refine sr H id [] (fun _=>[]) (fun _=>[]) (fun pc H=>?_) (fun H=>?_)
  ·
   refine sp ?_
   cases H.out; exact ek 2
  refine so<|WP.block<|ws 2 [0,1] 0 ?_
  refine lq (fun j_ (pe:Int)=>dC.l0 k a0 a1 j_ pe) 0 H [2,3] (fun pe=>[(8,vI pe)]) (fun _=>[]) ?_
  rintro j_ xc H
  rcases j_ with _ | ja
  ·
   exact (aS.no H).elim
  try dsimp only at H
  rw [dC.l0] at H
  refine WP.seq<|wr 5 0<|gl 3 [1]<|Dv.fk Q T Q EJ<|go 1<|cf H ?_ ?_ <;> intro H
  ·
   refine WP.exit ?_
   have H:=H.out
   exact jn (xc,decide (xc<(a0.cJ.length:Int))) H
  refine WP.skip<|WP.seq<|WP.block<|wd mX 11 0<|gl 3 [1]<|gr H fun ga H=>Dv.fR Q T Q Q EJ B1 Fq ga.1 ga.2<|lr Q T Q JL Q<|gl 3 [0]<|gr H fun gb H=>Dv.fR Q T Q Q EJ B1 Fq gb.1 gb.2<|lr Q T Q JL Q<|Dv.nes [.string ((fm.K.at a0.cJ xc).aj),.int .i64 ((fm.K.at a0.cJ xc).aQ)] [.string ((fm.K.at a1.cJ xc).aj),.int .i64 ((fm.K.at a1.cJ xc).aQ)] Q T Q Q Q Q eg158 (fun _=>lP 2 dc (fun _=>KB (fm.K.at a0.cJ xc) (fm.K.at a1.cJ xc)))<|.fin<|cf H ?_ ?_ <;> intro H
  ·
   exact WP.skip<|rg 3 0<|go 3<|bk ja (av (xc+1)) H
  refine sp ?_
  have H:=H.fg
  cases H.out; exact ek 2
 refine so<|WP.block<|ws 2 [0,1] 0 ?_
 refine lq (fun j_ (pg:Int)=>dC.l1 k a0 a1 j_ pg) 0 H [2,3] (fun pg=>[(6,vI pg)]) (fun _=>[]) ?_
 rintro j_ xd H
 rcases j_ with _ | jc
 ·
  exact (aS.no H).elim
 try dsimp only at H
 rw [dC.l1] at H
 refine WP.seq<|wr 5 0<|gl 3 [1]<|Dv.fk Q T Q CC<|go 1<|cf H ?_ ?_ <;> intro H
 ·
  refine WP.exit ?_
  have H:=H.out
  exact jn (xd,decide (xd<(a0.az.length:Int))) H
 refine WP.skip<|WP.seq<|WP.block<|wd mX 14 0<|gl 3 [1]<|gr H fun gi H=>Dv.fR Q T Q Q CC zp yE gi.1 gi.2<|fr Q T Q CU Q<|jw Q T Q Iz Q<|gl 3 [0]<|gr H fun gj H=>Dv.fR Q T Q Q CC zp yE gj.1 gj.2<|fr Q T Q CU Q<|jw Q T Q Iz Q<|el H fun tc hac H=>cl Q (cL 19) Q (cH.c hac)<|go 1<|wd mX 17 0<|gp 3 ?_
 cases ci:!tc
 rotate_left
 ·
  have H:=H.ct ci
  refine go 14<|WP.cond Q (fun _=>?_) nofun
  refine sp ?_
  have H:=H.fg
  cases H.out; exact ek 2
 have H:=H.cf ci
 refine gl 3 [1]<|gr H fun gk H=>Dv.fR Q (gg Q) Q Q CC zp yE gk.1 gk.2<|fr Q (gg Q) Q Dx Q<|jw Q (gg Q) Q nu Q<|gl 3 [0]<|gr H fun gm H=>Dv.fR Q (gg Q) Q Q CC zp yE gm.1 gm.2<|fr Q (gg Q) Q Dx Q<|jw Q (gg Q) Q nu Q<|go 2<|cf H ?_ ?_ <;> intro H
 ·
  exact WP.skip<|rg 3 0<|go 3<|bk jc (av (xd+1)) H
 refine sp ?_
 have H:=H.fg
 cases H.out; exact ek 2
theorem eJ.c (h:eJ.f k a0=some r):Pt prog 17 [agg (wx.enc a0)] (agg (mf.enc r)):=by
 refine pf func17 h fun R0 F H=>?_
 refine wr 2 3<|Dv.box Q T Q cA nofun fun ba=>al Q T Em nofun fun bc=>.fin<|wr 5 24<|gl 2 [1]<|Dv.kL (qs:=[vI a0.ig,dJ,dJ,dJ]) (css:=[[vI a0.ig]]) Q T Jr H9 z66 Q ⟨(cells_one (ah Q)),T⟩ Q Q<|al Q T Em nofun fun bd=>sy 0 ?_
 refine .fin<|WP.jh H (fun qh:(Int×Bool×(List MK))×OV=>qh.1) (fun qh=>[(1,ey ba),(2,ey bc),(3,ey bd)]) (fun qh=>[aE bd 66 [vI a0.ig,eq qh.2.1,dJ,dJ],aE bc 66 [vI 0,dJ,dJ,dJ],aE ba 59 (wx.enc a0),own MK.K qh.2.1 qh.1.2.2]++F) (fun qh H=>?_) (fun H=>?_)
 rotate_left
 ·
  refine so<|WP.block<|wg (dy MK.K none) fun _ _=>?_
  refine ws 4 [1,2,3,0] 0 ?_
  refine lq (fun j_ (pa:Int×(List MK)×OV)=>eJ.l2 k a0 j_ pa.1 pa.2.1) (0,([]:List MK),jR) H [1,2,3] (fun pa=>[(4,vI pa.1)]) (fun pa=>[(0,aE bd 66 [vI a0.ig,eq pa.2.2.1,dJ,dJ]),(3,own MK.K pa.2.2.1 pa.2.1)]) ?_
  rintro j_ ⟨xc,xd,va⟩ H
  rcases j_ with _ | ja
  ·
   exact (aS.no H).elim
  try dsimp only at H
  rw [eJ.l2] at H
  refine WP.seq<|wr 5 0<|gl 3 [2]<|Dv.fk Q T Q Ks<|go 1<|cf H ?_ ?_ <;> intro H
  ·
   refine WP.exit ?_
   have H:=H.out
   exact jn ((xc,decide (xc<(a0.aJ.length:Int)),xd),va) H
  refine WP.skip<|WP.seq<|WP.block<|dg mX 19 327680<|gl 5 [0,2]<|gr H fun ga H=>Dv.fR Q T Q Q Ks Bf EH ga.1 ga.2<|fr Q T Q K4 Q<|lr Q T Q sg89 Q<|gl 3 [2]<|gr H fun gb H=>Dv.fR Q T Q Q Ks Bf EH gb.1 gb.2<|fr Q T Q Le Q<|lr Q T Q sg81 Q<|Dv.kL (qs:=[vS (((jg.K.at a0.aJ xc).dw).ab),vS (((jg.K.at a0.aJ xc).dw).aj),vS (((jg.K.at a0.aJ xc).dw).ae),vB (((jg.K.at a0.aJ xc).dw).aq),vI (((jg.K.at a0.aJ xc).hM).br),vS (((jg.K.at a0.aJ xc).hM).bQ)]) (css:=[bB.enc ((jg.K.at a0.aJ xc).dw),Pos.enc ((jg.K.at a0.aJ xc).hM)]) Q T wX pl83 LQ Q ⟨(aR (bB.K.one _)),⟨(aR (Pos.K.one _)),T⟩⟩ Q Q<|Dv.lit MK.K ([(⟨(jg.K.at a0.aJ xc).dw,(jg.K.at a0.aJ xc).hM⟩:MK)]:List MK) (css:=[[vS (((jg.K.at a0.aJ xc).dw).ab),vS (((jg.K.at a0.aJ xc).dw).aj),vS (((jg.K.at a0.aJ xc).dw).ae),vB (((jg.K.at a0.aJ xc).dw).aq),vI (((jg.K.at a0.aJ xc).hM).br),vS (((jg.K.at a0.aJ xc).hM).bQ)]]) Q T pO wX Bg LQ Q dc dc Q ⟨(aR (ai (ah Q) (ai (ah Q) (ai (ah Q) (ai (ah Q) (ai (ah Q) (ai (ah Q) bM))))))),T⟩ Q Q Q<|gr H fun gi H=>ap MK.K 3 ([(⟨(jg.K.at a0.aJ xc).dw,(jg.K.at a0.aJ xc).hM⟩:MK)]:List MK) bD pO (.inr ⟨_,pO⟩) vT gi pB fun vb=>?_
  refine go 1<|sx 0 Q T Q Q (cells_one bG) Jm Q Q Q pB ?_
  exact .fin<|rg 3 0<|go 3<|bk ja (av (xc+1),xd++([(⟨(jg.K.at a0.aJ xc).dw,(jg.K.at a0.aJ xc).hM⟩:MK)]:List MK),vb) H
 obtain ⟨pc,vd⟩:=qh
 refine WP.jh H (fun qi:(Int×Bool×(List fE))×OV=>qi.1) (fun qi=>[(1,ey ba),(2,ey bc),(3,ey bd)]) (fun qi=>[aE bd 66 [vI a0.ig,eq vd.1,eq qi.2.1,dJ],aE bc 66 [vI 0,dJ,dJ,dJ],aE ba 59 (wx.enc a0),own MK.K vd.1 pc.2.2,own fE.K qi.2.1 qi.1.2.2]++F) (fun qi H=>?_) (fun H=>?_)
 rotate_left
 ·
  refine so<|WP.block<|wg (dy fE.K none) fun _ _=>?_
  refine ws 5 [1,2,3,4,0] 0 ?_
  refine lq (fun j_ (pe:Int×(List fE)×OV)=>eJ.l1 k a0 j_ pe.1 pe.2.1) (0,([]:List fE),jR) H [1,2,3] (fun pe=>[(5,vI pe.1)]) (fun pe=>[(0,aE bd 66 [vI a0.ig,eq vd.1,eq pe.2.2.1,dJ]),(4,own fE.K pe.2.2.1 pe.2.1)]) ?_
  rintro j_ ⟨xe,xf,ve⟩ H
  rcases j_ with _ | jc
  ·
   exact (aS.no H).elim
  try dsimp only at H
  rw [eJ.l1] at H
  refine WP.seq<|wr 5 0<|gl 3 [2]<|Dv.fk Q T Q LO<|go 1<|cf H ?_ ?_ <;> intro H
  ·
   refine WP.exit ?_
   have H:=H.out
   exact jn ((xe,decide (xe<(a0.az.length:Int)),xf),ve) H
  refine WP.skip<|WP.seq<|WP.block<|dg mX 11 1280<|gl 5 [0,2]<|gr H fun gj H=>Dv.fR Q T Q Q LO U94 c94 gj.1 gj.2<|lr Q T Q sg94 Q<|Dv.lit fE.K ([fE.K.at a0.az xe]:List fE) (css:=[fE.enc (fE.K.at a0.az xe)]) Q T CC zp yE z156 Q dc dc Q ⟨(aR (fE.K.one _)),T⟩ Q Q Q<|gr H fun gk H=>ap fE.K 4 ([fE.K.at a0.az xe]:List fE) bD CC (.inr ⟨_,CC⟩) Ha gk pB fun vh=>?_
  refine go 1<|sx 0 Q T Q Q (cells_one bG) sz63 Q Q Q pB ?_
  exact .fin<|rg 3 0<|go 3<|bk jc (av (xe+1),xf++([fE.K.at a0.az xe]:List fE),vh) H
 obtain ⟨pg,vi⟩:=qi
 refine WP.jh H (fun qj:(Int×Bool×(List fm))×OV=>qj.1) (fun qj=>[(2,ey bc),(3,ey bd)]) (fun qj=>[aE bd 66 [vI a0.ig,eq vd.1,eq vi.1,eq qj.2.1],aE bc 66 [vI 0,dJ,dJ,dJ],aE ba 59 (wx.enc a0),own MK.K vd.1 pc.2.2,own fE.K vi.1 pg.2.2,own fm.K qj.2.1 qj.1.2.2]++F) (fun qj H=>?_) (fun H=>?_)
 ·
  obtain ⟨ph,vj⟩:=qj
  refine wr 2 2<|gl 1 [0]<|sy 1 ?_
  refine .fin<|fz 3 [2] [1,1] ?_
  refine fz 3 [2] [1,1] ?_
  refine fz 3 [2] [1,1] ?_
  cases H.out; exact r3 i2 Q (.cons (au Q Jr Q c66 (aa 1 Q) Q) .nil)
 refine so<|WP.block<|wg (dy fm.K none) fun _ _=>?_
 refine ws 6 [1,2,3,4,5,0] 0 ?_
 refine lq (fun j_ (pi:Int×(List fm)×OV)=>eJ.l0 k a0 j_ pi.1 pi.2.1) (0,([]:List fm),jR) H [1,2,3] (fun pi=>[(6,vI pi.1)]) (fun pi=>[(0,aE bd 66 [vI a0.ig,eq vd.1,eq vi.1,eq pi.2.2.1]),(5,own fm.K pi.2.2.1 pi.2.1)]) ?_
 rintro j_ ⟨xg,xi,vk⟩ H
 rcases j_ with _ | jd
 ·
  exact (aS.no H).elim
 try dsimp only at H
 rw [eJ.l0] at H
 refine WP.seq<|wr 5 0<|gl 3 [2]<|Dv.fk Q T Q LM<|go 1<|cf H ?_ ?_ <;> intro H
 ·
  refine WP.exit ?_
  have H:=H.out
  exact jn ((xg,decide (xg<(a0.cJ.length:Int)),xi),vk) H
 refine WP.skip<|WP.seq<|WP.block<|dg mX 11 1280<|gl 5 [0,2]<|gr H fun gm H=>Dv.fR Q T Q Q LM U96 c96 gm.1 gm.2<|lr Q T Q sg96 Q<|Dv.lit fm.K ([fm.K.at a0.cJ xg]:List fm) (css:=[fm.enc (fm.K.at a0.cJ xg)]) Q T EJ B1 Fq KA Q dc dc Q ⟨(aR (fm.K.one _)),T⟩ Q Q Q<|gr H fun gn H=>ap fm.K 5 ([fm.K.at a0.cJ xg]:List fm) bD EJ (.inr ⟨_,EJ⟩) Hk gn pB fun vl=>?_
 refine go 1<|sx 0 Q T Q Q (cells_one bG) sz64 Q Q Q pB ?_
 exact .fin<|rg 3 0<|go 3<|bk jd (av (xg+1),xi++([fm.K.at a0.cJ xg]:List fm),vl) H
theorem oN.c (h:oN.f=some r):Tr prog 22 [] [lax] (γ:=Unit) (fun _=>True) (fun g=>vB r) (fun g=>[lax]):=by
 refine tf func22 h fun R0 F H=>?_
 refine so<|wr 12 0<|Dv.kL (qs:=[vS (⟨#[33,114,58,115]⟩:BA),vS (⟨#[64,97,58,115]⟩:BA),vS eE,vB true]) (css:=[[vS (⟨#[33,114,58,115]⟩:BA)],[vS (⟨#[64,97,58,115]⟩:BA)],[vB true]]) Q T Iw JE z89 Q ⟨(cells_one (ah Q)),⟨(cells_one (ah Q)),⟨(cells_one (ah Q)),T⟩⟩⟩ Q Q<|el H fun ta haa H=>pJ 1 [0] (cL 41) (iK.c haa) ?_
 refine gp 2 ?_
 rcases bm H with ⟨cc,H⟩ | ⟨cc,H⟩
 ·
  refine sh 3 cc ?_
  refine sh 4 cc ?_
  refine gq 8 ?_
  cases H.out; exact et () 1 [0] 0
 refine sh 3 cc ?_
 refine sh 4 cc ?_
 refine el H fun tc hac H=>Dv.call Q (gg Q) (cL 44) Q (jF.c hac)<|gp 3 ?_
 rcases bm H with ⟨cg,H⟩ | ⟨cg,H⟩
 ·
  refine sh 6 cg ?_
  refine sh 7 cg ?_
  refine sh 8 cg ?_
  refine gq 4 ?_
  cases H.out; exact et () 1 [0] 0
 refine sh 6 cg ?_
 refine sh 7 cg ?_
 refine sh 8 cg ?_
 refine el H fun te had H=>Dv.call Q (gg Q) (cL 47) Q (jN.c had)<|gq 3 ?_
 cases H.out; exact et () 1 [0] 0
end Go.Proofs.YtfknmdelgepbjaaGreatDoor
