import Derived.Test.YtfknmdelgepbjaaGreatDoorWZWalks3
set_option linter.all false
set_option autoImplicit true
set_option maxRecDepth 10000
set_option maxHeartbeats 20000000
namespace Go.Proofs.YtfknmdelgepbjaaGreatDoor
open Go Go.Sp Tryz
theorem bu.c (h:bu.f k a0 a1 a2 a3=some r):Pt prog 15 [agg (dy.enc a0),vS a1,vI a2,vI a3] (kZ [agg (oJ.enc r.1),vI r.2]):=by
 refine pf func15 h fun R0 F H=>?_
 refine wr 3 3<|Dv.box Q T Q cA nofun fun ba=>al Q T Ax nofun fun bc=>go 1<|wr 7 0<|gl 4 [1,1]<|Dv.fj Q T Q Da<|go 2<|WP.seq<|wr 7 0<|gp 3 ?_
 rcases bm H with ⟨cc,H⟩ | ⟨cc,H⟩
 rotate_left
 ·
  refine sh 32 cc ?_
  refine sh 33 cc ?_
  refine go 4<|WP.cond Q (fun _=>?_) nofun
  refine wr 3 2<|Dv.kJ (qs:=[vI 0,dH,dH,dH]) (css:=[]) Q T JV HE z66 Q T Q Q<|sy 0 ?_
  refine gq 1 ?_
  cases H.out; exact r2 i2 Q (.cons (nW (au Q JV Q c66 (aa 0 Q) Q) (mV (.cons bQ (.cons cR (.cons cR (.cons cR .nil)))))) (.cons (aB Q) .nil))
 refine sh 32 cc ?_
 refine sh 33 cc ?_
 refine go 4<|ce H ?_ ?_ <;> intro H
 ·
  refine wr 3 2<|Dv.kJ (qs:=[vI 0,dH,dH,dH]) (css:=[]) Q T JV HE z66 Q T Q Q<|sy 0 ?_
  refine gq 1 ?_
  cases H.out; exact r2 i2 Q (.cons (nW (au Q JV Q c66 (aa 0 Q) Q) (mV (.cons bQ (.cons cR (.cons cR (.cons cR .nil)))))) (.cons (aB Q) .nil))
 refine WP.skip<|wr 4 12<|go 1<|Dv.kJ (qs:=[vI (av (a0.aL+(a0.fL.length:Int))),dH,dH,dH]) (css:=[[vI (av (a0.aL+(a0.fL.length:Int)))]]) Q T JV HE z66 Q ⟨(cells_one (ah Q)),T⟩ Q Q<|al Q T Ax nofun fun bd=>sy 0 ?_
 refine .fin<|WP.jh H (fun qh:(Int×Bool×(List MK))×OV=>qh.1) (fun qh=>[(1,vS a1),(2,vI a2),(3,vI a3),(4,dR ba),(8,dR bc),(11,dR bd)]) (fun qh=>[aC bd 66 [vI (av (a0.aL+(a0.fL.length:Int))),eq qh.2.1,dH,dH],aC bc 66 [vI 0,dH,dH,dH],aC ba 43 [sl aK.K a0.fV.fD,sl MK.K a0.fM,sl ak.K a0.fT.fL,sl bJ a0.fT.cH,sl ak.K a0.fP.fL,sl (bz .i64) a0.fP.cH,sl jO.K a0.fL,vI a0.aL],own MK.K qh.2.1 qh.1.2.2]++F) (fun qh H=>?_) (fun H=>?_)
 rotate_left
 ·
  refine so<|WP.block<|wg (dw MK.K none) fun _ _=>?_
  refine ws 4 [1,2,3,0] 0 ?_
  refine lq (fun j_ (pa:Int×(List MK)×OV)=>bu.l3 k a0 a1 a2 j_ pa.1 pa.2.1) (0,([]:List MK),jS) H [1,2,3,4,8,11] (fun pa=>[(12,vI pa.1)]) (fun pa=>[(0,aC bd 66 [vI (av (a0.aL+(a0.fL.length:Int))),eq pa.2.2.1,dH,dH]),(3,own MK.K pa.2.2.1 pa.2.1)]) ?_
  rintro j_ ⟨xc,xd,va⟩ H
  rcases j_ with _ | ja
  ·
   exact (aU.no H).elim
  try dsimp only at H
  rw [bu.l3] at H
  refine WP.seq<|wr 5 0<|gl 3 [2]<|Dv.fj Q T Q mc<|go 1<|cf H ?_ ?_ <;> intro H
  ·
   refine WP.exit ?_
   have H:=H.out
   exact jn ((xc,decide (xc<(a0.fM.length:Int)),xd),va) H
  refine WP.skip<|WP.seq<|WP.block<|wr 8 192<|gl 3 [2]<|gr H fun ga H=>Dv.fR Q T Q Q mc pV ru ga.1 ga.2<|fr Q T Q oq Q<|iv Q T Q xE Q<|al Q T zc79 nofun fun be=>sy 0 ?_
  refine .fin<|wd mX 7 0<|gl 3 [3,0]<|Dv.kJ (qs:=[vI 1,vS (((MK.K.at a0.fM xc).fK).ab),vS (((MK.K.at a0.fM xc).fK).aj),vS (((MK.K.at a0.fM xc).fK).ae),vB (((MK.K.at a0.fM xc).fK).aq),vS eE]) (css:=[[vI 1],bB.enc ((MK.K.at a0.fM xc).fK)]) Q T rL xV z116 Q ⟨(cells_one (ah Q)),⟨(aS (bB.K.one _)),T⟩⟩ Q Q<|el H fun ta haa H=>cl Q (cL 49) Q (iN.c haa)<|el H fun tc hac H=>cl Q (cL 68) Q (fS.c hac)<|go 1<|wr 7 0<|gl 5 [3,0]<|el H fun te had H=>cl Q (cL 27) Q (er.c had)<|go 1<|wr 15 0<|gp 2 ?_
  rcases bm H with ⟨cg,H⟩ | ⟨cg,H⟩
  ·
   refine sh 59 cg ?_
   refine sh 14 cg ?_
   refine sh 66 cg ?_
   refine sh 67 cg ?_
   refine go 13<|WP.cond Q nofun (fun _=>?_)
   refine WP.skip<|rg 3 0<|go 3<|ns 5 [0,1,2,3,4] 1 ?_
   exact bk ja (av (xc+1),xd,va) H
  refine sh 59 cg ?_
  refine sh 14 cg ?_
  refine sh 66 cg ?_
  refine sh 67 cg ?_
  refine gp 3 ?_
  rcases bm H with ⟨ci,H⟩ | ⟨ci,H⟩
  ·
   refine sh 65 ci ?_
   refine sh 15 ci ?_
   refine sh 68 ci ?_
   refine sh 69 ci ?_
   refine sh 70 ci ?_
   refine go 10<|WP.cond Q nofun (fun _=>?_)
   refine WP.skip<|rg 3 0<|go 3<|ns 5 [0,1,2,3,4] 1 ?_
   exact bk ja (av (xc+1),xd,va) H
  refine sh 65 ci ?_
  refine sh 15 ci ?_
  refine sh 68 ci ?_
  refine sh 69 ci ?_
  refine sh 70 ci ?_
  refine kX 4 [0] ?_
  rcases bm H with ⟨cj,H⟩ | ⟨cj,H⟩
  rotate_left
  ·
   refine sh 73 cj ?_
   refine sh 74 cj ?_
   refine go 6<|WP.cond Q (fun _=>?_) nofun
   refine dg mX 11 1280<|gl 5 [1,3]<|gr H fun gb H=>Dv.fR Q T Q Q mc pV ru gb.1 gb.2<|iv Q T Q Ik Q<|Dv.lit MK.K ([(⟨(MK.K.at a0.fM xc).fK,(MK.K.at a0.fM xc).eH⟩:MK)]:List MK) (css:=[[vS (((MK.K.at a0.fM xc).fK).ab),vS (((MK.K.at a0.fM xc).fK).aj),vS (((MK.K.at a0.fM xc).fK).ae),vB (((MK.K.at a0.fM xc).fK).aq),vI (((MK.K.at a0.fM xc).eH).bx),vS (((MK.K.at a0.fM xc).eH).bV)]]) Q T mc pV ru LX Q dc dc Q ⟨(aS (ai (ah Q) (ai (ah Q) (ai (ah Q) (ai (ah Q) (ai (ah Q) (ai (ah Q) bO))))))),T⟩ Q Q Q<|gr H fun gi H=>ap MK.K 4 ([(⟨(MK.K.at a0.fM xc).fK,(MK.K.at a0.fM xc).eH⟩:MK)]:List MK) bF mc (.inr ⟨_,mc⟩) wj gi pB fun vb=>?_
   refine go 1<|sx 1 Q T Q Q (cells_one bH) Ic Q Q Q pB ?_
   refine .fin<|rg 3 0<|go 3<|ns 5 [0,1,2,3,4] 1 ?_
   exact bk ja (av (xc+1),xd++([(⟨(MK.K.at a0.fM xc).fK,(MK.K.at a0.fM xc).eH⟩:MK)]:List MK),vb) H
  refine sh 73 cj ?_
  refine sh 74 cj ?_
  refine gl 6 [0]<|cf H ?_ ?_ <;> intro H
  ·
   refine WP.skip<|rg 3 0<|go 3<|ns 5 [0,1,2,3,4] 1 ?_
   exact bk ja (av (xc+1),xd,va) H
  refine dg mX 11 1280<|gl 5 [1,3]<|gr H fun gj H=>Dv.fR Q T Q Q mc pV ru gj.1 gj.2<|iv Q T Q Ik Q<|Dv.lit MK.K ([(⟨(MK.K.at a0.fM xc).fK,(MK.K.at a0.fM xc).eH⟩:MK)]:List MK) (css:=[[vS (((MK.K.at a0.fM xc).fK).ab),vS (((MK.K.at a0.fM xc).fK).aj),vS (((MK.K.at a0.fM xc).fK).ae),vB (((MK.K.at a0.fM xc).fK).aq),vI (((MK.K.at a0.fM xc).eH).bx),vS (((MK.K.at a0.fM xc).eH).bV)]]) Q T mc pV ru LX Q dc dc Q ⟨(aS (ai (ah Q) (ai (ah Q) (ai (ah Q) (ai (ah Q) (ai (ah Q) (ai (ah Q) bO))))))),T⟩ Q Q Q<|gr H fun gk H=>ap MK.K 4 ([(⟨(MK.K.at a0.fM xc).fK,(MK.K.at a0.fM xc).eH⟩:MK)]:List MK) bF mc (.inr ⟨_,mc⟩) wj gk pB fun vd=>?_
  refine go 1<|sx 1 Q T Q Q (cells_one bH) Ic Q Q Q pB ?_
  refine .fin<|rg 3 0<|go 3<|ns 5 [0,1,2,3,4] 1 ?_
  exact bk ja (av (xc+1),xd++([(⟨(MK.K.at a0.fM xc).fK,(MK.K.at a0.fM xc).eH⟩:MK)]:List MK),vd) H
 obtain ⟨pc,ve⟩:=qh
 refine so<|so<|WP.jh H (fun qi:(Int×Bool×(List BA)×(List BA))×OV×OV=>qi.1) (fun qi=>[(1,vS a1),(2,vI a2),(3,vI a3),(4,dR ba),(8,dR bc),(11,dR bd),(16,eq qi.2.1.1),(17,eq qi.2.2.1)]) (fun qi=>[aC bd 66 [vI (av (a0.aL+(a0.fL.length:Int))),eq ve.1,dH,dH],aC bc 66 [vI 0,dH,dH,dH],aC ba 43 [sl aK.K a0.fV.fD,sl MK.K a0.fM,sl ak.K a0.fT.fL,sl bJ a0.fT.cH,sl ak.K a0.fP.fL,sl (bz .i64) a0.fP.cH,sl jO.K a0.fL,vI a0.aL],own MK.K ve.1 pc.2.2,own aw qi.2.1.1 qi.1.2.2.1,own aw qi.2.2.1 qi.1.2.2.2]++F) (fun qi H=>?_) (fun H=>?_)
 rotate_left
 ·
  refine so<|WP.block<|wg (dw aw none) fun _ _=>?_
  refine wg (dw aw none) fun _ _=>?_
  refine ws 6 [2,3,4,5,1,0] 0 ?_
  refine lq (fun j_ (pe:Int×(List BA)×(List BA)×OV×OV)=>bu.l2 k a0 j_ pe.1 pe.2.1 pe.2.2.1) (0,([]:List BA),([]:List BA),jS,DE) H [1,2,3,4,8,11] (fun pe=>[(16,eq pe.2.2.2.1.1),(17,eq pe.2.2.2.2.1),(18,vI pe.1)]) (fun pe=>[(4,own aw pe.2.2.2.1.1 pe.2.1),(5,own aw pe.2.2.2.2.1 pe.2.2.1)]) ?_
  rintro j_ ⟨xe,xf,xg,vh,vi⟩ H
  rcases j_ with _ | jc
  ·
   exact (aU.no H).elim
  try dsimp only at H
  rw [bu.l2] at H
  refine WP.seq<|wr 5 0<|gl 3 [2]<|Dv.fj Q T Q Da<|go 1<|cf H ?_ ?_ <;> intro H
  ·
   refine WP.exit ?_
   have H:=H.out
   exact jn ((xe,decide (xe<(a0.fL.length:Int)),xf,xg),vh,vi) H
  refine WP.skip<|WP.seq<|WP.block<|WP.jh H (fun qj:(List BA)×OV=>qj.1) (fun qj=>[(1,vS a1),(2,vI a2),(3,vI a3),(4,dR ba),(8,dR bc),(11,dR bd),(16,eq qj.2.1),(17,eq vi.1),(18,vI xe)]) (fun qj=>[aC bd 66 [vI (av (a0.aL+(a0.fL.length:Int))),eq ve.1,dH,dH],aC bc 66 [vI 0,dH,dH,dH],aC ba 43 [sl aK.K a0.fV.fD,sl MK.K a0.fM,sl ak.K a0.fT.fL,sl bJ a0.fT.cH,sl ak.K a0.fP.fL,sl (bz .i64) a0.fP.cH,sl jO.K a0.fL,vI a0.aL],own MK.K ve.1 pc.2.2,own aw vi.1 xg,own aw qj.2.1 qj.1]++F) (fun qj H=>?_) (fun H=>?_)
  rotate_left
  ·
   refine wr 7 0<|gl 3 [2]<|gr H fun gm H=>Dv.fR Q T Q Q Da rL xz gm.1 gm.2<|fr Q T Q CQ Q<|kI Q T Q Dj Q<|go 1<|cf H ?_ ?_ <;> intro H
   ·
    refine WP.skip ?_
    have H:=H.out
    refine ns 6 [0,1,2,3,5,4] 0 ?_
    exact jn (xf,vh) H
   refine rg 9 128<|gl 4 [2]<|gr H fun gn H=>Dv.fR Q T Q Q Da rL xz gn.1 gn.2<|fr Q T Q C0 Q<|kI Q T Q oc Q<|el H fun tg hae H=>cx 6 [4,0,1,2,3,5] (cL 69) (Tr.xD [own aw vh.1 xf] (gT.c hae) (.cons (pI (aa 0 Q)) (.cons rn .nil)) (fun _=>lT) (fun _=>(ub (ya yw) rN))) nofun fun gu _=>?_
   refine gq 1 ?_
   have H:=H.out
   refine ns 7 [0,2,3,4,5,6,1] 1 ?_
   exact jn (tg,gu) H
  obtain ⟨pg,vj⟩:=qj
  refine wr 7 0<|gl 3 [2]<|gr H fun gv H=>Dv.fR Q T Q Q Da rL xz gv.1 gv.2<|fr Q T Q CQ Q<|kI Q T Q Dj Q<|go 1<|cf H ?_ ?_ <;> intro H
  ·
   refine WP.skip<|rg 3 0<|go 3<|ns 6 [0,1,2,3,5,4] 0 ?_
   exact bk jc (av (xe+1),pg,xg,vj,vi) H
  refine rg 9 128<|gl 4 [2]<|gr H fun gw H=>Dv.fR Q T Q Q Da rL xz gw.1 gw.2<|fr Q T Q C0 Q<|kI Q T Q oc Q<|el H fun tj haf H=>cx 6 [4,0,1,2,3,5] (cL 69) (Tr.xD [own aw vi.1 xg] (gT.c haf) (.cons (pI (aa 0 Q)) (.cons rn .nil)) (fun _=>lT) (fun _=>(ub (ya yw) rN))) nofun fun gy _=>?_
  refine go 1<|rg 3 0<|go 3<|ns 7 [0,2,3,4,5,6,1] 1 ?_
  exact bk jc (av (xe+1),pg,tj,vj,gy) H
 obtain ⟨ph,vk,vl⟩:=qi
 refine WP.jh H (fun qk:(Int×Bool×(List fQ))×OV=>qk.1) (fun qk=>[(1,vS a1),(2,vI a2),(3,vI a3),(4,dR ba),(8,dR bc),(11,dR bd),(17,eq vl.1)]) (fun qk=>[aC bd 66 [vI (av (a0.aL+(a0.fL.length:Int))),eq ve.1,eq qk.2.1,dH],aC bc 66 [vI 0,dH,dH,dH],aC ba 43 [sl aK.K a0.fV.fD,sl MK.K a0.fM,sl ak.K a0.fT.fL,sl bJ a0.fT.cH,sl ak.K a0.fP.fL,sl (bz .i64) a0.fP.cH,sl jO.K a0.fL,vI a0.aL],own MK.K ve.1 pc.2.2,own aw vk.1 ph.2.2.1,own aw vl.1 ph.2.2.2,own fQ.K qk.2.1 qk.1.2.2]++F) (fun qk H=>?_) (fun H=>?_)
 rotate_left
 ·
  refine so<|WP.block<|wg (dw fQ.K none) fun _ _=>?_
  refine ws 7 [1,2,3,4,5,6,0] 0 ?_
  refine lq (fun j_ (pi:Int×(List fQ)×OV)=>bu.l1 k a0 a1 a2 a3 ph j_ pi.1 pi.2.1) (0,([]:List fQ),jS) H [1,2,3,4,8,11,16,17] (fun pi=>[(19,vI pi.1)]) (fun pi=>[(0,aC bd 66 [vI (av (a0.aL+(a0.fL.length:Int))),eq ve.1,eq pi.2.2.1,dH]),(6,own fQ.K pi.2.2.1 pi.2.1)]) ?_
  rintro j_ ⟨xi,xj,vm⟩ H
  rcases j_ with _ | jd
  ·
   exact (aU.no H).elim
  try dsimp only at H
  rw [bu.l1] at H
  refine WP.seq<|wr 4 0<|go 2<|Dv.kl Q T Q (aa 4 Q) dj<|go 1<|cf H ?_ ?_ <;> intro H
  ·
   refine WP.exit ?_
   have H:=H.out
   exact jn ((xi,decide (xi<(ph.2.2.1.length:Int)),xj),vm) H
  refine WP.skip<|WP.seq<|WP.block<|wd mX 10 0<|gl 4 [2]<|gr H fun gz H=>?_
  have hag:xi.toNat<ph.2.2.1.length:=bq gz
  refine Dv.jQ Q T Q (aa 4 Q) Q dj U9 c9 gz.1 gz.2<|Dv.na (j:=xi.toNat) (f:=0) (p:=vS (ph.2.2.1.getD xi.toNat default)) Q T Q (aa 4 Q) hag U9 Q Q<|Dv.kJ (qs:=[vI 2,vS eE,vS eE,vS eE,vB false,vS (ph.2.2.1.getD xi.toNat default)]) (css:=[[vI 2],[vS (ph.2.2.1.getD xi.toNat default)]]) Q T rL xV z116 Q ⟨(cells_one (ah Q)),⟨(cells_one (ah Q)),T⟩⟩ Q Q<|el H fun tm hah H=>cl Q (cL 49) Q (iN.c hah)<|el H fun tn hai H=>cl Q (cL 68) Q (fS.c hai)<|go 1<|wd mX 9 0<|gl 4 [2]<|gr H fun gaa H=>?_
  have haj:xi.toNat<ph.2.2.1.length:=bq gaa
  refine Dv.jQ Q T Q (aa 4 Q) Q dj U9 c9 gaa.1 gaa.2<|Dv.na (j:=xi.toNat) (f:=0) (p:=vS (ph.2.2.1.getD xi.toNat default)) Q T Q (aa 4 Q) haj U9 Q Q<|go 1<|el H fun tp hak H=>cl Q (cL 27) Q (er.c hak)<|go 1<|wr 4 0<|gp 2 ?_
  rcases bm H with ⟨ck,H⟩ | ⟨ck,H⟩
  ·
   refine sh 142 ck ?_
   refine sh 20 ck ?_
   refine sh 151 ck ?_
   refine sh 152 ck ?_
   refine go 2<|WP.cond Q nofun (fun _=>?_)
   exact WP.skip<|rg 3 0<|go 3<|bk jd (av (xi+1),xj,vm) H
  refine sh 142 ck ?_
  refine sh 20 ck ?_
  refine sh 151 ck ?_
  refine sh 152 ck ?_
  refine go 2<|cf H ?_ ?_ <;> intro H
  ·
   exact WP.skip<|rg 3 0<|go 3<|bk jd (av (xi+1),xj,vm) H
  refine dg mX 18 163840<|gl 4 [0]<|gr H fun gab H=>?_
  have ham:xi.toNat<ph.2.2.1.length:=bq gab
  refine Dv.jQ Q T Q (aa 4 Q) Q dj U9 c9 gab.1 gab.2<|Dv.na (j:=xi.toNat) (f:=0) (p:=vS (ph.2.2.1.getD xi.toNat default)) Q T Q (aa 4 Q) ham U9 Q Q<|gl 3 [2]<|gr H fun gac H=>?_
  have han:xi.toNat<ph.2.2.1.length:=bq gac
  refine Dv.jQ Q T Q (aa 4 Q) Q dj U9 c9 gac.1 gac.2<|Dv.na (j:=xi.toNat) (f:=0) (p:=vS (ph.2.2.1.getD xi.toNat default)) Q T Q (aa 4 Q) han U9 Q Q<|go 1<|el H fun tq hao H=>cl Q (cL 21) Q (fi.c hao)<|Dv.kJ (qs:=[vS (ph.2.2.1.getD xi.toNat default),sl aw tq]) (css:=[[vS (ph.2.2.1.getD xi.toNat default)],[sl aw tq]]) Q T LM pl156 z156 Q ⟨(cells_one (ah Q)),⟨(cells_one dL),T⟩⟩ Q Q<|Dv.lit fQ.K ([(⟨ph.2.2.1.getD xi.toNat default,tq⟩:fQ)]:List fQ) (css:=[[vS (ph.2.2.1.getD xi.toNat default),sl aw tq]]) Q T Lh LM FO z156 Q dc dc Q ⟨(aS (ai (ah Q) (ai dL bO))),T⟩ Q Q Q<|gr H fun gad H=>ap fQ.K 6 ([(⟨ph.2.2.1.getD xi.toNat default,tq⟩:fQ)]:List fQ) bF Lh (.inr ⟨_,Lh⟩) Gk gad pB fun vn=>?_
  refine go 1<|sx 0 Q T Q Q (cells_one bH) sz63 Q Q Q pB ?_
  exact .fin<|rg 3 0<|go 3<|bk jd (av (xi+1),xj++([(⟨ph.2.2.1.getD xi.toNat default,tq⟩:fQ)]:List fQ),vn) H
 obtain ⟨pj,vo⟩:=qk
 refine WP.jh H (fun ql:(Int×Bool×(List fU))×OV=>ql.1) (fun ql=>[(8,dR bc),(11,dR bd)]) (fun ql=>[aC bd 66 [vI (av (a0.aL+(a0.fL.length:Int))),eq ve.1,eq vo.1,eq ql.2.1],aC bc 66 [vI 0,dH,dH,dH],aC ba 43 [sl aK.K a0.fV.fD,sl MK.K a0.fM,sl ak.K a0.fT.fL,sl bJ a0.fT.cH,sl ak.K a0.fP.fL,sl (bz .i64) a0.fP.cH,sl jO.K a0.fL,vI a0.aL],own MK.K ve.1 pc.2.2,own aw vk.1 ph.2.2.1,own aw vl.1 ph.2.2.2,own fQ.K vo.1 pj.2.2,own fU.K ql.2.1 ql.1.2.2]++F) (fun ql H=>?_) (fun H=>?_)
 ·
  obtain ⟨pn,vq⟩:=ql
  refine wr 3 2<|gl 1 [0]<|sy 1 ?_
  refine go 1<|fz 3 [8,9] [1,1] ?_
  refine fz 5 [8,9] [1,1] ?_
  refine fz 5 [8,9] [1,1] ?_
  cases H.out; exact r5 i2 Q (.cons (au Q JV Q c66 (aa 1 Q) Q) (.cons (aB Q) .nil))
 refine so<|WP.block<|wg (dw fU.K none) fun _ _=>?_
 refine ws 8 [1,2,3,4,5,6,7,0] 0 ?_
 refine lq (fun j_ (po:Int×(List fU)×OV)=>bu.l0 k a0 a1 a2 a3 ph j_ po.1 po.2.1) (0,([]:List fU),jS) H [1,2,3,4,8,11,17] (fun po=>[(22,vI po.1)]) (fun po=>[(0,aC bd 66 [vI (av (a0.aL+(a0.fL.length:Int))),eq ve.1,eq vo.1,eq po.2.2.1]),(7,own fU.K po.2.2.1 po.2.1)]) ?_
 rintro j_ ⟨xk,xn,vr⟩ H
 rcases j_ with _ | je
 ·
  exact (aU.no H).elim
 try dsimp only at H
 rw [bu.l0] at H
 refine WP.seq<|wr 4 0<|go 2<|Dv.kl Q T Q (aa 5 Q) dj<|go 1<|cf H ?_ ?_ <;> intro H
 ·
  refine WP.exit ?_
  have H:=H.out
  exact jn ((xk,decide (xk<(ph.2.2.2.length:Int)),xn),vr) H
 refine WP.skip<|WP.seq<|WP.block<|wd mX 10 0<|gl 4 [2]<|gr H fun gae H=>?_
 have hap:xk.toNat<ph.2.2.2.length:=bq gae
 refine Dv.jQ Q T Q (aa 5 Q) Q dj U9 c9 gae.1 gae.2<|Dv.na (j:=xk.toNat) (f:=0) (p:=vS (ph.2.2.2.getD xk.toNat default)) Q T Q (aa 5 Q) hap U9 Q Q<|Dv.kJ (qs:=[vI 3,vS eE,vS eE,vS eE,vB false,vS (ph.2.2.2.getD xk.toNat default)]) (css:=[[vI 3],[vS (ph.2.2.2.getD xk.toNat default)]]) Q T rL xV z116 Q ⟨(cells_one (ah Q)),⟨(cells_one (ah Q)),T⟩⟩ Q Q<|el H fun tu haq H=>cl Q (cL 49) Q (iN.c haq)<|el H fun tw har H=>cl Q (cL 68) Q (fS.c har)<|go 1<|wd mX 9 0<|gl 5 [2]<|gr H fun gaf H=>?_
 have hau:xk.toNat<ph.2.2.2.length:=bq gaf
 refine Dv.jQ Q T Q (aa 5 Q) Q dj U9 c9 gaf.1 gaf.2<|Dv.na (j:=xk.toNat) (f:=0) (p:=vS (ph.2.2.2.getD xk.toNat default)) Q T Q (aa 5 Q) hau U9 Q Q<|el H fun tx hav H=>cl Q (cL 28) Q (dP.c hav)<|go 1<|wr 4 0<|gp 2 ?_
 rcases bm H with ⟨cn,H⟩ | ⟨cn,H⟩
 ·
  refine sh 186 cn ?_
  refine sh 23 cn ?_
  refine sh 195 cn ?_
  refine sh 196 cn ?_
  refine go 2<|WP.cond Q nofun (fun _=>?_)
  exact WP.skip<|rg 3 0<|go 3<|bk je (av (xk+1),xn,vr) H
 refine sh 186 cn ?_
 refine sh 23 cn ?_
 refine sh 195 cn ?_
 refine sh 196 cn ?_
 refine go 2<|cf H ?_ ?_ <;> intro H
 ·
  exact WP.skip<|rg 3 0<|go 3<|bk je (av (xk+1),xn,vr) H
 refine dg mX 19 327680<|gl 4 [0]<|gr H fun gag H=>?_
 have haw:xk.toNat<ph.2.2.2.length:=bq gag
 refine Dv.jQ Q T Q (aa 5 Q) Q dj U9 c9 gag.1 gag.2<|Dv.na (j:=xk.toNat) (f:=0) (p:=vS (ph.2.2.2.getD xk.toNat default)) Q T Q (aa 5 Q) haw U9 Q Q<|gl 4 [2]<|gr H fun gah H=>?_
 have hax:xk.toNat<ph.2.2.2.length:=bq gah
 refine Dv.jQ Q T Q (aa 5 Q) Q dj U9 c9 gah.1 gah.2<|Dv.na (j:=xk.toNat) (f:=0) (p:=vS (ph.2.2.2.getD xk.toNat default)) Q T Q (aa 5 Q) hax U9 Q Q<|go 1<|el H fun tz hay H=>cl Q (cL 70) Q (dz.c hay)<|Dv.kJ (qs:=[vS (ph.2.2.2.getD xk.toNat default),vI tz]) (css:=[[vS (ph.2.2.2.getD xk.toNat default)],[vI tz]]) Q T KQ pl158 K3 Q ⟨(cells_one (ah Q)),⟨(cells_one (ah Q)),T⟩⟩ Q Q<|Dv.lit fU.K ([(⟨ph.2.2.2.getD xk.toNat default,tz⟩:fU)]:List fU) (css:=[[vS (ph.2.2.2.getD xk.toNat default),vI tz]]) Q T Lu KQ c158 K3 Q dc dc Q ⟨(aS (ai (ah Q) (ai (ah Q) bO))),T⟩ Q Q Q<|gr H fun gai H=>ap fU.K 7 ([(⟨ph.2.2.2.getD xk.toNat default,tz⟩:fU)]:List fU) bF Lu (.inr ⟨_,Lu⟩) GM gai pB fun vt=>?_
 refine go 1<|sx 0 Q T Q Q (cells_one bH) sz64 Q Q Q pB ?_
 exact .fin<|rg 3 0<|go 3<|bk je (av (xk+1),xn++([(⟨ph.2.2.2.getD xk.toNat default,tz⟩:fU)]:List fU),vt) H
theorem ic.c (h:ic.f k a0 a1=some r):Pt prog 26 [sl MK.K a0,sl MK.K a1] (vB r):=by
 refine pf func26 h fun R0 F H=>?_
 refine so<|WP.seq<|wr 5 0<|go 1<|Dv.fj Q T Q mc<|go 1<|Dv.fj Q T Q mc<|go 1<|ce H ?_ ?_ <;> intro H
 ·
  refine sp ?_
  cases H.out; exact ek 0
 refine WP.skip<|sr H id [] (fun _=>[]) (fun _=>[]) (fun pa H=>?_) (fun H=>?_)
 ·
  refine sp ?_
  cases H.out; exact ek 0
 refine so<|WP.block<|ws 0 [] 0 ?_
 refine lq (fun j_ (pc:Int)=>ic.l0 k a0 a1 j_ pc) 0 H [0,1] (fun pc=>[(5,vI pc)]) (fun _=>[]) ?_
 rintro j_ xc H
 rcases j_ with _ | ja
 ·
  exact (aU.no H).elim
 try dsimp only at H
 rw [ic.l0] at H
 refine WP.seq<|wr 4 0<|go 2<|Dv.fj Q T Q mc<|go 1<|cf H ?_ ?_ <;> intro H
 ·
  refine WP.exit ?_
  have H:=H.out
  exact jn (xc,decide (xc<(a0.length:Int))) H
 refine WP.skip<|WP.seq<|WP.block<|wd mX 9 0<|go 2<|gr H fun ga H=>Dv.fR Q T Q Q mc pV ru ga.1 ga.2<|iv Q T Q Ik Q<|go 2<|gr H fun gb H=>Dv.fR Q T Q Q mc pV ru gb.1 gb.2<|iv Q T Q Ik Q<|Dv.nes [.string (((MK.K.at a0 xc).fK).ab),.string (((MK.K.at a0 xc).fK).aj),.string (((MK.K.at a0 xc).fK).ae),.bool (((MK.K.at a0 xc).fK).aq),.int .i64 (((MK.K.at a0 xc).eH).bx),.string (((MK.K.at a0 xc).eH).bV)] [.string (((MK.K.at a1 xc).fK).ab),.string (((MK.K.at a1 xc).fK).aj),.string (((MK.K.at a1 xc).fK).ae),.bool (((MK.K.at a1 xc).fK).aq),.int .i64 (((MK.K.at a1 xc).eH).bx),.string (((MK.K.at a1 xc).eH).bV)] Q T Q Q Q Q eg83 (fun _=>mI 3 dc (fun _=>eqt83 (⟨(MK.K.at a0 xc).fK,(MK.K.at a0 xc).eH⟩:MK) (⟨(MK.K.at a1 xc).fK,(MK.K.at a1 xc).eH⟩:MK)))<|.fin<|cf H ?_ ?_ <;> intro H
 ·
  exact WP.skip<|rg 3 0<|go 3<|bk ja (av (xc+1)) H
 refine sp ?_
 have H:=H.eR
 cases H.out; exact ek 0
theorem ey.c (h:ey.f k a0=some r):Pt prog 17 [agg (uN.enc a0)] (agg (oJ.enc r)):=by
 refine pf func17 h fun R0 F H=>?_
 refine wr 2 3<|Dv.box Q T Q cA nofun fun ba=>al Q T Ax nofun fun bc=>.fin<|wr 5 24<|gl 2 [1]<|Dv.kJ (qs:=[vI a0.jD,dH,dH,dH]) (css:=[[vI a0.jD]]) Q T JV HE z66 Q ⟨(cells_one (ah Q)),T⟩ Q Q<|al Q T Ax nofun fun bd=>sy 0 ?_
 refine .fin<|WP.jh H (fun qh:(Int×Bool×(List MK))×OV=>qh.1) (fun qh=>[(1,dR ba),(2,dR bc),(3,dR bd)]) (fun qh=>[aC bd 66 [vI a0.jD,eq qh.2.1,dH,dH],aC bc 66 [vI 0,dH,dH,dH],aC ba 59 (uN.enc a0),own MK.K qh.2.1 qh.1.2.2]++F) (fun qh H=>?_) (fun H=>?_)
 rotate_left
 ·
  refine so<|WP.block<|wg (dw MK.K none) fun _ _=>?_
  refine ws 4 [1,2,3,0] 0 ?_
  refine lq (fun j_ (pa:Int×(List MK)×OV)=>ey.l2 k a0 j_ pa.1 pa.2.1) (0,([]:List MK),jS) H [1,2,3] (fun pa=>[(4,vI pa.1)]) (fun pa=>[(0,aC bd 66 [vI a0.jD,eq pa.2.2.1,dH,dH]),(3,own MK.K pa.2.2.1 pa.2.1)]) ?_
  rintro j_ ⟨xc,xd,va⟩ H
  rcases j_ with _ | ja
  ·
   exact (aU.no H).elim
  try dsimp only at H
  rw [ey.l2] at H
  refine WP.seq<|wr 5 0<|gl 3 [2]<|Dv.fj Q T Q JQ<|go 1<|cf H ?_ ?_ <;> intro H
  ·
   refine WP.exit ?_
   have H:=H.out
   exact jn ((xc,decide (xc<(a0.ay.length:Int)),xd),va) H
  refine WP.skip<|WP.seq<|WP.block<|dg mX 19 327680<|gl 5 [0,2]<|gr H fun ga H=>Dv.fR Q T Q Q JQ Bq EY ga.1 ga.2<|fr Q T Q LL Q<|iv Q T Q sg89 Q<|gl 3 [2]<|gr H fun gb H=>Dv.fR Q T Q Q JQ Bq EY gb.1 gb.2<|fr Q T Q Lz Q<|iv Q T Q uQ Q<|Dv.kJ (qs:=[vS (((jg.K.at a0.ay xc).dx).ab),vS (((jg.K.at a0.ay xc).dx).aj),vS (((jg.K.at a0.ay xc).dx).ae),vB (((jg.K.at a0.ay xc).dx).aq),vI (((jg.K.at a0.ay xc).eH).bx),vS (((jg.K.at a0.ay xc).eH).bV)]) (css:=[bB.enc ((jg.K.at a0.ay xc).dx),Pos.enc ((jg.K.at a0.ay xc).eH)]) Q T pV pl83 LX Q ⟨(aS (bB.K.one _)),⟨(aS (Pos.K.one _)),T⟩⟩ Q Q<|Dv.lit MK.K ([(⟨(jg.K.at a0.ay xc).dx,(jg.K.at a0.ay xc).eH⟩:MK)]:List MK) (css:=[[vS (((jg.K.at a0.ay xc).dx).ab),vS (((jg.K.at a0.ay xc).dx).aj),vS (((jg.K.at a0.ay xc).dx).ae),vB (((jg.K.at a0.ay xc).dx).aq),vI (((jg.K.at a0.ay xc).eH).bx),vS (((jg.K.at a0.ay xc).eH).bV)]]) Q T mc pV ru LX Q dc dc Q ⟨(aS (ai (ah Q) (ai (ah Q) (ai (ah Q) (ai (ah Q) (ai (ah Q) (ai (ah Q) bO))))))),T⟩ Q Q Q<|gr H fun gi H=>ap MK.K 3 ([(⟨(jg.K.at a0.ay xc).dx,(jg.K.at a0.ay xc).eH⟩:MK)]:List MK) bF mc (.inr ⟨_,mc⟩) wj gi pB fun vb=>?_
  refine go 1<|sx 0 Q T Q Q (cells_one bH) Ic Q Q Q pB ?_
  exact .fin<|rg 3 0<|go 3<|bk ja (av (xc+1),xd++([(⟨(jg.K.at a0.ay xc).dx,(jg.K.at a0.ay xc).eH⟩:MK)]:List MK),vb) H
 obtain ⟨pc,vd⟩:=qh
 refine WP.jh H (fun qi:(Int×Bool×(List fQ))×OV=>qi.1) (fun qi=>[(1,dR ba),(2,dR bc),(3,dR bd)]) (fun qi=>[aC bd 66 [vI a0.jD,eq vd.1,eq qi.2.1,dH],aC bc 66 [vI 0,dH,dH,dH],aC ba 59 (uN.enc a0),own MK.K vd.1 pc.2.2,own fQ.K qi.2.1 qi.1.2.2]++F) (fun qi H=>?_) (fun H=>?_)
 rotate_left
 ·
  refine so<|WP.block<|wg (dw fQ.K none) fun _ _=>?_
  refine ws 5 [1,2,3,4,0] 0 ?_
  refine lq (fun j_ (pe:Int×(List fQ)×OV)=>ey.l1 k a0 j_ pe.1 pe.2.1) (0,([]:List fQ),jS) H [1,2,3] (fun pe=>[(5,vI pe.1)]) (fun pe=>[(0,aC bd 66 [vI a0.jD,eq vd.1,eq pe.2.2.1,dH]),(4,own fQ.K pe.2.2.1 pe.2.1)]) ?_
  rintro j_ ⟨xe,xf,ve⟩ H
  rcases j_ with _ | jc
  ·
   exact (aU.no H).elim
  try dsimp only at H
  rw [ey.l1] at H
  refine WP.seq<|wr 5 0<|gl 3 [2]<|Dv.fj Q T Q Ls<|go 1<|cf H ?_ ?_ <;> intro H
  ·
   refine WP.exit ?_
   have H:=H.out
   exact jn ((xe,decide (xe<(a0.aO.length:Int)),xf),ve) H
  refine WP.skip<|WP.seq<|WP.block<|dg mX 11 1280<|gl 5 [0,2]<|gr H fun gj H=>Dv.fR Q T Q Q Ls U94 c94 gj.1 gj.2<|iv Q T Q sg94 Q<|Dv.lit fQ.K ([fQ.K.at a0.aO xe]:List fQ) (css:=[fQ.enc (fQ.K.at a0.aO xe)]) Q T Lh LM FO z156 Q dc dc Q ⟨(aS (fQ.K.one _)),T⟩ Q Q Q<|gr H fun gk H=>ap fQ.K 4 ([fQ.K.at a0.aO xe]:List fQ) bF Lh (.inr ⟨_,Lh⟩) Gk gk pB fun vh=>?_
  refine go 1<|sx 0 Q T Q Q (cells_one bH) sz63 Q Q Q pB ?_
  exact .fin<|rg 3 0<|go 3<|bk jc (av (xe+1),xf++([fQ.K.at a0.aO xe]:List fQ),vh) H
 obtain ⟨pg,vi⟩:=qi
 refine WP.jh H (fun qj:(Int×Bool×(List fU))×OV=>qj.1) (fun qj=>[(2,dR bc),(3,dR bd)]) (fun qj=>[aC bd 66 [vI a0.jD,eq vd.1,eq vi.1,eq qj.2.1],aC bc 66 [vI 0,dH,dH,dH],aC ba 59 (uN.enc a0),own MK.K vd.1 pc.2.2,own fQ.K vi.1 pg.2.2,own fU.K qj.2.1 qj.1.2.2]++F) (fun qj H=>?_) (fun H=>?_)
 ·
  obtain ⟨ph,vj⟩:=qj
  refine wr 2 2<|gl 1 [0]<|sy 1 ?_
  refine .fin<|fz 3 [2] [1,1] ?_
  refine fz 3 [2] [1,1] ?_
  refine fz 3 [2] [1,1] ?_
  cases H.out; exact r3 i2 Q (.cons (au Q JV Q c66 (aa 1 Q) Q) .nil)
 refine so<|WP.block<|wg (dw fU.K none) fun _ _=>?_
 refine ws 6 [1,2,3,4,5,0] 0 ?_
 refine lq (fun j_ (pi:Int×(List fU)×OV)=>ey.l0 k a0 j_ pi.1 pi.2.1) (0,([]:List fU),jS) H [1,2,3] (fun pi=>[(6,vI pi.1)]) (fun pi=>[(0,aC bd 66 [vI a0.jD,eq vd.1,eq vi.1,eq pi.2.2.1]),(5,own fU.K pi.2.2.1 pi.2.1)]) ?_
 rintro j_ ⟨xg,xi,vk⟩ H
 rcases j_ with _ | jd
 ·
  exact (aU.no H).elim
 try dsimp only at H
 rw [ey.l0] at H
 refine WP.seq<|wr 5 0<|gl 3 [2]<|Dv.fj Q T Q Kv<|go 1<|cf H ?_ ?_ <;> intro H
 ·
  refine WP.exit ?_
  have H:=H.out
  exact jn ((xg,decide (xg<(a0.gP.length:Int)),xi),vk) H
 refine WP.skip<|WP.seq<|WP.block<|dg mX 11 1280<|gl 5 [0,2]<|gr H fun gm H=>Dv.fR Q T Q Q Kv U96 c96 gm.1 gm.2<|iv Q T Q sg96 Q<|Dv.lit fU.K ([fU.K.at a0.gP xg]:List fU) (css:=[fU.enc (fU.K.at a0.gP xg)]) Q T Lu KQ c158 K3 Q dc dc Q ⟨(aS (fU.K.one _)),T⟩ Q Q Q<|gr H fun gn H=>ap fU.K 5 ([fU.K.at a0.gP xg]:List fU) bF Lu (.inr ⟨_,Lu⟩) GM gn pB fun vl=>?_
 refine go 1<|sx 0 Q T Q Q (cells_one bH) sz64 Q Q Q pB ?_
 exact .fin<|rg 3 0<|go 3<|bk jd (av (xg+1),xi++([fU.K.at a0.gP xg]:List fU),vl) H
theorem oU.c (h:oU.f=some r):Tr prog 22 [] [lax] (γ:=Unit) (fun _=>True) (fun g=>vB r) (fun g=>[lax]):=by
 refine tf func22 h fun R0 F H=>?_
 refine so<|wr 12 0<|Dv.kJ (qs:=[vS (⟨#[33,114,58,115]⟩:BA),vS (⟨#[64,97,58,115]⟩:BA),vS eE,vB true]) (css:=[[vS (⟨#[33,114,58,115]⟩:BA)],[vS (⟨#[64,97,58,115]⟩:BA)],[vB true]]) Q T JF Ix z89 Q ⟨(cells_one (ah Q)),⟨(cells_one (ah Q)),⟨(cells_one (ah Q)),T⟩⟩⟩ Q Q<|el H fun ta haa H=>pN 1 [0] (cL 41) (iK.c haa) ?_
 refine gp 2 ?_
 rcases bm H with ⟨cc,H⟩ | ⟨cc,H⟩
 ·
  refine sh 3 cc ?_
  refine sh 4 cc ?_
  refine gq 8 ?_
  cases H.out; exact et () 1 [0] 0
 refine sh 3 cc ?_
 refine sh 4 cc ?_
 refine el H fun tc hac H=>Dv.call Q (gg Q) (cL 44) Q (jF.c hac)<|gp 3 ?_
 rcases bm H with ⟨cg,H⟩ | ⟨cg,H⟩
 ·
  refine sh 6 cg ?_
  refine sh 7 cg ?_
  refine sh 8 cg ?_
  refine gq 4 ?_
  cases H.out; exact et () 1 [0] 0
 refine sh 6 cg ?_
 refine sh 7 cg ?_
 refine sh 8 cg ?_
 refine el H fun te had H=>Dv.call Q (gg Q) (cL 47) Q (jI.c had)<|gq 3 ?_
 cases H.out; exact et () 1 [0] 0
end Go.Proofs.YtfknmdelgepbjaaGreatDoor
