import Derived.Test.YtfknmdelgepbjaaGreatDoorWZWalks2
set_option linter.all false
set_option autoImplicit true
set_option maxRecDepth 10000
set_option maxHeartbeats 20000000
namespace Go.Proofs.YtfknmdelgepbjaaGreatDoor
open Go Go.Sp Tryz
theorem nj.c {p0_0 p0_1 p0_2 p0_3 p0_4:OV} (h:nj.f k a0 a1 a2=some r):Tr prog 11 [agg [eq p0_0.1,eq p0_1.1,eq p0_2.1,eq p0_3.1,eq p0_4.1],agg (dy.enc a1),agg (ak.enc a2)] [lax,aJ.O p0_0 a0.cI,jA.O p0_1 a0.ay,bS.O p0_2 a0.aO,b7.O p0_3 a0.aR,b8.O p0_4 a0.fZ] (γ:=Unit) (fun _=>True) (fun g=>kZ [agg (dy.enc r.1),vB r.2.1]) (fun g=>[lax,aJ.O p0_0 r.2.2.cI,jA.O p0_1 r.2.2.ay,bS.O p0_2 r.2.2.aO,b7.O p0_3 r.2.2.aR,b8.O p0_4 r.2.2.fZ]):=by
 refine tf func11 h fun R0 F H=>?_
 refine wr 5 15<|Dv.box Q T Q cA nofun fun ba=>Dv.box Q T Q cA nofun fun bc=>Dv.box Q T Q cA nofun fun bd=>al Q T F4 nofun fun be=>go 1<|wr 1 1<|al Q T zc116 nofun fun bg=>.fin<|so<|WP.sT H id (fun pa=>[(3,dR ba),(4,dR bc),(6,dR be),(8,dR bg),(9,vS pa.1)]) (fun pa=>[aC bg 116 [vI pa.2.1.aH,vS pa.2.1.fK.ab,vS pa.2.1.fK.aj,vS pa.2.1.fK.ae,vB pa.2.1.fK.aq,vS pa.2.1.mJ],aC be 43 [dH,dH,dH,dH,dH,dH,dH,vI 0],aC bd 52 (ak.enc a2),aC bc 43 [sl aK.K pa.2.2.1.fV.fD,sl MK.K pa.2.2.1.fM,sl ak.K pa.2.2.1.fT.fL,sl bJ pa.2.2.1.fT.cH,sl ak.K pa.2.2.1.fP.fL,sl (bz .i64) pa.2.2.1.fP.cH,sl jO.K pa.2.2.1.fL,vI pa.2.2.1.aL],aC ba 30 [eq p0_0.1,eq p0_1.1,eq p0_2.1,eq p0_3.1,eq p0_4.1],jA.O p0_1 pa.2.2.2.1,aJ.O p0_0 a0.cI,lax,bS.O p0_2 pa.2.2.2.2.1,b7.O p0_3 pa.2.2.2.2.2,b8.O p0_4 a0.fZ]++F) (fun pa H=>?_) (fun H=>?_)
 ·
  refine so<|wr 5 8<|gl 3 [3]<|vg (dw jO.K none) fun _ _=>?_
  refine gr H fun ga H=>ap jO.K 0 pa.2.2.1.fL bF Da (.inr ⟨_,Da⟩) FV ga nofun fun va=>?_
  refine go 1<|wr 6 40<|gl 2 [1]<|Dv.lit jO.K ([(⟨pa.2.1.aH,pa.2.1.fK,pa.2.1.mJ⟩:jO)]:List jO) (css:=[[vI pa.2.1.aH,vS pa.2.1.fK.ab,vS pa.2.1.fK.aj,vS pa.2.1.fK.ae,vB pa.2.1.fK.aq,vS pa.2.1.mJ]]) Q T Da rL xz z116 Q dc dc Q ⟨(aS (ai (ah Q) (ai (ah Q) (ai (ah Q) (ai (ah Q) (ai (ah Q) (ai (ah Q) bO))))))),T⟩ Q Q Q<|gr H fun gb H=>ap jO.K 0 ([(⟨pa.2.1.aH,pa.2.1.fK,pa.2.1.mJ⟩:jO)]:List jO) bF Da (.inr ⟨_,Da⟩) FV gb nofun fun vb=>?_
  refine go 1<|sx 4 Q T Q Q (cells_one bH) sz41 Q Q Q nofun ?_
  refine .fin<|wr 9 8<|gl 3 [5]<|el H fun ta haa H=>cx 12 [11,0,1,2,3,4,5,6,7,8,9,10] (cL 48) (iF.c haa (p0_:=p0_4)) nofun fun _ _=>?_
  refine go 1<|dV Q T Q Q<|dV Q T Q Q<|go 2<|wd mX 11 512<|kX 4 [5] ?_
  cases cc:(ta.2.1==0)
  ·
   have H:=H.cf cc
   refine go 5<|sx 3 Q T Q Q cA Ii Q Q Q pD ?_
   refine go 1<|fz 1 [6,7] [0,0,1,0,1] ?_
   cases H.out; exact rt i2 Q () 11 [1,2,3,4,5,8,7,6,9,10,0] 5 (.cons (au Q B4 Q Gg (aa 2 Q) Q) (.cons (aB Q) .nil))
  have H:=H.ct cc
  refine gl 2 [2]<|el H fun tc hac H=>Dv.call Q (gg Q) (cL 49) Q (iN.c hac)<|go 2<|sx 3 Q T Q Q cA Ii Q Q Q pD ?_
  refine go 1<|fz 1 [6,7] [0,0,1,0,1] ?_
  cases H.out; exact rt i2 Q () 11 [1,2,3,4,5,8,7,6,9,10,0] 5 (.cons (au Q B4 Q Gg (aa 2 Q) Q) (.cons (aB Q) .nil))
 refine sN [2]<|WP.block<|so<|ce H ?_ ?_ <;> intro H
 ·
  refine wr 16 12288<|gl 2 [3]<|Dv.kJ (qs:=[vI 8,dH,vI 0]) (css:=[[vI 8]]) Q T Bv FT Jk Q ⟨(cells_one (ah Q)),T⟩ Q Q<|Dv.kJ (qs:=[sl MK.K a1.fM,vI 8,dH,vI 0]) (css:=[[sl MK.K a1.fM],[vI 8,dH,vI 0]]) Q T AI Gf Iv Q ⟨(cells_one dL),⟨(aS (ai (ah Q) (ai (ah Q) (ai (ah Q) bO)))),T⟩⟩ Q Q<|gl 3 [3,2]<|el H fun te had H=>cl Q (cL 38) Q (Pt.kj (q7.c had) (.cons (mV (.cons bQ (.cons bQ (.cons cR (.cons bQ .nil))))) (.cons bQ (.cons bQ .nil))))<|go 1<|dV Q T Q Q<|dV Q T Q Q<|dV Q T Q Q<|al Q T JY nofun fun bh=>sy 0 ?_
  refine go 2<|wr 4 8<|gl 3 [0]<|sx 4 Q T Q Q (cells_one dL) Ic Q Q Q nofun ?_
  refine .fin<|wr 11 32<|gl 5 [5,5,3]<|el H fun tg hae H=>cx 12 [8,7,0,1,2,3,4,5,6,9,10,11] (cL 39) (iD.c hae (p0_:=p0_1) (p1_:=p0_0)) nofun fun _ _=>?_
  refine go 1<|dV Q T Q Q<|dV Q T Q Q<|go 2<|WP.seq<|wr 8 0<|go 2<|ot Q Q Q (zB U4)<|gp 1 ?_
  rcases bm H with ⟨cg,H⟩ | ⟨cg,H⟩
  rotate_left
  ·
   refine sh 85 cg ?_
   refine sh 86 cg ?_
   refine go 4<|WP.cond Q (fun _=>?_) nofun
   refine wr 3 2<|gl 1 [6]<|sy 4 ?_
   refine gq 1 ?_
   have H:=H.eR
   cases H.out; exact rt i2 Q () 12 [2,3,4,5,6,7,8,1,0,9,10,11] 6 (.cons (au Q B4 Q Gg (aa 4 Q) Q) (.cons (aB Q) .nil))
  refine sh 85 cg ?_
  refine sh 86 cg ?_
  refine go 4<|ce H ?_ ?_ <;> intro H
  ·
   refine wr 3 2<|gl 1 [6]<|sy 4 ?_
   refine gq 1 ?_
   have H:=H.eR
   cases H.out; exact rt i2 Q () 12 [2,3,4,5,6,7,8,1,0,9,10,11] 6 (.cons (au Q B4 Q Gg (aa 4 Q) Q) (.cons (aB Q) .nil))
  refine WP.skip<|wr 4 8<|gl 1 [5]<|el H fun tj haf H=>cl Q (cL 40) Q (p9.c haf)<|Dv.kJ (qs:=[vI 1,vS tj.ab,vS tj.aj,vS tj.ae,vB tj.aq,vS eE]) (css:=[[vI 1],bB.enc tj]) Q T rL xV z116 Q ⟨(cells_one (ah Q)),⟨(aS (bB.K.one _)),T⟩⟩ Q Q<|sy 3 ?_
  refine .fin<|rg 4 0<|gl 2 [3]<|el H fun tm hag H=>pN 12 [8,0,1,2,3,4,5,6,7,9,10,11] (cL 41) (iK.c hag) ?_
  refine gq 1 ?_
  have H:=H.out
  refine ns 12 [2,3,4,5,6,7,0,1,8,9,10,11] 1 ?_
  exact jn (tm,(⟨1,tj,eE⟩:jO),(⟨a1.fV,te.1.fL,a1.fT,a1.fP,a1.fL,a1.aL⟩:dy),tg.2.2,a0.aO,a0.aR) H
 refine so<|ce H ?_ ?_ <;> intro H
 ·
  refine wr 12 768<|gl 3 [3,2]<|el H fun tn hah H=>cl Q (cL 42) Q (cU.c hah)<|go 1<|dV Q T Q Q<|dV Q T Q Q<|dV Q T Q Q<|al Q T Lx nofun fun bi=>sy 0 ?_
  refine go 2<|wr 3 4<|gl 2 [0]<|sy 4 ?_
  refine .fin<|wr 9 8<|gl 3 [5,3]<|el H fun tp hai H=>cx 12 [9,0,1,2,3,4,5,6,7,8,10,11] (cL 43) (fE.c hai (p0_:=p0_2)) nofun fun _ _=>?_
  refine go 1<|dV Q T Q Q<|dV Q T Q Q<|go 2<|WP.seq<|wr 3 0<|go 2<|ot Q Q Q (zB U4)<|.fin<|ce H ?_ ?_ <;> intro H
  ·
   refine wr 3 2<|gl 1 [5]<|sy 3 ?_
   refine gq 1 ?_
   have H:=H.eR
   cases H.out; exact rt i2 Q () 12 [1,2,3,4,5,6,7,8,9,0,10,11] 6 (.cons (au Q B4 Q Gg (aa 3 Q) Q) (.cons (aB Q) .nil))
  refine WP.skip<|wr 4 8<|gl 2 [4]<|Dv.kJ (qs:=[vI 2,vS eE,vS eE,vS eE,vB false,vS a2.ab]) (css:=[[vI 2],[vS a2.ab]]) Q T rL xV z116 Q ⟨(cells_one (ah Q)),⟨(cells_one (ah Q)),T⟩⟩ Q Q<|sy 2 ?_
  refine .fin<|rg 4 0<|gl 2 [4]<|el H fun tq haj H=>cl Q (cL 44) Q (jF.c haj)<|gq 1 ?_
  have H:=H.out
  refine ns 12 [1,2,3,4,5,6,9,8,7,0,10,11] 1 ?_
  exact jn (tq,(⟨2,(⟨eE,eE,eE,false⟩:bB),a2.ab⟩:jO),(⟨a1.fV,a1.fM,tn.1,a1.fP,a1.fL,a1.aL⟩:dy),a0.ay,tp.2.2,a0.aR) H
 refine wr 12 768<|gl 3 [3,2]<|el H fun tu hak H=>cl Q (cL 45) Q (de.c hak)<|go 1<|dV Q T Q Q<|dV Q T Q Q<|dV Q T Q Q<|al Q T KR nofun fun bj=>sy 0 ?_
 refine go 2<|wr 3 4<|gl 2 [0]<|sy 4 ?_
 refine .fin<|wr 9 8<|gl 3 [5,3]<|el H fun tw ham H=>cx 12 [10,0,1,2,3,4,5,6,7,8,9,11] (cL 46) (eJ.c ham (p0_:=p0_3)) nofun fun _ _=>?_
 refine go 1<|dV Q T Q Q<|dV Q T Q Q<|go 2<|WP.seq<|wr 3 0<|go 2<|ot Q Q Q (zB U4)<|.fin<|ce H ?_ ?_ <;> intro H
 ·
  refine wr 3 2<|gl 1 [5]<|sy 3 ?_
  refine gq 1 ?_
  have H:=H.eR
  cases H.out; exact rt i2 Q () 12 [1,2,3,4,5,6,7,8,9,10,0,11] 6 (.cons (au Q B4 Q Gg (aa 3 Q) Q) (.cons (aB Q) .nil))
 refine WP.skip<|wr 4 8<|gl 2 [4]<|Dv.kJ (qs:=[vI 3,vS eE,vS eE,vS eE,vB false,vS a2.aj]) (css:=[[vI 3],[vS a2.aj]]) Q T rL xV z116 Q ⟨(cells_one (ah Q)),⟨(cells_one (ah Q)),T⟩⟩ Q Q<|sy 2 ?_
 refine .fin<|rg 4 0<|gl 2 [4]<|el H fun tx han H=>cl Q (cL 47) Q (jI.c han)<|gq 1 ?_
 have H:=H.out
 refine ns 12 [1,2,3,4,5,6,9,8,7,10,0,11] 1 ?_
 exact jn (tx,(⟨3,(⟨eE,eE,eE,false⟩:bB),a2.aj⟩:jO),(⟨a1.fV,a1.fM,a1.fT,tu.1,a1.fL,a1.aL⟩:dy),a0.ay,a0.aO,tw.2.2) H
theorem gS.c (h:gS.f k a0=some r):Pt prog 51 [vI a0] (vS r):=by
 refine pf func51 h fun R0 F H=>?_
 refine so<|wr 3 0<|go 1<|el H fun ta haa H=>cl Q (cL 10) Q (br.c haa)<|go 1<|WP.seq<|so<|ce H ?_ ?_ <;> intro H
 ·
  refine sp ?_
  cases H.out; exact ek 0
 refine WP.skip<|WP.seq<|so<|ce H ?_ ?_ <;> intro H
 ·
  refine sp ?_
  cases H.out; exact ek 0
 refine WP.skip<|wr 3 0<|go 1<|el H fun tc hac H=>cl Q (cL 50) Q (dp.c hac)<|gq 1 ?_
 cases H.out; exact ek 0
theorem lN.c (h:lN.f k a0=some r):Pt prog 12 [agg (ak.enc a0)] (agg (ak.enc r)):=by
 refine pf func12 h fun R0 F H=>?_
 refine wr 2 3<|Dv.box Q T Q cA nofun fun ba=>al Q T u7 nofun fun bc=>.fin<|wd mX 16 49152<|gl 2 [1]<|el H fun ta haa H=>cl Q (cL 10) Q (br.c haa)<|gl 3 [1]<|el H fun tc hac H=>cl Q (cL 13) Q (il.c hac)<|gl 2 [1]<|el H fun te had H=>cl Q (cL 10) Q (br.c had)<|gl 2 [1]<|el H fun tg hae H=>cl Q (cL 10) Q (br.c hae)<|Dv.kJ (qs:=[vI (av (1+ta)),vS eE,vS tc,vS eE,vS eE,vB false,vB false,vI 0,vI 0,vI te,vI tg]) (css:=[[vI (av (1+ta))],[vS tc],[vI te],[vI tg]]) Q T gN BC vM Q ⟨(cells_one (ah Q)),⟨(cells_one (ah Q)),⟨(cells_one (ah Q)),⟨(cells_one (ah Q)),T⟩⟩⟩⟩ Q Q<|al Q T u7 pD fun bd=>sv 0 ?_
 refine .fin<|WP.seq<|sN [0]<|WP.block<|so<|ce H ?_ ?_ <;> intro H
 ·
  refine wr 5 16<|gl 2 [2]<|el H fun tj haf H=>cl Q (cL 18) Q (fc.c haf)<|go 1<|sy 0 ?_
  refine .fin<|wd mX 10 512<|gl 2 [2]<|Dv.lens Q T Q U9<|gl 2 [2]<|el H fun tm hag H=>cl Q (cL 10) Q (br.c hag)<|go 1<|el H fun tn hah H=>cl Q (cL 50) Q (dp.c hah)<|go 1<|sv 0 ?_
  refine .fin<|wr 6 32<|gl 2 [2]<|Dv.lens Q T Q U9<|el H fun tp hai H=>cl Q (cL 51) Q (gS.c hai)<|go 1<|sy 0 ?_
  refine .fin<|rg 4 8<|gl 3 [2]<|sy 0 ?_
  refine .fin<|wr 2 2<|gl 1 [0]<|sy 1 ?_
  refine .fin ?_
  cases H.out; exact r3 i2 Q (.cons (au Q gN Q iy (aa 1 Q) Q) .nil)
 refine so<|cf H ?_ ?_ <;> intro H
 ·
  refine rg 5 16<|gl 2 [2]<|el H fun tq haj H=>cl Q (cL 10) Q (br.c haj)<|go 1<|sy 0 ?_
  refine .fin<|wr 2 2<|gl 1 [0]<|sy 1 ?_
  refine .fin ?_
  cases H.out; exact r3 i2 Q (.cons (au Q gN Q iy (aa 1 Q) Q) .nil)
 refine wr 5 16<|gl 2 [2]<|el H fun tu hak H=>cl Q (cL 18) Q (fc.c hak)<|go 1<|sy 0 ?_
 refine .fin<|wr 4 8<|gl 3 [2]<|sy 0 ?_
 refine .fin<|sN [2]<|cf H ?_ ?_ <;> intro H
 ·
  refine WP.skip<|wr 2 2<|gl 1 [0]<|sy 1 ?_
  refine .fin ?_
  cases H.out; exact r3 i2 Q (.cons (au Q gN Q iy (aa 1 Q) Q) .nil)
 refine rg 6 32<|gl 2 [2]<|el H fun tw ham H=>cl Q (cL 10) Q (br.c ham)<|go 2<|sy 0 ?_
 refine .fin<|wr 2 2<|gl 1 [0]<|sy 1 ?_
 refine .fin ?_
 cases H.out; exact r3 i2 Q (.cons (au Q gN Q iy (aa 1 Q) Q) .nil)
theorem slices_DeleteFunc_string_xo.c {X1_:As} {p0_:OV} (h:slices_DeleteFunc_string_xo.f k a0 a1=some r):Tr prog 71 [eq p0_.1,kC X1_ a1] [own aw p0_.1 a0,X1_] (γ:=OV) (fun _=>True) (fun g=>eq g.1) (fun g=>[X1_,own aw g.1 r]):=by
 refine tf func71 h fun R0 F H=>?_
 refine so<|wr 4 0<|go 2<|el H fun ta haa H=>pN 2 [0,1] (cL 137) (aA.c haa (p0_:=p0_) (X1_:=X1_)) ?_
 refine go 1<|WP.seq<|so<|ce H ?_ ?_ <;> intro H
 ·
  refine sp ?_
  cases H.out; exact et p0_ 2 [1,0] 0
 refine WP.skip<|sq H id [0] (fun pa=>[(5,vI pa.1)]) (fun pa=>[(0,own aw p0_.1 pa.2.2.2)]) (fun pa H=>?_) (fun H=>?_)
 ·
  refine wr 4 8<|go 2<|gr H fun ga H=>vg (AT 0 Q (List.length_pos_iff.1 (Nat.lt_of_le_of_lt (Nat.zero_le _) ga.2))) fun gb hac=>?_
  refine Dv.wS (o':=gb.2.1+pa.1.toNat*aw.sz) (m':=pa.2.2.2.length-pa.1.toNat) (c':=gb.2.2-pa.1.toNat) Q T ((show opv _ _=some (eq p0_.1) from Q).trans (congrArg (fun z=>some (eq z)) hac.1)) dj U9 c9 (eY Q ga.1) dK (Nat.le_of_lt ga.2) hac.2 (.inl (Nat.lt_of_lt_of_le ga.2 hac.2)) Q Q Q<|Dv.clrw (jj:=0) eE Q T Q dj z9 Q Q (fun u hu=>by simp [Value.cells] at hu; subst hu; rfl) hac.1 Q ga.2 Q nofun<|.fin<|wr 4 4<|go 2<|gr H fun gi H=>Dv.slo (jj:=0) Q T Q Q dj U9 c9 dK (eY Q gi.1) (.inl Q) gi.2.1 gi.2.2 nofun (fun va=>?_)
  refine gq 1 ?_
  cases H.out; exact et va 2 [1,0] 0
 refine so<|WP.block<|ws 2 [0,1] 0 ?_
 refine lq (fun j_ (pc:Int×Int×(List BA))=>slices_DeleteFunc_string_xo.l0 k a1 j_ pc.1 pc.2.1 pc.2.2) (ta,av (ta+1),a0) H [0,1] (fun pc=>[(5,vI pc.1),(6,vI pc.2.1)]) (fun pc=>[(0,own aw p0_.1 pc.2.2)]) ?_
 rintro j_ ⟨xc,xd,xe⟩ H
 rcases j_ with _ | ja
 ·
  exact (aU.no H).elim
 try dsimp only at H
 rw [slices_DeleteFunc_string_xo.l0] at H
 refine WP.seq<|wr 4 0<|go 2<|Dv.kl Q T Q (aa 0 Q) dj<|go 1<|cf H ?_ ?_ <;> intro H
 ·
  refine WP.exit ?_
  have H:=H.out
  exact jn (xc,xd,decide (xd<(xe.length:Int)),xe) H
 refine WP.skip<|WP.seq<|WP.block<|wr 5 0<|go 2<|gr H fun gj H=>?_
 have had:xd.toNat<xe.length:=bq gj
 refine Dv.jQ Q T Q (aa 0 Q) Q dj U9 c9 gj.1 gj.2<|Dv.na (j:=xd.toNat) (f:=0) (p:=vS (xe.getD xd.toNat default)) Q T Q (aa 0 Q) had U9 Q Q<|go 1<|wr 4 0<|go 2<|el H fun tc hae H=>Dv.B1 (ret:=vB tc) (X:=X1_) (F:=[own aw p0_.1 xe]++F) Q T Q Q ⟨_,_,hae,Q,Q⟩ (lK (L:=[own aw p0_.1 xe,X1_]) (F:=F) [1,0] Q Q Q)<|go 1<|cf H ?_ ?_ <;> intro H
 ·
  exact WP.skip<|rg 3 0<|go 3<|bk ja (xc,av (xd+1),xe) H
 refine wr 5 16<|go 3<|gr H fun gk H=>?_
 have haf:xc.toNat<xe.length:=bq gk
 exact Dv.jQ Q T Q (aa 0 Q) Q dj U9 c9 gk.1 gk.2<|Dv.Jg (j:=xc.toNat) (f:=0) (jj:=0) (xe.getD xd.toNat default) Q T Q Q (cells_one (ah Q)) U9 c9 Q Q haf (Nat.le_of_ble_eq_true Q) Q nofun<|.fin<|rg 3 0<|go 3<|rg 3 0<|go 3<|bk ja (av (xc+1),av (xd+1),xe.set xc.toNat (xe.getD xd.toNat default)) H
theorem eK.c {v0_0 v0_1:OV} {b0_:Nat} (h:eK.f k a0 a1 a2 a3=some r):Tr prog 138 [dR b0_,vS a1,vS a2,vI a3] [aC b0_ 190 [eq v0_0.1,eq v0_1.1],own ak.K v0_0.1 a0.fl] (γ:=Unit) (fun _=>True) (fun g=>vB r) (fun g=>[aC b0_ 190 [eq v0_0.1,eq v0_1.1],own ak.K v0_0.1 a0.fl]):=by
 refine tf func138 h fun R0 F H=>?_
 refine so<|wr 10 0<|go 3<|Dv.kJ (qs:=[vI 0,vS a1,vS a2,vS eE,vS eE,vB false,vB false,vI 0,vI 0,vI 0,vI 0]) (css:=[[vS a1],[vS a2]]) Q T gN BC vM Q ⟨(cells_one (ah Q)),⟨(cells_one (ah Q)),T⟩⟩ Q Q<|el H fun ta haa H=>pN 2 [0,1] (cL 106) (dW.c haa (b0_:=b0_) (v0_0:=v0_0) (v0_1:=v0_1)) ?_
 refine go 1<|dV Q T Q Q<|dV Q T Q Q<|go 2<|wr 24 0<|gp 2 ?_
 cases cc:ta.2
 ·
  have H:=H.cf cc
  refine gq 22 ?_
  cases H.out; exact et () 2 [0,1] 0
 have H:=H.ct cc
 refine gl 5 [0]<|gr H fun ga H=>?_
 have hac:ta.1.toNat<a0.fl.length:=bq ga
 refine Dv.jQ Q (gg Q) Q (aa 1 Q) Q eW gN iy ga.1 ga.2<|fw Q (gg Q) Q Hv<|Dv.na (j:=ta.1.toNat) (f:=6) (p:=vB ((a0.fl.getD ta.1.toNat default).kb)) Q (gg Q) Q (aa 1 Q) hac U4 Q Q<|gp 2 ?_
 cases cg:(a0.fl.getD ta.1.toNat default).kb
 ·
  have H:=H.cf cg
  refine gq 12 ?_
  cases H.out; exact et () 2 [0,1] 0
 have H:=H.ct cg
 refine gl 6 [0]<|gr H fun gb H=>?_
 have had:ta.1.toNat<a0.fl.length:=bq gb
 refine Dv.jQ Q (gg Q) Q (aa 1 Q) Q eW gN iy gb.1 gb.2<|Dv.pT (j:=ta.1.toNat) (f:=0) Q (gg Q) Q (aa 1 Q) had gN Q iy (Nat.le_of_ble_eq_true Q)<|el H fun tc hae H=>Dv.call Q (gg Q) (cL 111) Q (jJ.c hae)<|gq 3 ?_
 cases H.out; exact et () 2 [0,1] 0
theorem aT.c {v0_0 v0_1:OV} {b0_:Nat} (h:aT.f k a0 a1 a2=some r):Tr prog 72 [dR b0_,vS a1,vI a2] [aC b0_ 190 [eq v0_0.1,eq v0_1.1],own ak.K v0_0.1 a0.fl] (γ:=OV) (fun _=>True) (fun g=>eq g.1) (fun g=>[aC b0_ 190 [eq v0_0.1,eq v0_1.1],own ak.K v0_0.1 a0.fl,own aw g.1 r]):=by
 refine tf func72 h fun R0 F H=>?_
 refine so<|so<|wr 3 0<|go 1<|Dv.mkc (fst:=#[.pointer (some ⟨b0_,0,none⟩)]) Q T Q<|go 1<|WP.jh H (fun qh:(Int×Bool×(List BA))×OV=>qh.1) (fun qh=>[(7,eq qh.2.1)]) (fun qh=>[aC b0_ 190 [eq v0_0.1,eq v0_1.1],own ak.K v0_0.1 a0.fl,own aw qh.2.1 qh.1.2.2]++F) (fun qh H=>?_) (fun H=>?_)
 ·
  obtain ⟨pa,va⟩:=qh
  refine sp ?_
  cases H.out; exact et va 3 [0,1,2] 0
 refine wr 6 0<|gl 4 [0]<|Dv.kl Q T Q (aa 1 Q) eW<|go 1<|WP.block<|wg (dw aw none) fun _ _=>?_
 refine ws 3 [1,2,0] 0 ?_
 refine lq (fun j_ (pc:Int×(List BA)×OV)=>aT.l0 k a0 a1 a2 j_ pc.1 pc.2.1) (0,([]:List BA),jS) H [1,2,8,16,17] (fun pc=>[(7,eq pc.2.2.1),(18,vI pc.1)]) (fun pc=>[(2,own aw pc.2.2.1 pc.2.1)]) ?_
 rintro j_ ⟨xc,xd,vb⟩ H
 rcases j_ with _ | ja
 ·
  exact (aU.no H).elim
 try dsimp only at H
 rw [aT.l0] at H
 refine so<|WP.seq<|cf H ?_ ?_ <;> intro H
 ·
  refine WP.exit ?_
  have H:=H.out
  exact jn ((xc,decide (xc<(a0.fl.length:Int)),xd),vb) H
 refine WP.skip<|WP.seq<|WP.block<|wr 4 12<|gr H fun ga H=>?_
 have haa:xc.toNat<a0.fl.length:=bq ga
 refine Dv.jQ Q T Q (aa 1 Q) Q eW gN iy ga.1 ga.2<|Dv.pT (j:=xc.toNat) (f:=0) Q T Q (aa 1 Q) haa gN Q iy (Nat.le_of_ble_eq_true Q)<|al Q T u7 nofun fun ba=>sy 0 ?_
 refine .fin<|wr 12 0<|kX 5 [0] ?_
 cases cc:decide (((a0.fl.getD xc.toNat default).ab)=a1)
 ·
  have H:=H.cf cc
  refine go 7<|WP.cond Q nofun (fun _=>?_)
  refine WP.skip<|rg 2 0<|go 2<|ns 4 [0,1,2,3] 1 ?_
  exact bk ja (av (xc+1),xd,vb) H
 have H:=H.ct cc
 refine gl 5 [0]<|el H fun ta hac H=>Dv.Fq (fst:=#[.pointer (some ⟨b0_,0,none⟩)]) (B:=[aC b0_ 190 [eq v0_0.1,eq v0_1.1],own ak.K v0_0.1 a0.fl]) (F:=[aC ba 52 (ak.enc (a0.fl.getD xc.toNat default)),own aw vb.1 xd]++F) Q (gg Q) Q (cL 138) Q (eK.c hac (b0_:=b0_) (v0_0:=v0_0) (v0_1:=v0_1)) (lK (L:=[aC ba 52 (ak.enc (a0.fl.getD xc.toNat default)),aC b0_ 190 [eq v0_0.1,eq v0_1.1],own ak.K v0_0.1 a0.fl,own aw vb.1 xd]) (F:=F) [1,2,0,3] Q Q Q)<|go 1<|cf H ?_ ?_ <;> intro H
 ·
  refine WP.skip<|rg 2 0<|go 2<|ns 4 [0,1,2,3] 1 ?_
  exact bk ja (av (xc+1),xd,vb) H
 refine rg 6 16<|gl 3 [0]<|Dv.lit aw ([(a0.fl.getD xc.toNat default).aj]:List BA) (css:=[[vS ((a0.fl.getD xc.toNat default).aj)]]) Q T dj U9 c9 z9 Q dc dc Q ⟨(cells_one (ah Q)),T⟩ Q Q Q<|gr H fun gb H=>ap aw 3 ([(a0.fl.getD xc.toNat default).aj]:List BA) bF dj (.inr ⟨_,dj⟩) rM gb nofun fun vd=>?_
 refine go 1<|rg 2 0<|go 2<|ns 4 [0,1,2,3] 1 ?_
 exact bk ja (av (xc+1),xd++([(a0.fl.getD xc.toNat default).aj]:List BA),vd) H
theorem LN (x y:Pos):iS.f 8 x y=some (fq x y):=by
 unfold iS.f cD.f aD.f cmp_isNaN_int.f cmp_isNaN_string.f bG.f fq j8
 simp only [Option.bind_some,bne_self_eq_false,decide_true,Bool.not_true,cond_false]
 rcases Int.lt_trichotomy x.bx y.bx with h | h | h
 ·
  have h2:¬ y.bx<x.bx:=om
  simp only [h,decide_true,cond_true,Option.bind_some,if_true]
  cases dJ x.bV y.bV <;> cases dJ y.bV x.bV <;> rfl
 rotate_left
 ·
  have h1:¬ x.bx<y.bx:=om
  simp only [h,h1,decide_true,decide_false,cond_true,cond_false,Option.bind_some,if_true,if_false]
  cases dJ x.bV y.bV <;> cases dJ y.bV x.bV <;> rfl
 have h1:¬ x.bx<y.bx:=om
 have h2:¬ y.bx<x.bx:=om
 simp only [h1,h2,decide_false,cond_false,Option.bind_some,if_false]
 cases dJ x.bV y.bV <;> cases dJ y.bV x.bV <;> rfl
theorem yV (x y:Pos):ltOf fq x y=true↔x.bx<y.bx∨(x.bx=y.bx∧dJ x.bV y.bV=true):=by
 unfold ltOf fq
 rw [decide_eq_true_eq]
 by_cases h:x.bx<y.bx
 ·
  simp [h]
 by_cases h2:y.bx<x.bx
 ·
  rw [if_neg h,if_pos h2]; constructor
  ·
   intro k; omega
  rintro (k | ⟨k,_⟩) <;> omega
 rw [if_neg h,if_neg h2,nq]; constructor
 ·
  intro k; exact .inr ⟨om,k⟩
 rintro (k | ⟨_,k⟩)
 ·
  omega
 exact k
theorem vR (x y:Pos):ltOf fq x y=false↔y.bx<x.bx∨(x.bx=y.bx∧dJ x.bV y.bV=false):=by
  have h:=yV x y
  cases e:ltOf fq x y with
  | true=>
    have h:=h.1 e
    refine ⟨fun k=>(by cases k),fun k=>?_⟩
    rcases h with h | ⟨h1,h2⟩ <;> rcases k with k | ⟨k1,k2⟩
    · omega
    · omega
    · omega
    · rw [h2] at k2; cases k2
  | false=>
    refine ⟨fun _=>?_,fun _=>Q⟩
    rw [e] at h
    have h:¬ _:=fun k=>by have:=h.2 k; cases this
    rcases Int.lt_trichotomy x.bx y.bx with k | k | k
    · exact (h (.inl k)).elim
    · cases e2:dJ x.bV y.bV with
      | true=>exact (h (.inr ⟨k,e2⟩)).elim
      | false=>exact .inr ⟨k,rfl⟩
    · exact .inl k
theorem nD:Go.Sort.SWO (ltOf fq) where
  irrefl x:=by rw [vR]; exact .inr ⟨rfl,iZ _⟩
  trans x y z h1 h2:=by
    rw [yV] at *
    rcases h1 with h1 | ⟨h1,k1⟩ <;> rcases h2 with h2 | ⟨h2,k2⟩
    · exact .inl om
    · exact .inl om
    · exact .inl om
    · exact .inr ⟨om,mn k1 k2⟩
  ntrans x y z h1 h2:=by
    rw [vR] at *
    rcases h1 with h1 | ⟨h1,k1⟩ <;> rcases h2 with h2 | ⟨h2,k2⟩
    · exact .inl om
    · exact .inl om
    · exact .inl om
    · exact .inr ⟨om,px k2 k1⟩
theorem qH (x y:Pos) (h1:ltOf fq x y=false) (h2:ltOf fq y x=false):x=y:=by
 rw [vR] at *
 rcases h1 with h1 | ⟨h1,k1⟩ <;> rcases h2 with h2 | ⟨h2,k2⟩
 ·
  omega
 ·
  omega
 ·
  omega
 obtain ⟨a,b⟩:=x; obtain ⟨c,d⟩:=y
 simp only at h1 k1 k2
 rw [h1,lf k1 k2]
theorem dM.c {p0_:OV} (h:dM.f a0=some r):Tr prog 285 [eq p0_.1,eq (.func (.func 161) #[] #[])] [own Pos.K p0_.1 a0] (γ:=Unit) (fun _=>True) (fun g=>kZ []) (fun g=>[own Pos.K p0_.1 r]):=by
 unfold dM.f at h
 obtain ⟨h0,h5⟩:=(aU.of h).an
 obtain rfl:=aU.out h5
 exact GI (K:=Pos.K) (ev:=fun x=>[.int .i64 x.bx,.string x.bV]) (fun _=>Q) dc (fun x y=>iS.c (LN x y)) (fun aC off cap d w hc hH hb hs=>AnyQ.slices_SortFunc_total Tryz.lays6 2 Tryz.isAgg81 Tryz.sizeOf81 _ (fun _=>Q) (fun x v hv=>by simp at hv; rcases hv with rfl | rfl <;> rfl) fq nD 161 #[] aC off cap d w (enters_of func161 kr Q) hc hH hb hs qH) (fun q cap w=>AnyF.slices_SortFunc_none Tryz.lays6 q cap _ w) om
theorem oz.c {b0_:Nat} (h:oz.f a0=some r):Tr prog 271 [dR b0_] [aC b0_ 268 [vS a0.fe.bV,vS a0.fe.ab,sl aw a0.fe.ag,vS a0.fe.ae,vS a0.fe.aj,vI a0.fe.bR,vI a0.cK,vB a0.kM]] (γ:=Unit) (fun _=>True) (fun g=>vB r) (fun g=>[aC b0_ 268 [vS a0.fe.bV,vS a0.fe.ab,sl aw a0.fe.ag,vS a0.fe.ae,vS a0.fe.aj,vI a0.fe.bR,vI a0.cK,vB a0.kM]]):=by
 refine tf func271 h fun R0 F H=>?_
 refine so<|sp ?_
 cases H.out; exact et () 1 [0] 0
theorem aG.c {b0_:Nat} {v0_0:OV} (h:aG.f a0=some r):Tr prog 270 [dR b0_,eq (.func (.func 271) #[] #[])] [aC b0_ 265 [vS a0.cQ,eq v0_0.1],kU Value.string aY.O v0_0.1 a0.ao] (γ:=OV) (fun _=>True) (fun g=>eq g.1) (fun g=>[aC b0_ 265 [vS a0.cQ,eq v0_0.1],kU Value.string aY.O v0_0.1 a0.ao,own aw g.1 r]):=by
  unfold aG.f at h
  obtain ⟨h0,h5⟩:=(aU.of h).an
  obtain rfl:=aU.out h5
  clear h h5
  refine Tr.body func270 (c:=_) Q ntmps270 (Nat.le_of_ble_eq_true Q) fun R0 F=>?_
  refine so<|sp ?_
  refine WP.GQ (β:=List Nat×OV) (fun b=>b.1.Perm (List.range a0.ao.length)) (fun b=>[(5,eq b.2.1),(1,eq (.func (.func 271) #[] #[]))]) (fun b=>[own Pos.K b.2.1 (lr a0.ao aG.g b.1),kU Value.string aY.O v0_0.1 a0.ao,aC b0_ 265 [vS a0.cQ,eq v0_0.1]]++F) (fun b hb=>?_) ?_
  rotate_left
  · refine wr 5 16<|kX 4 [0] ?_
    refine Dv.gh (l':=fun ps:List OV=>[mp Value.string (fun p:OV=>eq p.1) v0_0.1 (cX a0.ao ps),rv aY.O a0.ao ps,aC b0_ 265 [vS a0.cQ,eq v0_0.1]]++F) (jw (mE 1 Q)) (fun ps hps=>?_)
    refine Dv.rgb (jj:=0) Q T Q Q xv nofun (fun q=>.fin ?_)
    refine WP.gh (l':=fun _:Unit=>[uj Value.string (fun p:OV=>eq p.1) v0_0.1 q.1 (cX a0.ao ps) [],rv aY.O a0.ao ps,aC b0_ 265 [vS a0.cQ,eq v0_0.1]]++F) (jw (ok:=fun _=>True) fun R w k=>⟨(),T,k⟩) (fun _ _=>?_)
    refine WP.gh (l':=fun _:Unit=>[own Pos.K jS.1 [],uj Value.string (fun p:OV=>eq p.1) v0_0.1 q.1 (cX a0.ao ps) [],rv aY.O a0.ao ps,aC b0_ 265 [vS a0.cQ,eq v0_0.1]]++F) (jw (dw Pos.K none)) (fun _ _=>?_)
    refine WP.block ?_
    refine WP.kj (E':=(fun b:List Nat×OV=>[(5,eq b.2.1),(15,eq q.1),(1,eq (.func (.func 271) #[] #[]))]) ([],jS)) (cW Q (cW Q (cW Q jU))) (WP.loop (β:=List Nat×OV) (fun k b=>b.1.length+k=a0.ao.length) (fun b=>[(5,eq b.2.1),(15,eq q.1),(1,eq (.func (.func 271) #[] #[]))]) (fun b=>[own Pos.K b.2.1 (lr a0.ao aG.g b.1),uj Value.string (fun p:OV=>eq p.1) v0_0.1 q.1 (cX a0.ao ps) b.1,rv aY.O a0.ao ps,aC b0_ 265 [vS a0.cQ,eq v0_0.1]]++F) ?_ (k:=a0.ao.length) (b:=([],jS)) (Nat.zero_add _))
    rintro k ⟨is,v⟩ hk
    replace hk:is.length+k=a0.ao.length:=hk
    refine wr 2 1<|Dv.rgn (jj:=1) Q T Q Q nofun (fun z hz=>?_)
    rcases z with _ | j
    · have hz:is.Perm (List.range (cX a0.ao ps).length):=hz
      rw [qA hps.1] at hz
      refine dV Q T Q Q<|.fin<|WP.seq<|WP.cond Q nofun (fun _=>WP.exit ?_)
      refine Dn.gh (l':=fun _:Unit=>[own Pos.K v.1 (lr a0.ao aG.g is),uj Value.string (fun p:OV=>eq p.1) v0_0.1 q.1 (cX a0.ao ps) is,rv aY.O a0.ao ps,aC b0_ 265 [vS a0.cQ,eq v0_0.1]]++F) (jw (ok:=fun _=>True) fun R w k=>⟨(),T,k⟩) (fun _ _=>?_)
      refine Dn.gh (l':=fun _:Unit=>[mp Value.string (fun p:OV=>eq p.1) v0_0.1 (cX a0.ao ps),own Pos.K v.1 (lr a0.ao aG.g is),rv aY.O a0.ao ps,aC b0_ 265 [vS a0.cQ,eq v0_0.1]]++F) (jw (Hk (pm 4 [1,0,2,3]))) (fun _ _=>?_)
      refine Dn.gh (l':=fun _:Unit=>[kU Value.string aY.O v0_0.1 a0.ao,own Pos.K v.1 (lr a0.ao aG.g is),aC b0_ 265 [vS a0.cQ,eq v0_0.1]]++F) (jw (iH hps Q (pm 4 [0,2,1,3]))) (fun _ _=>?_)
      exact Jn.mk (is,v) hz (cW Q (cW Q jU)) (oI 3 [1,0,2] kr Q Q)
    have hz:j<(cX a0.ao ps).length∧j ∉ is∧is.length<(cX a0.ao ps).length:=hz
    obtain ⟨e,p,he,hp,hep⟩:=Ap hps hz.1
    have hlt:is.length<a0.ao.length:=by rw [← qA hps.1]; exact hz.2.2
    have hsl:=Nat.le_trans (Bb (m:=a0.ao) (f:=aG.g) (is:=is)) (Nat.le_of_lt hlt)
    have e1:nxV Value.string (fun p:OV=>eq p.1) (cX a0.ao ps) (some j)=kZ [vB true,vS e.1,eq p.1]:=by simp only [nxV,hep]
    rw [e1]
    refine dV Q T Q Q<|.fin<|WP.seq<|WP.cond Q (fun _=>WP.skip ?_) nofun
    refine WP.gh (l':=fun _:Unit=>[own Pos.K v.1 (lr a0.ao aG.g is),uj Value.string (fun p:OV=>eq p.1) v0_0.1 q.1 (cX a0.ao ps) (is++[j]),rv aY.O a0.ao ps,aC b0_ 265 [vS a0.cQ,eq v0_0.1]]++F) (jw (ok:=fun _=>True) fun R w k=>⟨(),T,k⟩) (fun _ _=>?_)
    refine WP.block<|wr 5 0<|Dv.rge 1 Q T Q Q hep ?_
    refine dV Q T Q Q<|dV Q T Q Q<|gq 2 ?_
    refine WP.gh (l':=fun _:Unit=>[aY.O p e.2,Ed aY.O a0.ao ps j,own Pos.K v.1 (lr a0.ao aG.g is),uj Value.string (fun p:OV=>eq p.1) v0_0.1 q.1 (cX a0.ao ps) (is++[j]),aC b0_ 265 [vS a0.cQ,eq v0_0.1]]++F) (jw (I7 he hp (pm 4 [2,0,1,3]))) (fun _ _=>?_)
    refine WP.gh (l':=fun b:Nat=>[aC b 268 [vS e.2.fe.bV,vS e.2.fe.ab,sl aw e.2.fe.ag,vS e.2.fe.ae,vS e.2.fe.aj,vI e.2.fe.bR,vI e.2.cK,vB e.2.kM],Ed aY.O a0.ao ps j,own Pos.K v.1 (lr a0.ao aG.g is),uj Value.string (fun p:OV=>eq p.1) v0_0.1 q.1 (cX a0.ao ps) (is++[j]),aC b0_ 265 [vS a0.cQ,eq v0_0.1]]++F) (jw (aY.jf 0 Q)) (fun b hb=>?_)
    refine wr 3 0<|go 2<|Dv.Fq (fst:=#[]) (B:=[aC b 268 [vS e.2.fe.bV,vS e.2.fe.ab,sl aw e.2.fe.ag,vS e.2.fe.ae,vS e.2.fe.aj,vI e.2.fe.bR,vI e.2.cK,vB e.2.kM]]) (F:=[Ed aY.O a0.ao ps j,own Pos.K v.1 (lr a0.ao aG.g is),uj Value.string (fun p:OV=>eq p.1) v0_0.1 q.1 (cX a0.ao ps) (is++[j]),aC b0_ 265 [vS a0.cQ,eq v0_0.1]]++F) Q T Q (cL 271) Q (Tr.kj (oz.c (a0:=e.2) (b0_:=b) (r:=true) Q) (.cons (iV hb) .nil)) (List.Perm.refl _)<|.fin ?_
    refine WP.cond Q (fun c1=>?_) (fun c1=>?_)
    · have hg:aG.g e=some ⟨e.2.cK,e.1⟩:=by unfold aG.g; rw [c1]; rfl
      have e6:=xZ (f:=aG.g) (is:=is) he hg
      have hbd:(lr a0.ao aG.g is).length+([⟨e.2.cK,e.1⟩]:List Pos).length≤9223372036854775807∧((lr a0.ao aG.g is).length+([⟨e.2.cK,e.1⟩]:List Pos).length)*24≤140737488355328:=by rw [List.length_singleton]; omega
      refine rg 10 256<|go 2<|Dv.bY hb Q T Q<|fp hb Q T Q zf<|gl 2 [0]<|Dv.kJ (css:=[[vI e.2.cK],[vS e.1]]) Q T wI F9 Jj Q ⟨(cells_one (ah Q)),⟨(cells_one (ah Q)),T⟩⟩ Q Q<|Dv.lit Pos.K ([⟨e.2.cK,e.1⟩]:List Pos) (css:=[[vI e.2.cK,vS e.1]]) Q T GV wI Ak Jj Q dc dc Q ⟨cA,T⟩ Q Q Q<|ap Pos.K 2 ([⟨e.2.cK,e.1⟩]:List Pos) bF GV (.inr ⟨_,GV⟩) inf81 hbd nofun fun v9=>go 1 ?_
      refine Dn.gh (l':=fun _:Unit=>[aY.O p e.2,Ed aY.O a0.ao ps j,own Pos.K v9.1 ((lr a0.ao aG.g is)++([⟨e.2.cK,e.1⟩]:List Pos)),uj Value.string (fun p:OV=>eq p.1) v0_0.1 q.1 (cX a0.ao ps) (is++[j]),aC b0_ 265 [vS a0.cQ,eq v0_0.1]]++F) (jw (aY.shut (p:=p) (m:=e.2) b hb (List.Perm.refl _))) (fun _ _=>?_)
      refine Dn.gh (l':=fun _:Unit=>[rv aY.O a0.ao ps,own Pos.K v9.1 ((lr a0.ao aG.g is)++([⟨e.2.cK,e.1⟩]:List Pos)),uj Value.string (fun p:OV=>eq p.1) v0_0.1 q.1 (cX a0.ao ps) (is++[j]),aC b0_ 265 [vS a0.cQ,eq v0_0.1]]++F) (jw (HI he hp (List.Perm.refl _))) (fun _ _=>?_)
      rw [e6]
      exact xJ.mk (k-1) (is++[j],v9) om (by show (is++[j]).length+(k-1)=_; rw [List.length_append,List.length_singleton]; omega) (cW Q (cW Q (cW Q jU))) (oI 4 [1,2,0,3] kr Q Q)
    cases c1
  obtain ⟨is,v5⟩:=b
  replace hb:is.Perm (List.range a0.ao.length):=hb
  have hp:=xO (f:=aG.g) hb
  have hs:dM.f (lr a0.ao aG.g is)=some (kY fq (a0.ao.filterMap aG.g)):=by
    unfold dM.f Sp.an
    rw [if_pos (by rw [hp.length_eq]; exact Nat.le_trans (List.length_filterMap_le _ _) h0),EK nD qH hp]
  have hS:(kY fq (a0.ao.filterMap aG.g)).length≤1000000:=by unfold kY; rw [List.length_mergeSort]; exact Nat.le_trans (List.length_filterMap_le _ _) h0
  refine wr 2 2<|go 1<|cx 3 [0,1,2] (cL 285) (dM.c hs (p0_:=v5)) nofun fun _ _=>.fin ?_
  generalize kY fq (a0.ao.filterMap aG.g)=S at hS
  refine sp ?_
  refine WP.GQ (β:=OV) (fun _=>True) (fun v=>[(8,eq v.1)]) (fun v=>[own aw v.1 (S.map (·.bV)),own Pos.K v5.1 S,kU Value.string aY.O v0_0.1 a0.ao,aC b0_ 265 [vS a0.cQ,eq v0_0.1]]++F) (fun v _=>?_) ?_
  · refine so<|rt i2 Q v 4 [1,3,2,0] 1 (.cons (aB Q) .nil)
  refine wr 3 0<|go 1<|Dv.kl (Kd:=Pos.K) (xs:=S) (v:=v5.1) Q T Q (aa 0 Q) GV<|gq 1 ?_
  refine WP.gh (l':=fun _:Unit=>[own aw jS.1 [],own Pos.K v5.1 S,kU Value.string aY.O v0_0.1 a0.ao,aC b0_ 265 [vS a0.cQ,eq v0_0.1]]++F) (jw (dw aw none)) (fun _ _=>?_)
  refine WP.block ?_
  refine WP.kj (E':=(fun b:Nat×OV=>[(8,eq b.2.1),(35,eq v5.1),(36,vI (S.length:Int)),(37,vI (b.1:Int))]) (0,jS)) (cW Q (cW Q (cW Q (cW Q jU)))) (WP.loop (β:=Nat×OV) (fun k b=>b.1+k=S.length) (fun b=>[(8,eq b.2.1),(35,eq v5.1),(36,vI (S.length:Int)),(37,vI (b.1:Int))]) (fun b=>[own aw b.2.1 ((S.take b.1).map (·.bV)),own Pos.K v5.1 S,kU Value.string aY.O v0_0.1 a0.ao,aC b0_ 265 [vS a0.cQ,eq v0_0.1]]++F) ?_ (k:=S.length) (b:=(0,jS)) (Nat.zero_add _))
  rintro k ⟨j,v8⟩ hk
  replace hk:j+k=S.length:=hk
  refine so<|WP.seq<|WP.cond Q (fun c2=>WP.skip ?_) (fun c2=>WP.exit ?_)
  rotate_left
  · have c3:¬ ((j:Int)<(S.length:Int)):=of_decide_eq_false c2
    have e3:S.take j=S:=List.take_of_length_le om
    change ∀ R a w,R0.le R→nf _ R a _→St R ([own aw v8.1 ((S.take j).map (·.bV)),own Pos.K v5.1 S,kU Value.string aY.O v0_0.1 a0.ao,aC b0_ 265 [vS a0.cQ,eq v0_0.1]]++F) w→_
    rw [e3]
    exact Jn.mk v8 T (cW Q jU) (List.Perm.refl _)
  have c3:(j:Int)<(S.length:Int):=of_decide_eq_true c2
  have hj:j<S.length:=om
  refine WP.seq<|WP.block<|wr 4 12<|Dv.jQ Q T Q (aa 1 Q) Q GV wI Ak om c3<|Dv.pT (j:=j) (f:=0) Q T Q (aa 1 Q) hj wI Q Ak (Nat.le_of_ble_eq_true Q)<|al Q T uk nofun fun b=>sx 0 Q T Q Q cA Gc Q Q Q nofun<|.fin ?_
  have hbd:((S.take j).map (·.bV)).length+([(S.getD j default).bV]:List BA).length≤9223372036854775807∧(((S.take j).map (·.bV)).length+([(S.getD j default).bV]:List BA).length)*16≤140737488355328:=by rw [List.length_singleton,List.length_map,List.length_take]; omega
  refine rg 6 16<|gl 3 [0]<|Dv.lit aw ([(S.getD j default).bV]:List BA) (css:=[[vS ((S.getD j default).bV)]]) Q T dj U9 c9 z9 Q dc dc Q ⟨(cells_one (ah Q)),T⟩ Q Q Q<|ap aw 1 ([(S.getD j default).bV]:List BA) bF dj (.inr ⟨_,dj⟩) rM hbd nofun fun v9=>go 1 ?_
  refine WP.gh (l':=fun _:Unit=>[own aw v9.1 ((S.take j).map (·.bV)++([(S.getD j default).bV]:List BA)),own Pos.K v5.1 S,kU Value.string aY.O v0_0.1 a0.ao,aC b0_ 265 [vS a0.cQ,eq v0_0.1]]++F) (jw (wA 5 [0,1,2,3,4] 1 kr Q Q)) (fun _ _=>?_)
  have e4:(S.take j).map (·.bV)++([(S.getD j default).bV]:List BA)=(S.take (j+1)).map (·.bV):=by rw [List.take_add_one,List.map_append,gD,gE hj]; rfl
  rw [e4]
  refine rg 2 0<|ot Q Q Q (nG (a:=j) (b:=1) om)<|gq 1 ?_
  exact xJ.mk (k-1) (j+1,v9) om (by show j+1+(k-1)=S.length; omega) (cW Q (cW Q (cW Q (cW Q jU)))) (List.Perm.refl _)
theorem dag_Dag_All.c {v0_0:OV} {b0_:Nat} (h:dag_Dag_All.f k a0=some r):Tr prog 241 [dR b0_] [aC b0_ 265 [vS a0.cQ,eq v0_0.1],kU Value.string aY.O v0_0.1 a0.ao] (γ:=OV) (fun _=>True) (fun g=>eq g.1) (fun g=>[aC b0_ 265 [vS a0.cQ,eq v0_0.1],kU Value.string aY.O v0_0.1 a0.ao,own Event.K g.1 r]):=by
 refine tf func241 h fun R0 F H=>?_
 refine so<|so<|WP.jh H (fun qh:(Int×Int×Bool×(List Event)×(List BA))×OV×OV=>qh.1) (fun qh=>[(3,eq qh.2.1.1)]) (fun qh=>[aC b0_ 265 [vS a0.cQ,eq v0_0.1],kU Value.string aY.O v0_0.1 a0.ao,own Event.K qh.2.1.1 qh.1.2.2.2.1,own aw qh.2.2.1 qh.1.2.2.2.2]++F) (fun qh H=>?_) (fun H=>?_)
 ·
  obtain ⟨pa,va,vb⟩:=qh
  refine sp ?_
  cases H.out; exact et va 4 [3,0,1,2] 1
 refine wr 4 2<|go 1<|el H fun ta haa H=>cx 2 [0,1] (cL 270) (aG.c haa (b0_:=b0_) (v0_0:=v0_0)) nofun fun ga _=>?_
 refine Dv.kl Q T Q (aa 2 Q) dj<|go 1<|WP.block<|wg (dw Event.K none) fun _ _=>?_
 refine ws 4 [1,2,3,0] 0 ?_
 refine lq (fun j_ (pc:Int×(List Event)×OV)=>dag_Dag_All.l0 k a0 ta j_ pc.1 pc.2.1) (0,([]:List Event),jS) H [0,7,8] (fun pc=>[(3,eq pc.2.2.1),(9,vI pc.1)]) (fun pc=>[(3,own Event.K pc.2.2.1 pc.2.1)]) ?_
 rintro j_ ⟨xc,xd,vd⟩ H
 rcases j_ with _ | ja
 ·
  exact (aU.no H).elim
 try dsimp only at H
 rw [dag_Dag_All.l0] at H
 refine so<|WP.seq<|cf H ?_ ?_ <;> intro H
 ·
  refine WP.exit ?_
  have H:=H.out
  refine ns 4 [0,1,3,2] 0 ?_
  exact jn (((ta.length:Int),xc,decide (xc<(ta.length:Int)),xd,ta),vd,ga) H
 refine WP.skip<|WP.seq<|WP.block<|wr 3 0<|gr H fun gb H=>?_
 have hac:xc.toNat<ta.length:=bq gb
 refine Dv.jQ Q T Q (aa 2 Q) Q dj U9 c9 gb.1 gb.2<|Dv.na (j:=xc.toNat) (f:=0) (p:=vS (ta.getD xc.toNat default)) Q T Q (aa 2 Q) hac U9 Q Q<|go 1<|rg 14 4096<|gl 6 [0]<|vg (mE 1 Q) fun za had=>?_
 refine Dv.E8 jx Q T Q (aa 0 Q) Q xv (dU U9) Bw (fun _=>Q)<|gr H fun gi H=>vg (qU had Q gi (pm 5 [1,0,2,3,4])) fun _ _=>?_
 refine Dv.qw aY.nn Q T Q (aa 0 Q)<|vg (aY.jf 0 Q) fun gj hae=>?_
 refine fp hae Q T Q uA<|gl 1 [0]<|el H fun tc haf H=>cl Q (cL 146) Q (iJ.c haf)<|Dv.lit Event.K ([tc]:List Event) (css:=[Event.enc tc]) Q T qI kL mL EP Q dc dc Q ⟨(aS (Event.K.one _)),T⟩ Q Q Q<|gr H fun gk H=>ap Event.K 5 ([tc]:List Event) bF qI (.inr ⟨_,qI⟩) wB gk nofun fun ve=>?_
 refine go 1<|rg 2 0<|go 2<|ng (aY.shut (p:=((mget (cX a0.ao za) (ta.getD xc.toNat default)).getD jx)) (m:=(mget a0.ao (ta.getD xc.toNat default)).getD default) gj hae (pm 6 [0,1,2,3,4,5])) fun _ _=>?_
 refine ng (oX had Q gi (pm 6 [0,1,2,3,4,5])) fun _ _=>?_
 refine ng (iH had Q (pm 5 [1,0,2,3,4])) fun _ _=>?_
 refine ns 4 [1,0,2,3] 0 ?_
 exact bk ja (av (xc+1),xd++([tc]:List Event),ve) H
theorem member_joined.c {v0_0:OV} {b0_:Nat} (h:member_joined.f k a0=some r):Tr prog 180 [dR b0_] [aC b0_ 265 [vS a0.cQ,eq v0_0.1],kU Value.string aY.O v0_0.1 a0.ao] (γ:=OV) (fun _=>True) (fun g=>eq g.1) (fun g=>[aC b0_ 265 [vS a0.cQ,eq v0_0.1],kU Value.string aY.O v0_0.1 a0.ao,mp Value.string (fun x:Int=>vI x) g.1 r]):=by
 refine tf func180 h fun R0 F H=>?_
 refine so<|wr 2 1<|Dv.LP Value.string (fun x:Int=>vI x) Q T nofun (fun va=>?_)
 refine go 1<|WP.jh H (fun qh:(Int×Int×Bool×(List (BA×Int))×(List Event))×OV=>qh.1) (fun qh=>[(3,eq va.1)]) (fun qh=>[aC b0_ 265 [vS a0.cQ,eq v0_0.1],kU Value.string aY.O v0_0.1 a0.ao,mp Value.string (fun x:Int=>vI x) va.1 qh.1.2.2.2.1,own Event.K qh.2.1 qh.1.2.2.2.2]++F) (fun qh H=>?_) (fun H=>?_)
 ·
  obtain ⟨pa,vb⟩:=qh
  refine sp ?_
  cases H.out; exact et va 4 [3,0,1,2] 1
 refine wr 4 2<|go 1<|el H fun ta haa H=>cx 3 [1,2,0] (cL 241) (dag_Dag_All.c haa (b0_:=b0_) (v0_0:=v0_0)) nofun fun ga _=>?_
 refine Dv.kl Q T Q (aa 2 Q) qI<|go 1<|WP.block<|ws 4 [0,1,2,3] 0 ?_
 refine lq (fun j_ (pc:Int×(List (BA×Int)))=>member_joined.l0 k ta j_ pc.1 pc.2) (0,([]:List (BA×Int))) H [3,8,9] (fun pc=>[(10,vI pc.1)]) (fun pc=>[(3,mp Value.string (fun x:Int=>vI x) va.1 pc.2)]) ?_
 rintro j_ ⟨xc,xd⟩ H
 rcases j_ with _ | ja
 ·
  exact (aU.no H).elim
 try dsimp only at H
 rw [member_joined.l0] at H
 refine so<|WP.seq<|cf H ?_ ?_ <;> intro H
 ·
  refine WP.exit ?_
  have H:=H.out
  refine ns 4 [0,1,3,2] 0 ?_
  exact jn (((ta.length:Int),xc,decide (xc<(ta.length:Int)),xd,ta),ga) H
 refine WP.skip<|WP.seq<|WP.block<|wr 4 12<|gr H fun gb H=>?_
 have hac:xc.toNat<ta.length:=bq gb
 refine Dv.jQ Q T Q (aa 2 Q) Q qI kL mL gb.1 gb.2<|Dv.pT (j:=xc.toNat) (f:=0) Q T Q (aa 2 Q) hac kL Q mL (Nat.le_of_ble_eq_true Q)<|al Q T uP nofun fun ba=>sy 0 ?_
 refine .fin<|sN [0]<|WP.block<|so<|ce H ?_ ?_ <;> intro H
 ·
  refine rg 4 8<|gl 3 [0]<|Dv.mup (jj:=4) 1 Q T Q Q Q Q ug (dU U9) nofun<|.fin<|rg 2 0<|go 2<|ns 5 [0,1,2,3,4] 1 ?_
  exact bk ja (av (xc+1),mput xd ((ta.getD xc.toNat default).aj) 1) H
 refine so<|cf H ?_ ?_ <;> intro H
 ·
  refine WP.skip<|rg 2 0<|go 2<|ns 5 [0,1,2,3,4] 1 ?_
  exact bk ja (av (xc+1),xd) H
 refine rg 4 8<|gl 3 [0]<|Dv.mdl (jj:=4) Q T Q Q Q ug (dU U9) nofun<|.fin<|rg 2 0<|go 2<|ns 5 [0,1,2,3,4] 1 ?_
 exact bk ja (av (xc+1),l7 xd ((ta.getD xc.toNat default).aj)) H
theorem j4.c {v0_0:OV} {b0_:Nat} (h:j4.f k a0 a1=some r):Tr prog 121 [dR b0_,vS a1] [aC b0_ 265 [vS a0.cQ,eq v0_0.1],kU Value.string aY.O v0_0.1 a0.ao] (γ:=Unit) (fun _=>True) (fun g=>vB r) (fun g=>[aC b0_ 265 [vS a0.cQ,eq v0_0.1],kU Value.string aY.O v0_0.1 a0.ao]):=by
 refine tf func121 h fun R0 F H=>?_
 refine so<|wr 6 2<|go 1<|el H fun ta haa H=>cx 2 [0,1] (cL 180) (member_joined.c haa (b0_:=b0_) (v0_0:=v0_0)) nofun fun ga _=>?_
 refine go 1<|Dv.E8 0 Q T Q (aa 2 Q) Q ug (dU U9) z3 (fun _=>Q)<|gq 2 ?_
 cases H.out; exact et () 3 [2,0,1] 1
theorem bP.c {v0_0:OV} {b0_:Nat} (h:bP.f k a0 a1 a2=some r):Tr prog 57 [dR b0_,vS a1,vS a2] [aC b0_ 186 [eq v0_0.1],kU Value.string bp.O v0_0.1 a0.bC] (γ:=Unit) (fun _=>True) (fun g=>vB r) (fun g=>[aC b0_ 186 [eq v0_0.1],kU Value.string bp.O v0_0.1 a0.bC]):=by
 refine tf func57 h fun R0 F H=>?_
 refine so<|wr 6 4<|go 2<|el H fun ta haa H=>cx 2 [0,1] (cL 88) (aP.c haa (b0_:=b0_) (v0_0:=v0_0)) nofun fun va _=>?_
 refine go 1<|vg (bp.jf 2 Q) fun ga hac=>?_
 refine el H fun tc had H=>pN 4 [0,1,2,3] (cL 121) (Tr.kj (j4.c had (b0_:=ga.1) (v0_0:=ga.2)) (.cons (iV hac) (.cons bQ .nil))) ?_
 refine go 1<|wg (bp.shut (p:=va) (m:=ta) (ga.1,ga.2) hac (pm 4 [0,1,2,3])) fun _ _=>?_
 refine wg (fJ (aP.r haa) (pm 3 [2,0,1])) fun _ _=>?_
 cases H.out; exact et () 2 [1,0] 0
theorem iO.c {cb0_:Nat} {cq0_0 cq0_1 cq0_2 cq0_3 cq0_4:OV} {c0:Src} {c1:BA} (h:iO.f k a0 c0 c1=some r):Tr prog 73 [vS a0,dR cb0_,rp [vS c1]] [aC cb0_ 30 [eq cq0_0.1,eq cq0_1.1,eq cq0_2.1,eq cq0_3.1,eq cq0_4.1],aJ.O cq0_0 c0.cI,jA.O cq0_1 c0.ay,bS.O cq0_2 c0.aO,b7.O cq0_3 c0.aR,b8.O cq0_4 c0.fZ] (γ:=Unit) (fun _=>True) (fun g=>vB r) (fun g=>[aC cb0_ 30 [eq cq0_0.1,eq cq0_1.1,eq cq0_2.1,eq cq0_3.1,eq cq0_4.1],aJ.O cq0_0 c0.cI,jA.O cq0_1 c0.ay,bS.O cq0_2 c0.aO,b7.O cq0_3 c0.aR,b8.O cq0_4 c0.fZ]):=by
 refine tf func73 h fun R0 F H=>?_
 refine so<|wr 7 0<|gl 2 [0]<|kI Q T Q oc Q<|go 1<|vg (aJ.jf 1 Q) fun ga haa=>?_
 refine el H fun ta hac H=>pN 7 [0,1,2,3,4,5,6] (cL 57) (Tr.kj (bP.c hac (b0_:=ga.1) (v0_0:=ga.2)) (.cons (iV haa) (.cons bQ (.cons bQ .nil)))) ?_
 refine go 2<|wg (aJ.shut (p:=cq0_0) (m:=c0.cI) (ga.1,ga.2) haa (pm 7 [0,1,2,3,4,5,6])) fun _ _=>?_
 cases H.out; exact et () 6 [1,0,2,3,4,5] 0
theorem lx.c {p0_0 p0_1 p0_2 p0_3 p0_4:OV} (h:lx.f k a0 a1 a2=some r):Tr prog 20 [agg [eq p0_0.1,eq p0_1.1,eq p0_2.1,eq p0_3.1,eq p0_4.1],vS a1,vI a2] [aJ.O p0_0 a0.cI,jA.O p0_1 a0.ay,bS.O p0_2 a0.aO,b7.O p0_3 a0.aR,b8.O p0_4 a0.fZ] (γ:=Unit) (fun _=>True) (fun g=>sl aw r) (fun g=>[aJ.O p0_0 a0.cI,jA.O p0_1 a0.ay,bS.O p0_2 a0.aO,b7.O p0_3 a0.aR,b8.O p0_4 a0.fZ]):=by
 refine tf func20 h fun R0 F H=>?_
 refine wr 3 3<|Dv.box Q T Q cA nofun fun ba=>Dv.box Q T Q cE nofun fun bc=>go 1<|wr 8 80<|gl 4 [1,0]<|vg (bS.jf 4 Q) fun ga haa=>?_
 refine el H fun ta hac H=>cx 9 [0,1,2,3,4,5,6,7,8] (cL 72) (Tr.kj (aT.c hac (b0_:=ga.1) (v0_0:=ga.2.1) (v0_1:=ga.2.2)) (.cons (iV haa) (.cons bQ (.cons bQ .nil)))) nofun fun gb _=>?_
 refine vg (bS.shut (p:=p0_2) (m:=a0.aO) (ga.1,ga.2.1,ga.2.2) haa (pm 10 [0,1,3,2,4,5,6,7,8,9])) fun _ _=>?_
 refine Dv.gh (sE (E':=[(0,agg [eq p0_0.1,eq p0_1.1,eq p0_2.1,eq p0_3.1,eq p0_4.1]),(1,vS a1),(2,vI a2),(3,dR ba),(4,rp [vS a1]),(6,dH),(11,eq gb.1)]) (l':=[bS.O p0_2 a0.aO,own aw gb.1 ta,aC ba 30 [eq p0_0.1,eq p0_1.1,eq p0_2.1,eq p0_3.1,eq p0_4.1],aJ.O p0_0 a0.cI,jA.O p0_1 a0.ay,b7.O p0_3 a0.aR,b8.O p0_4 a0.fZ]++F) 2 Q (ar Q az (ar Q az (ar Q az (ar Q az (ar Q kR (ar Q az (ar Q az jM))))))) (fW (.cons bU (.cons bU (.cons bU (.cons bU (.cons bU (.cons bU (.cons bU .nil))))))) fun _=>bU)) (fun _ _=>?_)
 refine Dv.mkx (Q:=jX (fun a0_=>iO.f k a0_ a0 a1)) (L:=[aC ba 30 [eq p0_0.1,eq p0_1.1,eq p0_2.1,eq p0_3.1,eq p0_4.1],aJ.O p0_0 a0.cI,jA.O p0_1 a0.ay,bS.O p0_2 a0.aO,b7.O p0_3 a0.aR,b8.O p0_4 a0.fZ]) (cL 73) (by rintro _ _ ⟨a0_,r_,h_,rfl,rfl⟩; exact iO.c h_ (cb0_:=ba) (cq0_0:=p0_0) (cq0_1:=p0_1) (cq0_2:=p0_2) (cq0_3:=p0_3) (cq0_4:=p0_4)) Q T Q Q<|el H fun tc had H=>cx 7 [1,2,3,4,0,5,6] (cL 71) (Tr.Ki (A:=[own aw gb.1 ta]) (L:=[aC ba 30 [eq p0_0.1,eq p0_1.1,eq p0_2.1,eq p0_3.1,eq p0_4.1],aJ.O p0_0 a0.cI,jA.O p0_1 a0.ay,bS.O p0_2 a0.aO,b7.O p0_3 a0.aR,b8.O p0_4 a0.fZ]) (B:=fun gi:OV=>[own aw gi.1 tc]) (slices_DeleteFunc_string_xo.c had (p0_:=gb) (X1_:=(pk [aC ba 30 [eq p0_0.1,eq p0_1.1,eq p0_2.1,eq p0_3.1,eq p0_4.1],aJ.O p0_0 a0.cI,jA.O p0_1 a0.ay,bS.O p0_2 a0.aO,b7.O p0_3 a0.aR,b8.O p0_4 a0.fZ])))) nofun fun gi _=>?_
 refine go 1<|fz 6 [6] [] ?_
 cases H.out; exact et () 6 [0,1,2,3,4,5] 1
theorem ji.c {b0_:Nat} (h:ji.f a0=some r):Tr prog 118 [dR b0_] [aC b0_ 257 [vI a0.fn.fv,vI a0.eb]] (γ:=Unit) (fun _=>True) (fun g=>vI r) (fun g=>[aC b0_ 257 [vI a0.fn.fv,vI a0.eb]]):=by
 refine tf func118 h fun R0 F H=>?_
 refine so<|wr 5 0<|go 3<|pN 1 [0] (cL 178) (oi.c (b:=b0_) (off:=0) (bT:=257) (qs:=[vI a0.fn.fv,vI a0.eb]) (n:=a0.fn.fv) Q) ?_
 refine gq 1 ?_
 cases H.out; exact et () 1 [0] 0
theorem iM.c {p0_:OV} (h:iM.f a0=some r):Tr prog 53 [eq p0_.1] [b8.O p0_ a0] (γ:=Unit) (fun _=>True) (fun g=>vI r) (fun g=>[b8.O p0_ a0]):=by
 refine tf func53 h fun R0 F H=>?_
 refine so<|wr 6 0<|go 1<|Dv.qw b8.nn Q T Q (aa 0 Q)<|vg (b8.jf 0 Q) fun ga haa=>?_
 refine fp haa Q T Q CH<|gl 1 [0]<|vg (lv.jf 1 Q) fun gb hac=>?_
 refine el H fun ta had H=>pN 4 [0,1,2,3] (cL 118) (Tr.kj (ji.c had (b0_:=gb)) (.cons (iV hac) .nil)) ?_
 refine go 1<|wg (lv.shut (p:=ga.2.1) (m:=a0.iU) gb hac (pm 4 [0,1,2,3])) fun _ _=>?_
 refine wg (b8.shut (p:=p0_) (m:=a0) (ga.1,ga.2.1,ga.2.2.1,ga.2.2.2) haa (pm 4 [1,0,2,3])) fun _ _=>?_
 cases H.out; exact et () 1 [0] 0
theorem cG.c {p0_:OV} (h:cG.f k a0 a1=some r):Tr prog 54 [eq p0_.1,vI a1] [b8.O p0_ a0] (γ:=OV) (fun _=>True) (fun g=>eq g.1) (fun g=>[b8.O p0_ a0,own aw g.1 r]):=by
 refine tf func54 h fun R0 F H=>?_
 refine so<|wr 6 0<|go 1<|Dv.qw b8.nn Q T Q (aa 0 Q)<|vg (b8.jf 0 Q) fun ga haa=>?_
 refine fp haa Q T Q nk<|gl 1 [0]<|Dv.kl Q T Q (aa 2 Q) dj<|go 1<|WP.jh H id (fun pa=>[(0,eq p0_.1),(5,vI pa.1)]) (fun pa=>[b8.O p0_ a0]++F) (fun pa H=>?_) (fun H=>?_)
 ·
  refine wr 9 128<|go 1<|Dv.qw b8.nn Q T Q (aa 0 Q)<|vg (b8.jf 0 Q) fun gb hac=>?_
  refine fp hac Q T Q nk<|gl 1 [0]<|Dv.kl Q T Q (aa 2 Q) dj<|go 2<|gr H fun gi H=>?_
  obtain ⟨ti1955,ti1955a,ti1955b,ti1955c,ti1955d⟩:=rM
  refine Dv.EI (Kd:=aw) (eE:BA) Q T Q Q dj ti1955a ti1955b ti1955c ti1955d Q dc Q gi nofun (fun va=>?_)
  refine go 1<|wr 8 128<|go 2<|Dv.bY hac Q T Q<|fp hac Q T Q nk<|gl 2 [1]<|gr H fun gj H=>Dv.slt (Kd:=aw) Q T Q (aa 3 Q) dj U9 c9 (eY Q gj.1) gj.2<|Dv.cpt (Kd:=aw) (jj:=0) Q T Q Q (aa 3 Q) Q dj U9 c9 gj.2 nofun<|.fin<|so<|wg (b8.shut (p:=p0_) (m:=a0) (gb.1,gb.2.1,gb.2.2.1,gb.2.2.2) hac (pm 5 [1,2,3,4,0])) fun _ _=>?_
  cases H.out; exact et va 2 [0,1] 0
 refine WP.block<|wg (b8.shut (p:=p0_) (m:=a0) (ga.1,ga.2.1,ga.2.2.1,ga.2.2.2) haa (pm 4 [0,1,2,3])) fun _ _=>?_
 refine ws 1 [0] 0 ?_
 refine lq (fun j_ (pc:Int)=>cG.l0 k a0 a1 j_ pc) (a0.eS.length:Int) H [0,1] (fun pc=>[(5,vI pc)]) (fun _=>[]) ?_
 rintro j_ xc H
 rcases j_ with _ | ja
 ·
  exact (aU.no H).elim
 try dsimp only at H
 rw [cG.l0] at H
 refine WP.seq<|WP.seq<|wg (b8.jf 0 Q) fun gk had=>?_
 refine dg mX 19 0<|gp 3 ?_
 cases cc:decide (0<xc)
 ·
  have H:=H.cf cc
  refine go 16<|WP.cond Q nofun (fun _=>?_)
  refine WP.exit ?_
  have H:=H.out
  refine ng (b8.shut (p:=p0_) (m:=a0) (gk.1,gk.2.1,gk.2.2.1,gk.2.2.2) had (pm 4 [0,1,2,3])) fun _ _=>?_
  exact jn (xc,false) H
 have H:=H.ct cc
 refine go 1<|Dv.bY had Q (gg Q) Q<|fp had Q (gg Q) Q zI<|gl 2 [0]<|Dv.bY had Q (gg Q) Q<|fp had Q (gg Q) Q nk<|gl 3 [0]<|gr H fun gm H=>?_
 have hae:(av (xc-1)).toNat<a0.eS.length:=bq gm
 refine Dv.jQ Q (gg Q) Q (aa 2 Q) Q dj U9 c9 gm.1 gm.2<|Dv.na (j:=((av (xc-1)).toNat)) (f:=0) (p:=vS (a0.eS.getD ((av (xc-1)).toNat) default)) Q (gg Q) Q (aa 2 Q) hae U9 Q Q<|Dv.E8 0 Q (gg Q) Q (aa 3 Q) Q ug (dU U9) z3 (fun _=>Q)<|go 3<|ce H ?_ ?_ <;> intro H
 ·
  refine WP.skip<|WP.block<|rg 3 0<|go 3<|ng (b8.shut (p:=p0_) (m:=a0) (gk.1,gk.2.1,gk.2.2.1,gk.2.2.2) had (pm 4 [0,1,2,3])) fun _ _=>?_
  exact bk ja (av (xc-1)) H
 refine WP.exit ?_
 have H:=H.out
 refine ng (b8.shut (p:=p0_) (m:=a0) (gk.1,gk.2.1,gk.2.2.1,gk.2.2.2) had (pm 4 [0,1,2,3])) fun _ _=>?_
 exact jn (xc,decide (a1<((mget a0.ox (a0.eS.getD ((av (xc-1)).toNat) default)).getD 0))) H
theorem gW.c (h:gW.f a0 a1=some r):Pt prog 240 [vS a0,vS a1] (vI r):=by
 refine pf func240 h fun R0 F H=>?_
 refine so<|wr 4 0<|go 2<|el H fun ta haa H=>cl Q (cL 269) Q (eF.c haa)<|gq 1 ?_
 cases H.out; exact ek 0
theorem strings_Count.c (h:strings_Count.f k a0 a1=some r):Pt prog 239 [vS a0,vS a1] (vI r):=by
 refine pf func239 h fun R0 F H=>?_
 refine so<|WP.seq<|wr 3 0<|go 1<|Dv.lens Q T Q U9<|go 1<|ce H ?_ ?_ <;> intro H
 ·
  exact (aU.no H).elim
 refine WP.skip<|WP.seq<|wr 3 0<|go 1<|Dv.lens Q T Q U9<|go 1<|ce H ?_ ?_ <;> intro H
 ·
  refine wr 5 0<|go 2<|gr H fun ga H=>Dv.qV Q T Q Q U9 ga.1 ga.2<|Dv.KS Q T Q (Gy func268 kr Q xf268 xg268)<|gq 1 ?_
  cases H.out; exact ek 0
 refine WP.skip<|so<|WP.block<|ws 0 [] 0 ?_
 refine lq (fun j_ (pa:BA×Int)=>strings_Count.l0 k a1 j_ pa.1 pa.2) (a0,0) H [1] (fun pa=>[(0,vS pa.1),(5,vI pa.2)]) (fun _=>[]) ?_
 rintro j_ ⟨xc,xd⟩ H
 rcases j_ with _ | ja
 ·
  exact (aU.no H).elim
 try dsimp only at H
 rw [strings_Count.l0] at H
 refine WP.block<|wr 4 0<|go 2<|el H fun ta haa H=>cl Q (cL 240) Q (gW.c haa)<|go 1<|WP.seq<|so<|ce H ?_ ?_ <;> intro H
 ·
  refine sp ?_
  cases H.out; exact ek 0
 exact WP.skip<|so<|rg 7 0<|go 3<|Dv.lens Q T Q U9<|go 1<|gr H fun gb H=>Dv.I8 Q T Q U9 (eY Q gb.1) dK gb.2.1 gb.2.2<|go 1<|bk ja (xc.extract (av (ta+(a1.size:Int))).toNat xc.size,av (xd+1)) H
theorem strings_genSplit.c (h:strings_genSplit.f k a0 a1 a2 a3=some r):Tr prog 179 [vS a0,vS a1,vI a2,vI a3] [] (γ:=OV) (fun _=>True) (fun g=>eq g.1) (fun g=>[own aw g.1 r]):=by
 refine tf func179 h fun R0 F H=>?_
 refine so<|WP.seq<|so<|ce H ?_ ?_ <;> intro H
 ·
  refine so<|wg (dw aw none) fun _ _=>?_
  cases H.out; exact et jS 1 [0] 0
 refine WP.skip<|WP.seq<|so<|ce H ?_ ?_ <;> intro H
 ·
  exact (aU.no H).elim
 refine WP.skip<|sq H id [0,1,2] (fun pa=>[(3,vI pa)]) (fun _=>[]) (fun pa H=>?_) (fun H=>?_)
 rotate_left
 ·
  refine so<|cf H ?_ ?_ <;> intro H
  ·
   refine WP.skip ?_
   have H:=H.out
   exact jn a3 H
  refine rg 5 0<|go 2<|el H fun ta haa H=>cl Q (cL 239) Q (strings_Count.c haa)<|gq 2 ?_
  have H:=H.out
  exact jn (av (ta+1)) H
 refine wr 6 0<|go 2<|Dv.lens Q T Q U9<|go 1<|Dv.Lm Q T Q Q<|go 1<|wr 3 2<|go 1<|gr H fun ga H=>?_
 obtain ⟨ti1985,ti1985a,ti1985b,ti1985c,ti1985d⟩:=rM
 refine Dv.EI (Kd:=aw) (eE:BA) Q T Q Q dj ti1985a ti1985b ti1985c ti1985d Q dc Q ga nofun (fun va=>?_)
 refine go 1<|so<|so<|sq H id [9] (fun pc=>[(0,vS pc.1),(10,vI pc.2.1)]) (fun pc=>[(0,own aw va.1 pc.2.2.2)]) (fun pc H=>?_) (fun H=>?_)
 ·
  refine wr 5 16<|go 3<|gr H fun gb H=>?_
  have hac:pc.2.1.toNat<pc.2.2.2.length:=bq gb
  refine Dv.jQ Q T Q (aa 0 Q) Q dj U9 c9 gb.1 gb.2<|Dv.Jg (j:=pc.2.1.toNat) (f:=0) (jj:=0) pc.1 Q T Q Q (cells_one (ah Q)) U9 c9 Q Q hac (Nat.le_of_ble_eq_true Q) Q nofun<|.fin<|wr 5 8<|go 3<|gr H fun gi H=>Dv.slo (jj:=0) Q T Q Q dj U9 c9 dK (eY Q gi.1) (.inl Q) gi.2.1 gi.2.2 nofun (fun vb=>?_)
  refine gq 1 ?_
  cases H.out; exact et vb 1 [0] 0
 refine WP.block<|ws 1 [0] 0 ?_
 refine lq (fun j_ (pe:BA×Int×(List BA))=>strings_genSplit.l0 k a0 a1 a2 pa j_ pe.1 pe.2.1 pe.2.2) (a0,0,List.replicate (min pa (av ((a0.size:Int)+1))).toNat (eE:BA)) H [1,2,3,9] (fun pe=>[(0,vS pe.1),(10,vI pe.2.1)]) (fun pe=>[(0,own aw va.1 pe.2.2)]) ?_
 rintro j_ ⟨xc,xd,xe⟩ H
 rcases j_ with _ | ja
 ·
  exact (aU.no H).elim
 try dsimp only at H
 rw [strings_genSplit.l0] at H
 refine WP.seq<|so<|cf H ?_ ?_ <;> intro H
 ·
  refine WP.exit ?_
  have H:=H.out
  exact jn (xc,xd,decide (xd<(av ((min pa (av ((a0.size:Int)+1)))-1))),xe) H
 refine WP.skip<|WP.block<|wr 4 0<|go 2<|el H fun tc had H=>cl Q (cL 240) Q (gW.c had)<|go 1<|WP.seq<|so<|ce H ?_ ?_ <;> intro H
 ·
  refine WP.exit ?_
  have H:=H.out
  exact jn (xc,xd,decide (xd<(av ((min pa (av ((a0.size:Int)+1)))-1))),xe) H
 refine WP.skip<|wr 9 256<|go 6<|gr H fun gj H=>Dv.I8 Q T Q U9 dK (eY Q gj.1) gj.2.1 gj.2.2<|gr H fun gk H=>?_
 have hae:xd.toNat<xe.length:=bq gk
 exact Dv.jQ Q T Q (aa 0 Q) Q dj U9 c9 gk.1 gk.2<|Dv.Jg (j:=xd.toNat) (f:=0) (jj:=0) (xc.extract 0 ((av (tc+a2)).toNat)) Q T Q Q (cells_one (ah Q)) U9 c9 Q Q hae (Nat.le_of_ble_eq_true Q) Q nofun<|.fin<|wr 7 0<|go 3<|Dv.lens Q T Q U9<|go 1<|gr H fun gm H=>Dv.I8 Q T Q U9 (eY Q gm.1) dK gm.2.1 gm.2.2<|go 1<|rg 3 0<|go 3<|bk ja (xc.extract (av (tc+(a1.size:Int))).toNat xc.size,av (xd+1),xe.set xd.toNat (xc.extract 0 ((av (tc+a2)).toNat))) H
theorem ll.c (h:ll.f k a0 a1=some r):Tr prog 119 [vS a0,vS a1] [] (γ:=OV) (fun _=>True) (fun g=>eq g.1) (fun g=>[own aw g.1 r]):=by
 refine tf func119 h fun R0 F H=>?_
 refine so<|wr 4 4<|go 2<|el H fun ta haa H=>cx 0 [] (cL 179) (strings_genSplit.c haa) nofun fun ga _=>?_
 refine gq 1 ?_
 cases H.out; exact et ga 1 [0] 0
theorem ni.c (h:ni.f k a0=some r):Pt prog 55 [vS a0] (jV.p r):=by
 refine pf func55 h fun R0 F H=>?_
 refine so<|wr 3 2<|go 1<|el H fun ta haa H=>cx 0 [] (cL 119) (ll.c haa) nofun fun ga _=>?_
 refine go 1<|WP.seq<|WP.block<|wr 22 0<|go 1<|Dv.kl Q T Q (aa 0 Q) dj<|gp 2 ?_
 rcases bm H with ⟨cc,H⟩ | ⟨cc,H⟩
 ·
  refine sh 9 cc ?_
  refine sh 10 cc ?_
  refine go 18<|WP.cond Q nofun (fun _=>?_)
  refine wr 10 0<|go 1<|Dv.kl Q T Q (aa 0 Q) dj<|gp 2 ?_
  rcases bm H with ⟨cg,H⟩ | ⟨cg,H⟩
  ·
   refine sh 46 cg ?_
   refine sh 47 cg ?_
   refine go 6<|WP.cond Q nofun (fun _=>?_)
   refine wr 10 0<|go 1<|Dv.kl Q T Q (aa 0 Q) dj<|gp 2 ?_
   rcases bm H with ⟨ci,H⟩ | ⟨ci,H⟩
   ·
    refine sh 60 ci ?_
    refine sh 61 ci ?_
    refine go 6<|WP.cond Q nofun (fun _=>?_)
    refine WP.skip<|sp ?_
    cases H.out; exact ek 1
   refine sh 60 ci ?_
   refine sh 61 ci ?_
   refine go 1<|gr H fun gb H=>?_
   have hac:(0:Int).toNat<ta.length:=bq gb
   refine Dv.jQ Q (gg Q) Q (aa 0 Q) Q dj U9 c9 gb.1 gb.2<|Dv.na (j:=((0:Int).toNat)) (f:=0) (p:=vS (ta.getD ((0:Int).toNat) default)) Q (gg Q) Q (aa 0 Q) hac U9 Q Q<|go 3<|cf H ?_ ?_ <;> intro H
   ·
    refine WP.skip<|sp ?_
    cases H.out; exact ek 1
   refine wr 5 0<|go 1<|gr H fun gi H=>?_
   have had:(1:Int).toNat<ta.length:=bq gi
   refine Dv.jQ Q T Q (aa 0 Q) Q dj U9 c9 gi.1 gi.2<|Dv.na (j:=((1:Int).toNat)) (f:=0) (p:=vS (ta.getD ((1:Int).toNat) default)) Q T Q (aa 0 Q) had U9 Q Q<|Dv.Gr Q T Q sS<|gq 1 ?_
   cases H.out; exact ek 1
  refine sh 46 cg ?_
  refine sh 47 cg ?_
  refine go 1<|gr H fun gj H=>?_
  have hae:(0:Int).toNat<ta.length:=bq gj
  refine Dv.jQ Q (gg Q) Q (aa 0 Q) Q dj U9 c9 gj.1 gj.2<|Dv.na (j:=((0:Int).toNat)) (f:=0) (p:=vS (ta.getD ((0:Int).toNat) default)) Q (gg Q) Q (aa 0 Q) hae U9 Q Q<|go 3<|ce H ?_ ?_ <;> intro H
  ·
   refine wr 5 0<|go 1<|gr H fun gk H=>?_
   have haf:(1:Int).toNat<ta.length:=bq gk
   refine Dv.jQ Q T Q (aa 0 Q) Q dj U9 c9 gk.1 gk.2<|Dv.na (j:=((1:Int).toNat)) (f:=0) (p:=vS (ta.getD ((1:Int).toNat) default)) Q T Q (aa 0 Q) haf U9 Q Q<|Dv.Gr Q T Q By<|gq 1 ?_
   cases H.out; exact ek 1
  refine wr 10 0<|go 1<|Dv.kl Q T Q (aa 0 Q) dj<|gp 2 ?_
  rcases bm H with ⟨cj,H⟩ | ⟨cj,H⟩
  ·
   refine sh 60 cj ?_
   refine sh 61 cj ?_
   refine go 6<|WP.cond Q nofun (fun _=>?_)
   refine WP.skip<|sp ?_
   cases H.out; exact ek 1
  refine sh 60 cj ?_
  refine sh 61 cj ?_
  refine go 1<|gr H fun gm H=>?_
  have hag:(0:Int).toNat<ta.length:=bq gm
  refine Dv.jQ Q (gg Q) Q (aa 0 Q) Q dj U9 c9 gm.1 gm.2<|Dv.na (j:=((0:Int).toNat)) (f:=0) (p:=vS (ta.getD ((0:Int).toNat) default)) Q (gg Q) Q (aa 0 Q) hag U9 Q Q<|go 3<|cf H ?_ ?_ <;> intro H
  ·
   refine WP.skip<|sp ?_
   cases H.out; exact ek 1
  refine wr 5 0<|go 1<|gr H fun gn H=>?_
  have hah:(1:Int).toNat<ta.length:=bq gn
  refine Dv.jQ Q T Q (aa 0 Q) Q dj U9 c9 gn.1 gn.2<|Dv.na (j:=((1:Int).toNat)) (f:=0) (p:=vS (ta.getD ((1:Int).toNat) default)) Q T Q (aa 0 Q) hah U9 Q Q<|Dv.Gr Q T Q sS<|gq 1 ?_
  cases H.out; exact ek 1
 refine sh 9 cc ?_
 refine sh 10 cc ?_
 refine go 1<|gr H fun gu H=>?_
 have hai:(0:Int).toNat<ta.length:=bq gu
 refine Dv.jQ Q (gg Q) Q (aa 0 Q) Q dj U9 c9 gu.1 gu.2<|Dv.na (j:=((0:Int).toNat)) (f:=0) (p:=vS (ta.getD ((0:Int).toNat) default)) Q (gg Q) Q (aa 0 Q) hai U9 Q Q<|gp 3 ?_
 rcases bm H with ⟨ck,H⟩ | ⟨ck,H⟩
 ·
  refine sh 14 ck ?_
  refine sh 15 ck ?_
  refine sh 16 ck ?_
  refine go 12<|WP.cond Q nofun (fun _=>?_)
  refine wr 10 0<|go 1<|Dv.kl Q T Q (aa 0 Q) dj<|gp 2 ?_
  rcases bm H with ⟨cn,H⟩ | ⟨cn,H⟩
  ·
   refine sh 46 cn ?_
   refine sh 47 cn ?_
   refine go 6<|WP.cond Q nofun (fun _=>?_)
   refine wr 10 0<|go 1<|Dv.kl Q T Q (aa 0 Q) dj<|gp 2 ?_
   rcases bm H with ⟨co,H⟩ | ⟨co,H⟩
   ·
    refine sh 60 co ?_
    refine sh 61 co ?_
    refine go 6<|WP.cond Q nofun (fun _=>?_)
    refine WP.skip<|sp ?_
    cases H.out; exact ek 1
   refine sh 60 co ?_
   refine sh 61 co ?_
   refine go 1<|gr H fun gv H=>?_
   have haj:(0:Int).toNat<ta.length:=bq gv
   refine Dv.jQ Q (gg Q) Q (aa 0 Q) Q dj U9 c9 gv.1 gv.2<|Dv.na (j:=((0:Int).toNat)) (f:=0) (p:=vS (ta.getD ((0:Int).toNat) default)) Q (gg Q) Q (aa 0 Q) haj U9 Q Q<|go 3<|cf H ?_ ?_ <;> intro H
   ·
    refine WP.skip<|sp ?_
    cases H.out; exact ek 1
   refine wr 5 0<|go 1<|gr H fun gw H=>?_
   have hak:(1:Int).toNat<ta.length:=bq gw
   refine Dv.jQ Q T Q (aa 0 Q) Q dj U9 c9 gw.1 gw.2<|Dv.na (j:=((1:Int).toNat)) (f:=0) (p:=vS (ta.getD ((1:Int).toNat) default)) Q T Q (aa 0 Q) hak U9 Q Q<|Dv.Gr Q T Q sS<|gq 1 ?_
   cases H.out; exact ek 1
  refine sh 46 cn ?_
  refine sh 47 cn ?_
  refine go 1<|gr H fun gy H=>?_
  have ham:(0:Int).toNat<ta.length:=bq gy
  refine Dv.jQ Q (gg Q) Q (aa 0 Q) Q dj U9 c9 gy.1 gy.2<|Dv.na (j:=((0:Int).toNat)) (f:=0) (p:=vS (ta.getD ((0:Int).toNat) default)) Q (gg Q) Q (aa 0 Q) ham U9 Q Q<|go 3<|ce H ?_ ?_ <;> intro H
  ·
   refine wr 5 0<|go 1<|gr H fun gz H=>?_
   have han:(1:Int).toNat<ta.length:=bq gz
   refine Dv.jQ Q T Q (aa 0 Q) Q dj U9 c9 gz.1 gz.2<|Dv.na (j:=((1:Int).toNat)) (f:=0) (p:=vS (ta.getD ((1:Int).toNat) default)) Q T Q (aa 0 Q) han U9 Q Q<|Dv.Gr Q T Q By<|gq 1 ?_
   cases H.out; exact ek 1
  refine wr 10 0<|go 1<|Dv.kl Q T Q (aa 0 Q) dj<|gp 2 ?_
  rcases bm H with ⟨cp,H⟩ | ⟨cp,H⟩
  ·
   refine sh 60 cp ?_
   refine sh 61 cp ?_
   refine go 6<|WP.cond Q nofun (fun _=>?_)
   refine WP.skip<|sp ?_
   cases H.out; exact ek 1
  refine sh 60 cp ?_
  refine sh 61 cp ?_
  refine go 1<|gr H fun gaa H=>?_
  have hao:(0:Int).toNat<ta.length:=bq gaa
  refine Dv.jQ Q (gg Q) Q (aa 0 Q) Q dj U9 c9 gaa.1 gaa.2<|Dv.na (j:=((0:Int).toNat)) (f:=0) (p:=vS (ta.getD ((0:Int).toNat) default)) Q (gg Q) Q (aa 0 Q) hao U9 Q Q<|go 3<|cf H ?_ ?_ <;> intro H
  ·
   refine WP.skip<|sp ?_
   cases H.out; exact ek 1
  refine wr 5 0<|go 1<|gr H fun gab H=>?_
  have hap:(1:Int).toNat<ta.length:=bq gab
  refine Dv.jQ Q T Q (aa 0 Q) Q dj U9 c9 gab.1 gab.2<|Dv.na (j:=((1:Int).toNat)) (f:=0) (p:=vS (ta.getD ((1:Int).toNat) default)) Q T Q (aa 0 Q) hap U9 Q Q<|Dv.Gr Q T Q sS<|gq 1 ?_
  cases H.out; exact ek 1
 refine sh 14 ck ?_
 refine sh 15 ck ?_
 refine sh 16 ck ?_
 refine go 1<|gr H fun gac H=>?_
 have haq:(4:Int).toNat<ta.length:=bq gac
 refine Dv.jQ Q (gg Q) Q (aa 0 Q) Q dj U9 c9 gac.1 gac.2<|Dv.na (j:=((4:Int).toNat)) (f:=0) (p:=vS (ta.getD ((4:Int).toNat) default)) Q (gg Q) Q (aa 0 Q) haq U9 Q Q<|gp 2 ?_
 rcases bm H with ⟨cq,H⟩ | ⟨cq,H⟩
 rotate_left
 ·
  refine sh 20 cq ?_
  refine sh 21 cq ?_
  refine go 7<|WP.cond Q (fun _=>?_) nofun
  refine wd mX 16 0<|go 1<|gr H fun gad H=>?_
  have har:(1:Int).toNat<ta.length:=bq gad
  refine Dv.jQ Q T Q (aa 0 Q) Q dj U9 c9 gad.1 gad.2<|Dv.na (j:=((1:Int).toNat)) (f:=0) (p:=vS (ta.getD ((1:Int).toNat) default)) Q T Q (aa 0 Q) har U9 Q Q<|go 1<|gr H fun gae H=>?_
  have hau:(2:Int).toNat<ta.length:=bq gae
  refine Dv.jQ Q T Q (aa 0 Q) Q dj U9 c9 gae.1 gae.2<|Dv.na (j:=((2:Int).toNat)) (f:=0) (p:=vS (ta.getD ((2:Int).toNat) default)) Q T Q (aa 0 Q) hau U9 Q Q<|go 1<|gr H fun gaf H=>?_
  have hav:(3:Int).toNat<ta.length:=bq gaf
  refine Dv.jQ Q T Q (aa 0 Q) Q dj U9 c9 gaf.1 gaf.2<|Dv.na (j:=((3:Int).toNat)) (f:=0) (p:=vS (ta.getD ((3:Int).toNat) default)) Q T Q (aa 0 Q) hav U9 Q Q<|go 1<|gr H fun gag H=>?_
  have haw:(4:Int).toNat<ta.length:=bq gag
  refine Dv.jQ Q T Q (aa 0 Q) Q dj U9 c9 gag.1 gag.2<|Dv.na (j:=((4:Int).toNat)) (f:=0) (p:=vS (ta.getD ((4:Int).toNat) default)) Q T Q (aa 0 Q) haw U9 Q Q<|go 1<|Dv.kJ (qs:=[vS (ta.getD ((1:Int).toNat) default),vS (ta.getD ((2:Int).toNat) default),vS (ta.getD ((3:Int).toNat) default),vB (decide ((ta.getD ((4:Int).toNat) default)=(⟨#[49]⟩:BA)))]) (css:=[[vS (ta.getD ((1:Int).toNat) default)],[vS (ta.getD ((2:Int).toNat) default)],[vS (ta.getD ((3:Int).toNat) default)],[vB (decide ((ta.getD ((4:Int).toNat) default)=(⟨#[49]⟩:BA)))]]) Q T JF Ix z89 Q ⟨(cells_one (ah Q)),⟨(cells_one (ah Q)),⟨(cells_one (ah Q)),⟨(cells_one (ah Q)),T⟩⟩⟩⟩ Q Q<|Dv.Gr Q T Q Ka<|gq 1 ?_
  cases H.out; exact ek 1
 refine sh 20 cq ?_
 refine sh 21 cq ?_
 refine go 1<|gr H fun gah H=>?_
 have hax:(4:Int).toNat<ta.length:=bq gah
 refine Dv.jQ Q (gg Q) Q (aa 0 Q) Q dj U9 c9 gah.1 gah.2<|Dv.na (j:=((4:Int).toNat)) (f:=0) (p:=vS (ta.getD ((4:Int).toNat) default)) Q (gg Q) Q (aa 0 Q) hax U9 Q Q<|go 4<|ce H ?_ ?_ <;> intro H
 ·
  refine wd mX 16 0<|go 1<|gr H fun gai H=>?_
  have hay:(1:Int).toNat<ta.length:=bq gai
  refine Dv.jQ Q T Q (aa 0 Q) Q dj U9 c9 gai.1 gai.2<|Dv.na (j:=((1:Int).toNat)) (f:=0) (p:=vS (ta.getD ((1:Int).toNat) default)) Q T Q (aa 0 Q) hay U9 Q Q<|go 1<|gr H fun gaj H=>?_
  have haz:(2:Int).toNat<ta.length:=bq gaj
  refine Dv.jQ Q T Q (aa 0 Q) Q dj U9 c9 gaj.1 gaj.2<|Dv.na (j:=((2:Int).toNat)) (f:=0) (p:=vS (ta.getD ((2:Int).toNat) default)) Q T Q (aa 0 Q) haz U9 Q Q<|go 1<|gr H fun gak H=>?_
  have hbe:(3:Int).toNat<ta.length:=bq gak
  refine Dv.jQ Q T Q (aa 0 Q) Q dj U9 c9 gak.1 gak.2<|Dv.na (j:=((3:Int).toNat)) (f:=0) (p:=vS (ta.getD ((3:Int).toNat) default)) Q T Q (aa 0 Q) hbe U9 Q Q<|go 1<|gr H fun gal H=>?_
  have hbf:(4:Int).toNat<ta.length:=bq gal
  refine Dv.jQ Q T Q (aa 0 Q) Q dj U9 c9 gal.1 gal.2<|Dv.na (j:=((4:Int).toNat)) (f:=0) (p:=vS (ta.getD ((4:Int).toNat) default)) Q T Q (aa 0 Q) hbf U9 Q Q<|go 1<|Dv.kJ (qs:=[vS (ta.getD ((1:Int).toNat) default),vS (ta.getD ((2:Int).toNat) default),vS (ta.getD ((3:Int).toNat) default),vB (decide ((ta.getD ((4:Int).toNat) default)=(⟨#[49]⟩:BA)))]) (css:=[[vS (ta.getD ((1:Int).toNat) default)],[vS (ta.getD ((2:Int).toNat) default)],[vS (ta.getD ((3:Int).toNat) default)],[vB (decide ((ta.getD ((4:Int).toNat) default)=(⟨#[49]⟩:BA)))]]) Q T JF Ix z89 Q ⟨(cells_one (ah Q)),⟨(cells_one (ah Q)),⟨(cells_one (ah Q)),⟨(cells_one (ah Q)),T⟩⟩⟩⟩ Q Q<|Dv.Gr Q T Q Ka<|gq 1 ?_
  cases H.out; exact ek 1
 refine wr 10 0<|go 1<|Dv.kl Q T Q (aa 0 Q) dj<|gp 2 ?_
 rcases bm H with ⟨cr,H⟩ | ⟨cr,H⟩
 ·
  refine sh 46 cr ?_
  refine sh 47 cr ?_
  refine go 6<|WP.cond Q nofun (fun _=>?_)
  refine wr 10 0<|go 1<|Dv.kl Q T Q (aa 0 Q) dj<|gp 2 ?_
  rcases bm H with ⟨cu,H⟩ | ⟨cu,H⟩
  ·
   refine sh 60 cu ?_
   refine sh 61 cu ?_
   refine go 6<|WP.cond Q nofun (fun _=>?_)
   refine WP.skip<|sp ?_
   cases H.out; exact ek 1
  refine sh 60 cu ?_
  refine sh 61 cu ?_
  refine go 1<|gr H fun gam H=>?_
  have hbg:(0:Int).toNat<ta.length:=bq gam
  refine Dv.jQ Q (gg Q) Q (aa 0 Q) Q dj U9 c9 gam.1 gam.2<|Dv.na (j:=((0:Int).toNat)) (f:=0) (p:=vS (ta.getD ((0:Int).toNat) default)) Q (gg Q) Q (aa 0 Q) hbg U9 Q Q<|go 3<|cf H ?_ ?_ <;> intro H
  ·
   refine WP.skip<|sp ?_
   cases H.out; exact ek 1
  refine wr 5 0<|go 1<|gr H fun gan H=>?_
  have hbh:(1:Int).toNat<ta.length:=bq gan
  refine Dv.jQ Q T Q (aa 0 Q) Q dj U9 c9 gan.1 gan.2<|Dv.na (j:=((1:Int).toNat)) (f:=0) (p:=vS (ta.getD ((1:Int).toNat) default)) Q T Q (aa 0 Q) hbh U9 Q Q<|Dv.Gr Q T Q sS<|gq 1 ?_
  cases H.out; exact ek 1
 refine sh 46 cr ?_
 refine sh 47 cr ?_
 refine go 1<|gr H fun gao H=>?_
 have hbi:(0:Int).toNat<ta.length:=bq gao
 refine Dv.jQ Q (gg Q) Q (aa 0 Q) Q dj U9 c9 gao.1 gao.2<|Dv.na (j:=((0:Int).toNat)) (f:=0) (p:=vS (ta.getD ((0:Int).toNat) default)) Q (gg Q) Q (aa 0 Q) hbi U9 Q Q<|go 3<|ce H ?_ ?_ <;> intro H
 ·
  refine wr 5 0<|go 1<|gr H fun gap H=>?_
  have hbj:(1:Int).toNat<ta.length:=bq gap
  refine Dv.jQ Q T Q (aa 0 Q) Q dj U9 c9 gap.1 gap.2<|Dv.na (j:=((1:Int).toNat)) (f:=0) (p:=vS (ta.getD ((1:Int).toNat) default)) Q T Q (aa 0 Q) hbj U9 Q Q<|Dv.Gr Q T Q By<|gq 1 ?_
  cases H.out; exact ek 1
 refine wr 10 0<|go 1<|Dv.kl Q T Q (aa 0 Q) dj<|gp 2 ?_
 rcases bm H with ⟨cw,H⟩ | ⟨cw,H⟩
 ·
  refine sh 60 cw ?_
  refine sh 61 cw ?_
  refine go 6<|WP.cond Q nofun (fun _=>?_)
  refine WP.skip<|sp ?_
  cases H.out; exact ek 1
 refine sh 60 cw ?_
 refine sh 61 cw ?_
 refine go 1<|gr H fun gaq H=>?_
 have hbl:(0:Int).toNat<ta.length:=bq gaq
 refine Dv.jQ Q (gg Q) Q (aa 0 Q) Q dj U9 c9 gaq.1 gaq.2<|Dv.na (j:=((0:Int).toNat)) (f:=0) (p:=vS (ta.getD ((0:Int).toNat) default)) Q (gg Q) Q (aa 0 Q) hbl U9 Q Q<|go 3<|cf H ?_ ?_ <;> intro H
 ·
  refine WP.skip<|sp ?_
  cases H.out; exact ek 1
 refine wr 5 0<|go 1<|gr H fun gar H=>?_
 have hbm:(1:Int).toNat<ta.length:=bq gar
 refine Dv.jQ Q T Q (aa 0 Q) Q dj U9 c9 gar.1 gar.2<|Dv.na (j:=((1:Int).toNat)) (f:=0) (p:=vS (ta.getD ((1:Int).toNat) default)) Q T Q (aa 0 Q) hbm U9 Q Q<|Dv.Gr Q T Q sS<|gq 1 ?_
 cases H.out; exact ek 1
theorem gA.c {p0_:OV} (h:gA.f a0 a1=some r):Tr prog 120 [eq p0_.1,agg (bB.enc a1)] [j6.O p0_ a0] (γ:=Unit) (fun _=>True) (fun g=>kZ [agg (Pos.enc r.1),vB r.2]) (fun g=>[j6.O p0_ a0]):=by
 refine tf func120 h fun R0 F H=>?_
 refine wr 3 3<|Dv.box Q T Q cA nofun fun ba=>al Q T uk nofun fun bc=>go 1<|WP.seq<|wg (j6.jf 2 Q) fun ga haa=>?_
 refine dg mX 12 1536<|go 1<|Dv.bY haa Q T Q<|fp haa Q T Q uG<|gl 2 [0,3]<|Dv.mlkq (⟨0,eE⟩:Pos) Q T Q (aa 1 Q) Q (bB.kq a1) GH C9 Jj (fun _=>⟨_,Q,Cs.eqz Q⟩)<|go 1<|dV Q T Q Q<|dV Q T Q Q<|al Q T uk pD fun bd=>sx 0 Q T Q Q cA Gc Q Q Q pD ?_
 refine go 1<|wr 4 4<|gl 2 [0]<|sy 3 ?_
 refine go 1<|wg (j6.shut (p:=p0_) (m:=a0) (ga.1,ga.2) haa (pm 5 [1,2,0,3,4])) fun _ _=>?_
 cases H.out; exact rt i2 Q () 4 [1,2,3,0] 3 (.cons (au Q wI Q Ak (aa 2 Q) Q) (.cons (aB Q) .nil))
theorem hM.c {p0_0 p0_1 p0_2 p0_3 p0_4:OV} (h:hM.f k a0 a1 a2=some r):Tr prog 56 [agg [eq p0_0.1,eq p0_1.1,eq p0_2.1,eq p0_3.1,eq p0_4.1],agg (bB.enc a1),vS a2] [aJ.O p0_0 a0.cI,jA.O p0_1 a0.ay,bS.O p0_2 a0.aO,b7.O p0_3 a0.aR,b8.O p0_4 a0.fZ] (γ:=Unit) (fun _=>True) (fun g=>kZ [agg (jg.enc r.1),vB r.2]) (fun g=>[aJ.O p0_0 a0.cI,jA.O p0_1 a0.ay,bS.O p0_2 a0.aO,b7.O p0_3 a0.aR,b8.O p0_4 a0.fZ]):=by
 refine tf func56 h fun R0 F H=>?_
 refine wr 4 7<|Dv.box Q T Q cA nofun fun ba=>Dv.box Q T Q cA nofun fun bc=>al Q T zc91 nofun fun bd=>go 1<|WP.seq<|wg (jA.jf 4 Q) fun ga haa=>?_
 refine WP.dgf (kf:=10) mX [(0,false),(1,false),(2,false),(3,false),(4,false),(5,false),(6,true),(7,false),(8,false),(9,false)] [(11,true),(12,false)] Q kr<|gl 2 [5]<|Dv.bY haa Q T Q<|fp haa Q T Q DH<|gl 2 [0,4]<|Dv.float ?_ (fun hk_=>?_)
 ·
  refine Ds Q T uk pU (fun be=>?_)
  refine el H fun ta hac H=>cx 11 [2,0,1,3,4,5,6,7,8,9,10] (cL 120) (gA.c hac (p0_:=ga.2.1)) pC fun _ _=>?_
  refine go 1<|dV Q T Q Q<|dV Q T Q Q<|sx 1 Q T Q Q cA Gc Q Q Q pD ?_
  refine go 1<|WP.seq<|wg (aJ.jf 7 Q) fun gb had=>?_
  refine dg mX 25 8388608<|gl 2 [7,3]<|Dv.kJ (qs:=[vS a1.ab,vS a1.aj,vS a1.ae,vB a1.aq,vI ta.1.bx,vS ta.1.bV]) (css:=[bB.enc a1,Pos.enc ta.1]) Q T Bq pl91 z91 Q ⟨(aS (bB.K.one _)),⟨(aS (Pos.K.one _)),T⟩⟩ Q Q<|gp 2 ?_
  cases cc:ta.2
  ·
   have H:=H.cf cc
   refine go 18<|sx 6 Q T Q Q cA Av Q Q Q pD ?_
   refine go 1<|wg (jA.shut (p:=p0_1) (m:=a0.ay) (ga.1,ga.2.1,ga.2.2) haa (pm 12 [4,2,5,0,1,3,6,7,8,9,10,11])) fun _ _=>?_
   refine wg (aJ.shut (p:=p0_0) (m:=a0.cI) (gb.1,gb.2) had (pm 10 [1,2,0,3,4,5,6,7,8,9])) fun _ _=>?_
   cases H.out; exact rt i2 Q () 9 [2,3,4,5,0,1,6,7,8] 4 (.cons (au Q Bq Q EY (aa 3 Q) Q) (.cons (aB Q) .nil))
  have H:=H.ct cc
  refine gl 5 [8,7]<|el H fun tc hae H=>pN 12 [0,1,2,3,4,5,6,7,8,9,10,11] (cL 57) (Tr.kj (bP.c hae (b0_:=gb.1) (v0_0:=gb.2)) (.cons (iV had) (.cons bQ (.cons bQ .nil)))) ?_
  refine gp 2 ?_
  cases cg:tc
  ·
   have H:=H.cf cg
   refine go 10<|sx 6 Q T Q Q cA Av Q Q Q pD ?_
   refine go 1<|wg (jA.shut (p:=p0_1) (m:=a0.ay) (ga.1,ga.2.1,ga.2.2) haa (pm 12 [4,2,5,0,1,3,6,7,8,9,10,11])) fun _ _=>?_
   refine wg (aJ.shut (p:=p0_0) (m:=a0.cI) (gb.1,gb.2) had (pm 10 [1,2,0,3,4,5,6,7,8,9])) fun _ _=>?_
   cases H.out; exact rt i2 Q () 9 [2,3,4,5,0,1,6,7,8] 4 (.cons (au Q Bq Q EY (aa 3 Q) Q) (.cons (aB Q) .nil))
  have H:=H.ct cg
  refine kX 4 [7] ?_
  cases ci:!a1.aq
  rotate_left
  ·
   have H:=H.ct ci
   refine go 6<|sx 6 Q T Q Q cA Av Q Q Q pD ?_
   refine go 1<|wg (jA.shut (p:=p0_1) (m:=a0.ay) (ga.1,ga.2.1,ga.2.2) haa (pm 12 [4,2,5,0,1,3,6,7,8,9,10,11])) fun _ _=>?_
   refine wg (aJ.shut (p:=p0_0) (m:=a0.cI) (gb.1,gb.2) had (pm 10 [1,2,0,3,4,5,6,7,8,9])) fun _ _=>?_
   cases H.out; exact rt i2 Q () 9 [2,3,4,5,0,1,6,7,8] 4 (.cons (au Q Bq Q EY (aa 3 Q) Q) (.cons (aB Q) .nil))
  have H:=H.cf ci
  refine gl 6 [7]<|sx 6 Q T Q Q cA Av Q Q Q pD ?_
  refine go 1<|wg (jA.shut (p:=p0_1) (m:=a0.ay) (ga.1,ga.2.1,ga.2.2) haa (pm 12 [4,2,5,0,1,3,6,7,8,9,10,11])) fun _ _=>?_
  refine wg (aJ.shut (p:=p0_0) (m:=a0.cI) (gb.1,gb.2) had (pm 10 [1,2,0,3,4,5,6,7,8,9])) fun _ _=>?_
  cases H.out; exact rt i2 Q () 9 [2,3,4,5,0,1,6,7,8] 4 (.cons (au Q Bq Q EY (aa 3 Q) Q) (.cons (aB Q) .nil))
 refine el H fun te haf H=>cx 10 [1,0,2,3,4,5,6,7,8,9] (cL 120) (gA.c haf (p0_:=ga.2.1)) pC fun _ _=>?_
 refine go 1<|dV Q T Q Q<|dV Q T Q Q<|.fin<|Ds Q T uk pU (fun bg=>?_)
 refine sx 0 Q T Q Q cA Gc Q Q Q pD ?_
 refine go 1<|WP.seq<|wg (aJ.jf 7 Q) fun gb had=>?_
 refine dg mX 25 8388608<|gl 2 [7,2]<|Dv.kJ (qs:=[vS a1.ab,vS a1.aj,vS a1.ae,vB a1.aq,vI te.1.bx,vS te.1.bV]) (css:=[bB.enc a1,Pos.enc te.1]) Q T Bq pl91 z91 Q ⟨(aS (bB.K.one _)),⟨(aS (Pos.K.one _)),T⟩⟩ Q Q<|gp 2 ?_
 cases cc:te.2
 ·
  have H:=H.cf cc
  refine go 18<|sx 6 Q T Q Q cA Av Q Q Q pD ?_
  refine go 1<|wg (jA.shut (p:=p0_1) (m:=a0.ay) (ga.1,ga.2.1,ga.2.2) haa (pm 12 [4,3,5,0,1,2,6,7,8,9,10,11])) fun _ _=>?_
  refine wg (aJ.shut (p:=p0_0) (m:=a0.cI) (gb.1,gb.2) had (pm 10 [1,2,0,3,4,5,6,7,8,9])) fun _ _=>?_
  cases H.out; exact rt i2 Q () 9 [2,3,4,5,0,1,6,7,8] 4 (.cons (au Q Bq Q EY (aa 3 Q) Q) (.cons (aB Q) .nil))
 have H:=H.ct cc
 refine gl 5 [8,7]<|el H fun tc hae H=>pN 12 [0,1,2,3,4,5,6,7,8,9,10,11] (cL 57) (Tr.kj (bP.c hae (b0_:=gb.1) (v0_0:=gb.2)) (.cons (iV had) (.cons bQ (.cons bQ .nil)))) ?_
 refine gp 2 ?_
 cases cg:tc
 ·
  have H:=H.cf cg
  refine go 10<|sx 6 Q T Q Q cA Av Q Q Q pD ?_
  refine go 1<|wg (jA.shut (p:=p0_1) (m:=a0.ay) (ga.1,ga.2.1,ga.2.2) haa (pm 12 [4,3,5,0,1,2,6,7,8,9,10,11])) fun _ _=>?_
  refine wg (aJ.shut (p:=p0_0) (m:=a0.cI) (gb.1,gb.2) had (pm 10 [1,2,0,3,4,5,6,7,8,9])) fun _ _=>?_
  cases H.out; exact rt i2 Q () 9 [2,3,4,5,0,1,6,7,8] 4 (.cons (au Q Bq Q EY (aa 3 Q) Q) (.cons (aB Q) .nil))
 have H:=H.ct cg
 refine kX 4 [7] ?_
 cases ci:!a1.aq
 rotate_left
 ·
  have H:=H.ct ci
  refine go 6<|sx 6 Q T Q Q cA Av Q Q Q pD ?_
  refine go 1<|wg (jA.shut (p:=p0_1) (m:=a0.ay) (ga.1,ga.2.1,ga.2.2) haa (pm 12 [4,3,5,0,1,2,6,7,8,9,10,11])) fun _ _=>?_
  refine wg (aJ.shut (p:=p0_0) (m:=a0.cI) (gb.1,gb.2) had (pm 10 [1,2,0,3,4,5,6,7,8,9])) fun _ _=>?_
  cases H.out; exact rt i2 Q () 9 [2,3,4,5,0,1,6,7,8] 4 (.cons (au Q Bq Q EY (aa 3 Q) Q) (.cons (aB Q) .nil))
 have H:=H.cf ci
 refine gl 6 [7]<|sx 6 Q T Q Q cA Av Q Q Q pD ?_
 refine go 1<|wg (jA.shut (p:=p0_1) (m:=a0.ay) (ga.1,ga.2.1,ga.2.2) haa (pm 12 [4,3,5,0,1,2,6,7,8,9,10,11])) fun _ _=>?_
 refine wg (aJ.shut (p:=p0_0) (m:=a0.cI) (gb.1,gb.2) had (pm 10 [1,2,0,3,4,5,6,7,8,9])) fun _ _=>?_
 cases H.out; exact rt i2 Q () 9 [2,3,4,5,0,1,6,7,8] 4 (.cons (au Q Bq Q EY (aa 3 Q) Q) (.cons (aB Q) .nil))
theorem slices_Sort_string.c {p0_:OV} (h:slices_Sort_string.f a0=some r):Tr prog 242 [eq p0_.1] [own aw p0_.1 a0] (γ:=Unit) (fun _=>True) (fun g=>kZ []) (fun g=>[own aw p0_.1 r]):=by
 unfold slices_Sort_string.f at h
 obtain ⟨h0,h5⟩:=(aU.of h).an
 obtain rfl:=aU.out h5
 exact HN (fun aC off cap ss w=>Go.Proofs.Any.slices_Sort_string Tryz.lays190 aC off cap ss w) (fun q cap w=>Go.Proofs.Any.slices_Sort_string_none Tryz.lays190 q cap w) h0
theorem gJ.c {b0_:Nat} {v0_0:OV} (h:gJ.f a0=some r):Tr prog 181 [dR b0_] [aC b0_ 186 [eq v0_0.1],kU Value.string bp.O v0_0.1 a0.bC] (γ:=OV) (fun _=>True) (fun g=>eq g.1) (fun g=>[aC b0_ 186 [eq v0_0.1],kU Value.string bp.O v0_0.1 a0.bC,own aw g.1 r]):=by
  unfold gJ.f at h
  obtain ⟨h0,h5⟩:=(aU.of h).an
  obtain rfl:=aU.out h5
  clear h h5
  refine Tr.body func181 (c:=_) Q ntmps181 (Nat.le_of_ble_eq_true Q) fun R0 F=>?_
  refine so<|sp ?_
  refine WP.GQ (β:=List Nat×OV) (fun b=>b.1.Perm (List.range a0.bC.length)) (fun b=>[(3,eq b.2.1)]) (fun b=>[own aw b.2.1 (lr a0.bC (fun e=>some e.1) b.1),aC b0_ 186 [eq v0_0.1],kU Value.string bp.O v0_0.1 a0.bC]++F) (fun b hb=>?_) ?_
  rotate_left
  · refine wr 5 16<|kX 4 [0] ?_
    refine Dv.gh (l':=fun ps:List OV=>[mp Value.string (fun p:OV=>eq p.1) v0_0.1 (cX a0.bC ps),rv bp.O a0.bC ps,aC b0_ 186 [eq v0_0.1]]++F) (jw (mE 1 Q)) (fun ps hps=>?_)
    refine Dv.rgb (jj:=0) Q T Q Q Eg nofun (fun q=>.fin ?_)
    refine WP.gh (l':=fun _:Unit=>[uj Value.string (fun p:OV=>eq p.1) v0_0.1 q.1 (cX a0.bC ps) [],rv bp.O a0.bC ps,aC b0_ 186 [eq v0_0.1]]++F) (jw (ok:=fun _=>True) fun R w k=>⟨(),T,k⟩) (fun _ _=>?_)
    refine WP.gh (l':=fun _:Unit=>[own aw jS.1 [],uj Value.string (fun p:OV=>eq p.1) v0_0.1 q.1 (cX a0.bC ps) [],rv bp.O a0.bC ps,aC b0_ 186 [eq v0_0.1]]++F) (jw (dw aw none)) (fun _ _=>?_)
    refine WP.block ?_
    refine WP.kj (E':=(fun b:List Nat×OV=>[(3,eq b.2.1),(9,eq q.1)]) ([],jS)) (cW Q (cW Q jU)) (WP.loop (β:=List Nat×OV) (fun k b=>b.1.length+k=a0.bC.length) (fun b=>[(3,eq b.2.1),(9,eq q.1)]) (fun b=>[own aw b.2.1 (lr a0.bC (fun e=>some e.1) b.1),uj Value.string (fun p:OV=>eq p.1) v0_0.1 q.1 (cX a0.bC ps) b.1,rv bp.O a0.bC ps,aC b0_ 186 [eq v0_0.1]]++F) ?_ (k:=a0.bC.length) (b:=([],jS)) (Nat.zero_add _))
    rintro k ⟨is,v⟩ hk
    replace hk:is.length+k=a0.bC.length:=hk
    refine wr 2 1<|Dv.rgn (jj:=1) Q T Q Q nofun (fun z hz=>?_)
    rcases z with _ | j
    · have hz:is.Perm (List.range (cX a0.bC ps).length):=hz
      rw [qA hps.1] at hz
      refine dV Q T Q Q<|.fin<|WP.seq<|WP.cond Q nofun (fun _=>WP.exit ?_)
      refine Dn.gh (l':=fun _:Unit=>[own aw v.1 (lr a0.bC (fun e=>some e.1) is),uj Value.string (fun p:OV=>eq p.1) v0_0.1 q.1 (cX a0.bC ps) is,rv bp.O a0.bC ps,aC b0_ 186 [eq v0_0.1]]++F) (jw (ok:=fun _=>True) fun R w k=>⟨(),T,k⟩) (fun _ _=>?_)
      refine Dn.gh (l':=fun _:Unit=>[mp Value.string (fun p:OV=>eq p.1) v0_0.1 (cX a0.bC ps),own aw v.1 (lr a0.bC (fun e=>some e.1) is),rv bp.O a0.bC ps,aC b0_ 186 [eq v0_0.1]]++F) (jw (Hk (pm 4 [1,0,2,3]))) (fun _ _=>?_)
      refine Dn.gh (l':=fun _:Unit=>[kU Value.string bp.O v0_0.1 a0.bC,own aw v.1 (lr a0.bC (fun e=>some e.1) is),aC b0_ 186 [eq v0_0.1]]++F) (jw (iH hps Q (pm 4 [0,2,1,3]))) (fun _ _=>?_)
      exact Jn.mk (is,v) hz (cW Q jU) (oI 3 [1,2,0] kr Q Q)
    have hz:j<(cX a0.bC ps).length∧j ∉ is∧is.length<(cX a0.bC ps).length:=hz
    obtain ⟨e,p,he,hp,hep⟩:=Ap hps hz.1
    have hlt:is.length<a0.bC.length:=by rw [← qA hps.1]; exact hz.2.2
    have hsl:=Nat.le_trans (Bb (m:=a0.bC) (f:=(fun e=>some e.1)) (is:=is)) (Nat.le_of_lt hlt)
    have e1:nxV Value.string (fun p:OV=>eq p.1) (cX a0.bC ps) (some j)=kZ [vB true,vS e.1,eq p.1]:=by simp only [nxV,hep]
    rw [e1]
    refine dV Q T Q Q<|.fin<|WP.seq<|WP.cond Q (fun _=>WP.skip ?_) nofun
    refine WP.gh (l':=fun _:Unit=>[own aw v.1 (lr a0.bC (fun e=>some e.1) is),uj Value.string (fun p:OV=>eq p.1) v0_0.1 q.1 (cX a0.bC ps) (is++[j]),rv bp.O a0.bC ps,aC b0_ 186 [eq v0_0.1]]++F) (jw (ok:=fun _=>True) fun R w k=>⟨(),T,k⟩) (fun _ _=>?_)
    refine WP.block<|wr 3 0<|Dv.rge 1 Q T Q Q hep ?_
    refine dV Q T Q Q<|gq 1 ?_
    have e6:=xZ (f:=(fun e=>some e.1)) (is:=is) he rfl
    have hbd:(lr a0.bC (fun e=>some e.1) is).length+([e.1]:List BA).length≤9223372036854775807∧((lr a0.bC (fun e=>some e.1) is).length+([e.1]:List BA).length)*16≤140737488355328:=by rw [List.length_singleton]; omega
    refine rg 5 8<|go 2<|Dv.lit aw ([e.1]:List BA) (css:=[[vS e.1]]) Q T dj U9 c9 z9 Q dc dc Q ⟨(cells_one (ah Q)),T⟩ Q Q Q<|ap aw 0 ([e.1]:List BA) bF dj (.inr ⟨_,dj⟩) rM hbd nofun fun v9=>go 1 ?_
    rw [e6]
    exact xJ.mk (k-1) (is++[j],v9) om (by show (is++[j]).length+(k-1)=_; rw [List.length_append,List.length_singleton]; omega) (cW Q (cW Q jU)) (List.Perm.refl _)
  obtain ⟨is,v3⟩:=b
  replace hb:is.Perm (List.range a0.bC.length):=hb
  have hp:=xO (f:=(fun e=>some e.1)) hb
  have hs:slices_Sort_string.f (lr a0.bC (fun e=>some e.1) is)=some (pz (a0.bC.map (·.1))):=by
    have e7:a0.bC.filterMap (fun e=>some e.1)=a0.bC.map (·.1):=by rw [← List.filterMap_eq_map]; rfl
    rw [e7] at hp
    unfold slices_Sort_string.f Sp.an
    rw [if_pos (by rw [hp.length_eq,List.length_map]; omega),IB hp]
  refine wr 2 2<|go 1<|cx 3 [0,1,2] (cL 242) (slices_Sort_string.c hs (p0_:=v3)) nofun fun _ _=>.fin ?_
  refine so<|rt i2 Q v3 3 [1,2,0] 0 (.cons (aB Q) .nil)
theorem dO.c {cb0_ cd0_:Nat} {cq0_ cv0_0:OV} {ch0_:cq0_.1 = .pointer (some ⟨cd0_,0,none⟩)} {c0:aJ} {c1:BA} (h:dO.f k a0 c0 c1=some r):Tr prog 182 [vS a0,dR cb0_,rp [vS c1]] [aC cb0_ 24 [eq cq0_.1],aC cd0_ 186 [eq cv0_0.1],kU Value.string bp.O cv0_0.1 c0.bC] (γ:=Unit) (fun _=>True) (fun g=>vB r) (fun g=>[aC cb0_ 24 [eq cq0_.1],aC cd0_ 186 [eq cv0_0.1],kU Value.string bp.O cv0_0.1 c0.bC]):=by
 refine tf func182 h fun R0 F H=>?_
 refine so<|wr 6 0<|gl 2 [0]<|kI Q T Q oc Q<|el H fun ta haa H=>pN 3 [1,2,0] (cL 57) (Tr.kj (bP.c haa (b0_:=cd0_) (v0_0:=cv0_0)) (.cons (iV ch0_) (.cons bQ (.cons bQ .nil)))) ?_
 refine gq 2 ?_
 cases H.out; exact et () 3 [0,1,2] 0
theorem gH.c {p0_:OV} (h:gH.f k a0 a1=some r):Tr prog 123 [eq p0_.1,vS a1] [aJ.O p0_ a0] (γ:=OV) (fun _=>True) (fun g=>eq g.1) (fun g=>[aJ.O p0_ a0,own aw g.1 r]):=by
 refine tf func123 h fun R0 F H=>?_
 refine wr 3 3<|Dv.box Q T Q (cells_one bH) nofun fun ba=>Dv.box Q T Q cE nofun fun bc=>go 1<|wr 5 10<|gl 1 [1]<|vg (aJ.jf 2 Q) fun ga haa=>?_
 refine el H fun ta hac H=>cx 4 [0,1,2,3] (cL 181) (Tr.kj (gJ.c hac (b0_:=ga.1) (v0_0:=ga.2)) (.cons (iV haa) .nil)) nofun fun gb _=>?_
 refine Dv.gh (sE (E':=[(0,eq p0_.1),(1,vS a1),(2,dR ba),(3,rp [vS a1]),(4,dH),(6,eq gb.1)]) (l':=[aC ga.1 186 [eq ga.2.1],kU Value.string bp.O ga.2.1 a0.bC,own aw gb.1 ta,aC ba 24 [eq p0_.1]]++F) 3 Q (ar Q az (ar Q az (ar Q az (ar Q kR (ar Q az (ar Q az jM)))))) (fW (.cons bU (.cons bU (.cons bU (.cons bU .nil)))) fun _=>bU)) (fun _ _=>?_)
 refine Dv.mkx (Q:=jX (fun a0_=>dO.f k a0_ a0 a1)) (L:=[aC ba 24 [eq p0_.1],aC ga.1 186 [eq ga.2.1],kU Value.string bp.O ga.2.1 a0.bC]) (cL 182) (by rintro _ _ ⟨a0_,r_,h_,rfl,rfl⟩; exact dO.c h_ (cb0_:=ba) (cq0_:=p0_) (cd0_:=ga.1) (ch0_:=haa) (cv0_0:=ga.2)) Q T Q Q<|el H fun tc had H=>cx 4 [2,3,0,1] (cL 71) (Tr.Ki (A:=[own aw gb.1 ta]) (L:=[aC ba 24 [eq p0_.1],aC ga.1 186 [eq ga.2.1],kU Value.string bp.O ga.2.1 a0.bC]) (B:=fun gi:OV=>[own aw gi.1 tc]) (slices_DeleteFunc_string_xo.c had (p0_:=gb) (X1_:=(pk [aC ba 24 [eq p0_.1],aC ga.1 186 [eq ga.2.1],kU Value.string bp.O ga.2.1 a0.bC])))) nofun fun gi _=>?_
 refine go 1<|wg (aJ.shut (p:=p0_) (m:=a0) (ga.1,ga.2) haa (pm 4 [1,2,0,3])) fun _ _=>?_
 cases H.out; exact et gi 3 [1,0,2] 1
theorem dN.c {cb0_ cd0_:Nat} {cq0_ cv0_0:OV} {ch0_:cq0_.1 = .pointer (some ⟨cd0_,0,none⟩)} {c0:aJ} {c1:BA} (h:dN.f k a0 c0 c1=some r):Tr prog 124 [vS a0,dR cb0_,rp [vS c1]] [aC cb0_ 24 [eq cq0_.1],aC cd0_ 186 [eq cv0_0.1],kU Value.string bp.O cv0_0.1 c0.bC] (γ:=Unit) (fun _=>True) (fun g=>vB r) (fun g=>[aC cb0_ 24 [eq cq0_.1],aC cd0_ 186 [eq cv0_0.1],kU Value.string bp.O cv0_0.1 c0.bC]):=by
 refine tf func124 h fun R0 F H=>?_
 refine so<|wr 5 0<|gl 2 [0]<|kI Q T Q oc Q<|el H fun ta haa H=>pN 3 [1,2,0] (cL 57) (Tr.kj (bP.c haa (b0_:=cd0_) (v0_0:=cv0_0)) (.cons (iV ch0_) (.cons bQ (.cons bQ .nil)))) ?_
 refine gq 1 ?_
 cases H.out; exact et () 3 [0,1,2] 0
theorem fa.c {p0_:OV} (h:fa.f k a0 a1 a2=some r):Tr prog 58 [eq p0_.1,vS a1,vS a2] [aJ.O p0_ a0] (γ:=Unit) (fun _=>True) (fun g=>vB r) (fun g=>[aJ.O p0_ a0]):=by
 refine tf func58 h fun R0 F H=>?_
 refine wr 3 3<|Dv.box Q T Q (cells_one bH) nofun fun ba=>Dv.box Q T Q cE nofun fun bc=>go 1<|wr 6 4<|gl 2 [1]<|el H fun ta haa H=>cx 3 [2,0,1] (cL 123) (gH.c haa (p0_:=p0_)) nofun fun ga _=>?_
 refine vg (aJ.jf 0 Q) fun gb hac=>?_
 refine Dv.gh (sE (E':=[(0,eq p0_.1),(1,vS a1),(2,vS a2),(3,dR ba),(5,rp [vS a2]),(6,vB false),(9,eq ga.1)]) (l':=[aC gb.1 186 [eq gb.2.1],kU Value.string bp.O gb.2.1 a0.bC,own aw ga.1 ta,aC ba 24 [eq p0_.1]]++F) 3 Q (ar Q az (ar Q az (ar Q az (ar Q az (ar Q kR (ar Q az (ar Q az jM))))))) (fW (.cons bU (.cons bU (.cons bU (.cons bU .nil)))) fun _=>bU)) (fun _ _=>?_)
 refine Dv.mkx (Q:=jX (fun a0_=>dN.f k a0_ a0 a2)) (L:=[aC ba 24 [eq p0_.1],aC gb.1 186 [eq gb.2.1],kU Value.string bp.O gb.2.1 a0.bC]) (cL 124) (by rintro _ _ ⟨a0_,r_,h_,rfl,rfl⟩; exact dN.c h_ (cb0_:=ba) (cq0_:=p0_) (cd0_:=gb.1) (ch0_:=hac) (cv0_0:=gb.2)) Q T Q Q<|el H fun tc had H=>pN 4 [2,3,0,1] (cL 122) (Tr.Kk (A:=[own aw ga.1 ta]) (L:=[aC ba 24 [eq p0_.1],aC gb.1 186 [eq gb.2.1],kU Value.string bp.O gb.2.1 a0.bC]) (cN.c had (p0_:=ga) (X1_:=(pk [aC ba 24 [eq p0_.1],aC gb.1 186 [eq gb.2.1],kU Value.string bp.O gb.2.1 a0.bC])))) ?_
 refine go 1<|wg (aJ.shut (p:=p0_) (m:=a0) (gb.1,gb.2) hac (pm 4 [0,1,2,3])) fun _ _=>?_
 cases H.out; exact et () 3 [1,2,0] 2
theorem bX.c {v0_0 v0_1:OV} {b0_:Nat} (h:bX.f k a0 a1 a2=some r):Tr prog 59 [dR b0_,vS a1,vI a2] [aC b0_ 192 [eq v0_0.1,eq v0_1.1],own ak.K v0_0.1 a0.fl] (γ:=Unit) (fun _=>True) (fun g=>vI r) (fun g=>[aC b0_ 192 [eq v0_0.1,eq v0_1.1],own ak.K v0_0.1 a0.fl]):=by
 refine tf func59 h fun R0 F H=>?_
 refine so<|wr 8 0<|go 2<|el H fun ta haa H=>pN 2 [0,1] (cL 112) (dC.c haa (b0_:=b0_) (v0_0:=v0_0) (v0_1:=v0_1)) ?_
 refine go 1<|dV Q T Q Q<|dV Q T Q Q<|go 2<|WP.seq<|so<|ce H ?_ ?_ <;> intro H
 ·
  refine sp ?_
  cases H.out; exact et () 2 [0,1] 0
 refine WP.skip<|wr 10 0<|gl 5 [0]<|gr H fun ga H=>?_
 have hac:ta.1.toNat<a0.fl.length:=bq ga
 refine Dv.jQ Q T Q (aa 1 Q) Q eW gN iy ga.1 ga.2<|Dv.pT (j:=ta.1.toNat) (f:=0) Q T Q (aa 1 Q) hac gN Q iy (Nat.le_of_ble_eq_true Q)<|go 1<|el H fun tc had H=>cl Q (cL 125) Q (dX.c had)<|gq 1 ?_
 cases H.out; exact et () 2 [0,1] 0
theorem ig.c (h:ig.f a0=some r):Pt prog 130 [vB a0] (vI r):=by
 refine pf func130 h fun R0 F H=>?_
 refine so<|WP.seq<|so<|ce H ?_ ?_ <;> intro H
 ·
  refine sp ?_
  cases H.out; exact ek 0
 refine WP.skip<|sp ?_
 cases H.out; exact ek 0
theorem iC.c (h:iC.f k a0 a1=some r):Pt prog 62 [agg (bB.enc a0),agg (bB.enc a1)] (vI r):=by
 refine pf func62 h fun R0 F H=>?_
 refine wr 3 3<|Dv.box Q T Q cA nofun fun ba=>Dv.box Q T Q cA nofun fun bc=>go 1<|wd mX 25 0<|gl 4 [1,0]<|el H fun ta haa H=>cl Q (cL 65) Q (aD.c haa)<|gl 4 [1,0]<|el H fun tc hac H=>cl Q (cL 65) Q (aD.c hac)<|gl 4 [1,0]<|el H fun te had H=>cl Q (cL 65) Q (aD.c had)<|gl 2 [1]<|el H fun tg hae H=>cl Q (cL 130) Q (ig.c hae)<|gl 2 [0]<|el H fun tj haf H=>cl Q (cL 130) Q (ig.c haf)<|el H fun tm hag H=>cl Q (cL 129) Q (cD.c hag)<|Dv.lit (bz .i64) ([ta,tc,te,tm]:List Int) (css:=[[vI ta],[vI tc],[vI te],[vI tm]]) Q T rP U3 c3 z3 Q dc dc Q ⟨(cells_one (ah Q)),⟨(cells_one (ah Q)),⟨(cells_one (ah Q)),⟨(cells_one (ah Q)),T⟩⟩⟩⟩ Q Q Q<|el H fun tn hah H=>cl Q (cL 128) Q (bG.c hah)<|gq 1 ?_
 cases H.out; exact ek 2
theorem mK.c (h:mK.f k a0 a1=some r):Pt prog 61 [agg (jg.enc a0),agg (jg.enc a1)] (vI r):=by
 refine pf func61 h fun R0 F H=>?_
 refine wr 3 3<|Dv.box Q T Q cA nofun fun ba=>Dv.box Q T Q cA nofun fun bc=>go 1<|wr 6 0<|gl 4 [1,0]<|el H fun ta haa H=>cl Q (cL 62) Q (iC.c haa)<|gq 1 ?_
 cases H.out; exact ek 2
theorem qo (x y:BA):aD.f x y=some (j8 x y):=by
 unfold aD.f cmp_isNaN_string.f j8
 simp only [Option.bind_some,bne_self_eq_false,decide_true,Bool.not_true,cond_false]
 cases dJ x y <;> cases dJ y x <;> rfl
theorem BH:Bo mS:=(sj.wh (fun x:bB=>x.ab)).or ((sj.wh (fun x:bB=>x.aj)).or ((sj.wh (fun x:bB=>x.ae)).or (HJ.wh (fun x:bB=>if x.aq then 1 else 0))))
theorem Gb (x y:Int):cD.f x y=some (nm x y):=by
 unfold cD.f cmp_isNaN_int.f nm
 simp only [Option.bind_some,bne_self_eq_false,cond_false]
 by_cases h:x<y
 ·
  simp [h]
 by_cases k:y<x <;> simp [h,k]
theorem or4_f (a b c d:Int):bG.f 8 [a,b,c,d]=some (EW a (EW b (EW c d))):=by
 unfold EW
 have e1:IntKind.i64.wrap 1=1:=dc
 have e2:IntKind.i64.wrap 2=2:=dc
 have e3:IntKind.i64.wrap 3=3:=dc
 have e4:IntKind.i64.wrap 4=4:=dc
 by_cases h1:a=0 <;> by_cases h2:b=0 <;> by_cases h3:c=0 <;> by_cases h4:d=0 <;> simp [bG.f,bG.l0,Kd.at,bz,an,fall,h1,h2,h3,h4,av,e1,e2,e3,e4,bne_iff_ne,show ∀ x:Int,(x != 0)=decide (x≠0) from fun x=>by by_cases h:x=0 <;> simp [h]]
theorem KI (x y:bB):iC.f 8 x y=some (mS x y):=by
 unfold iC.f ig.f
 rw [qo,qo,qo]
 have e:∀ b:Bool,(cond b (some 1) (some 0):Option Int)=some (if b then 1 else 0):=fun b=>by cases b <;> rfl
 simp only [Option.bind_some,e,Gb,or4_f]
 rfl
theorem aW.FW (x y:jg):mK.f 8 x y=some (aW.cf x y):=by
 unfold mK.f
 rw [KI]
 rfl
theorem aW.AF:Bo aW.cf:=BH.wh (fun x:jg=>x.dx)
theorem aW.c {p0_:OV} (h:aW.f a0=some r):Tr prog 60 [eq p0_.1,eq (.func (.func 61) #[] #[])] [own jg.K p0_.1 a0] (γ:=Unit) (fun _=>True) (fun g=>kZ []) (fun g=>[own jg.K p0_.1 r]):=by
 unfold aW.f at h
 obtain ⟨⟨h0,hT⟩,h5⟩:=(aU.of h).an
 obtain rfl:=aU.out h5
 exact tM (K:=jg.K) (fun _=>(bN gY (bN gY (bN gY (bN gY (bN gY (bN gY lS))))))) dc aW.AF.swo hT (fun x y=>mK.c (aW.FW x y)) (fun ev hk h1 cf hO aC off cap d w hc hH hb hs=>AnyQ.slices_SortFunc Tryz.lays6f60 6 Tryz.isAgg91 Tryz.sizeOf91 ev hk h1 cf hO 61 #[] aC off cap d w (enters_of func61 kr Q) hc hH hb hs) (fun q cap w=>AnyF.slices_SortFunc_none Tryz.lays6f60 q cap _ w) om
theorem mP.c (h:mP.f a0 a1=some r):Pt prog 64 [agg (fQ.enc a0),agg (fQ.enc a1)] (vI r):=by
 refine pf func64 h fun R0 F H=>?_
 refine wr 3 3<|Dv.box Q T Q cA nofun fun ba=>Dv.box Q T Q cA nofun fun bc=>go 1<|wr 6 0<|gl 4 [1,0]<|el H fun ta haa H=>cl Q (cL 65) Q (aD.c haa)<|gq 1 ?_
 cases H.out; exact ek 2
theorem aM.FW (x y:fQ):mP.f x y=some (aM.cf x y):=by
 unfold mP.f
 rw [qo]
 rfl
theorem aM.AF:Bo aM.cf:=sj.wh (fun x:fQ=>x.ab)
theorem aM.c {p0_:OV} (h:aM.f a0=some r):Tr prog 63 [eq p0_.1,eq (.func (.func 64) #[] #[])] [own fQ.K p0_.1 a0] (γ:=Unit) (fun _=>True) (fun g=>kZ []) (fun g=>[own fQ.K p0_.1 r]):=by
 unfold aM.f at h
 obtain ⟨⟨h0,hT⟩,h5⟩:=(aU.of h).an
 obtain rfl:=aU.out h5
 exact tM (K:=fQ.K) (fun _=>(bN gY (bN (vP (fun _=>(bN gY lS))) lS))) dc aM.AF.swo hT (fun x y=>mP.c (aM.FW x y)) (fun ev hk h1 cf hO aC off cap d w hc hH hb hs=>AnyQ.slices_SortFunc Tryz.lays6f63 2 Tryz.isAgg94 Tryz.sizeOf94 ev hk h1 cf hO 64 #[] aC off cap d w (enters_of func64 kr Q) hc hH hb hs) (fun q cap w=>AnyF.slices_SortFunc_none Tryz.lays6f63 q cap _ w) om
theorem mM.c (h:mM.f a0 a1=some r):Pt prog 67 [agg (fU.enc a0),agg (fU.enc a1)] (vI r):=by
 refine pf func67 h fun R0 F H=>?_
 refine wr 3 3<|Dv.box Q T Q cA nofun fun ba=>Dv.box Q T Q cA nofun fun bc=>go 1<|wr 6 0<|gl 4 [1,0]<|el H fun ta haa H=>cl Q (cL 65) Q (aD.c haa)<|gq 1 ?_
 cases H.out; exact ek 2
theorem aN.FW (x y:fU):mM.f x y=some (aN.cf x y):=by
 unfold mM.f
 rw [qo]
 rfl
theorem aN.AF:Bo aN.cf:=sj.wh (fun x:fU=>x.aj)
theorem aN.c {p0_:OV} (h:aN.f a0=some r):Tr prog 66 [eq p0_.1,eq (.func (.func 67) #[] #[])] [own fU.K p0_.1 a0] (γ:=Unit) (fun _=>True) (fun g=>kZ []) (fun g=>[own fU.K p0_.1 r]):=by
 unfold aN.f at h
 obtain ⟨⟨h0,hT⟩,h5⟩:=(aU.of h).an
 obtain rfl:=aU.out h5
 exact tM (K:=fU.K) (fun _=>(bN gY (bN gY lS))) dc aN.AF.swo hT (fun x y=>mM.c (aN.FW x y)) (fun ev hk h1 cf hO aC off cap d w hc hH hb hs=>AnyQ.slices_SortFunc Tryz.lays6f66 2 Tryz.isAgg96 Tryz.sizeOf96 ev hk h1 cf hO 67 #[] aC off cap d w (enters_of func67 kr Q) hc hH hb hs) (fun q cap w=>AnyF.slices_SortFunc_none Tryz.lays6f66 q cap _ w) om
theorem sync_Make.c {p0_0 p0_1 p0_2 p0_3 p0_4:OV} (h:sync_Make.f k a0 a1 a2 a3=some r):Tr prog 14 [agg [eq p0_0.1,eq p0_1.1,eq p0_2.1,eq p0_3.1,eq p0_4.1],vS a1,vI a2,vI a3] [aJ.O p0_0 a0.cI,jA.O p0_1 a0.ay,bS.O p0_2 a0.aO,b7.O p0_3 a0.aR,b8.O p0_4 a0.fZ] (γ:=Unit) (fun _=>True) (fun g=>kZ [agg (uN.enc r.1),vI r.2]) (fun g=>[aJ.O p0_0 a0.cI,jA.O p0_1 a0.ay,bS.O p0_2 a0.aO,b7.O p0_3 a0.aR,b8.O p0_4 a0.fZ]):=by
 refine tf func14 h fun R0 F H=>?_
 refine wr 3 3<|Dv.box Q T Q cA nofun fun ba=>al Q T Ex nofun fun bc=>go 1<|WP.seq<|wr 9 64<|gp 3 ?_
 rcases bm H with ⟨cc,H⟩ | ⟨cc,H⟩
 rotate_left
 ·
  refine sh 21 cc ?_
  refine sh 22 cc ?_
  refine go 3<|Dv.CP Q ⟨_,_,Q,Q,.inl Q⟩ nofun<|go 2<|WP.cond Q (fun _=>?_) nofun
  refine wr 3 2<|Dv.kJ (qs:=[vI 0,dH,dH,dH]) (css:=[]) Q T LQ KO z59 Q T Q Q<|sy 0 ?_
  refine gq 1 ?_
  cases H.out; exact rt i2 Q () 7 [0,1,2,3,4,5,6] 2 (.cons (nW (au Q LQ Q c59 (aa 0 Q) Q) (mV (.cons bQ (.cons cR (.cons cR (.cons cR .nil)))))) (.cons (aB Q) .nil))
 refine sh 21 cc ?_
 refine sh 22 cc ?_
 refine gl 3 [1]<|el H fun ta haa H=>cx 7 [6,0,1,2,3,4,5] (cL 53) (iM.c haa (p0_:=p0_4)) nofun fun _ _=>?_
 refine go 2<|ce H ?_ ?_ <;> intro H
 ·
  refine wr 3 2<|Dv.kJ (qs:=[vI 0,dH,dH,dH]) (css:=[]) Q T LQ KO z59 Q T Q Q<|sy 1 ?_
  refine gq 1 ?_
  cases H.out; exact rt i2 Q () 7 [1,2,3,4,5,6,0] 2 (.cons (nW (au Q LQ Q c59 (aa 1 Q) Q) (mV (.cons bQ (.cons cR (.cons cR (.cons cR .nil)))))) (.cons (aB Q) .nil))
 refine WP.skip<|wr 6 52<|gl 2 [2]<|el H fun tc hac H=>cx 7 [0,1,2,3,4,5,6] (cL 53) (iM.c hac (p0_:=p0_4)) nofun fun _ _=>?_
 refine Dv.kJ (qs:=[vI tc,dH,dH,dH]) (css:=[[vI tc]]) Q T LQ KO z59 Q ⟨(cells_one (ah Q)),T⟩ Q Q<|al Q T Ex nofun fun bd=>sy 0 ?_
 refine .fin<|WP.jh H (fun qh:(Int×Int×Bool×(List BA)×(List jg)×(List fQ)×(List fU))×OV×OV×OV×OV=>qh.1) (fun qh=>[(8,dR bc),(10,dR bd)]) (fun qh=>[aC bd 59 [vI tc,eq qh.2.2.1.1,eq qh.2.2.2.1.1,eq qh.2.2.2.2.1],aC bc 59 [vI 0,dH,dH,dH],aC ba 30 [eq p0_0.1,eq p0_1.1,eq p0_2.1,eq p0_3.1,eq p0_4.1],b8.O p0_4 a0.fZ,aJ.O p0_0 a0.cI,jA.O p0_1 a0.ay,bS.O p0_2 a0.aO,b7.O p0_3 a0.aR,own aw qh.2.1.1 qh.1.2.2.2.1,own jg.K qh.2.2.1.1 qh.1.2.2.2.2.1,own fQ.K qh.2.2.2.1.1 qh.1.2.2.2.2.2.1,own fU.K qh.2.2.2.2.1 qh.1.2.2.2.2.2.2]++F) (fun qh H=>?_) (fun H=>?_)
 ·
  obtain ⟨pa,va,vb,vd,ve⟩:=qh
  refine wr 3 4<|gl 2 [0]<|el H fun te had H=>cx 12 [9,0,1,2,3,4,5,6,7,8,10,11] (cL 60) (aW.c had (p0_:=vb)) nofun fun _ _=>?_
  refine .fin<|wr 3 4<|gl 2 [1]<|el H fun tg hae H=>cx 12 [10,0,1,2,3,4,5,6,7,8,9,11] (cL 63) (aM.c hae (p0_:=vd)) nofun fun _ _=>?_
  refine .fin<|wr 3 4<|gl 2 [2]<|el H fun tj haf H=>cx 12 [11,0,1,2,3,4,5,6,7,8,9,10] (cL 66) (aN.c haf (p0_:=ve)) nofun fun _ _=>?_
  refine .fin<|wr 3 2<|gl 1 [3]<|sy 4 ?_
  refine go 1<|fz 2 [8,9] [0,0,1,1] ?_
  refine fz 1 [8,9] [0,1,1] ?_
  refine fz 0 [8,9] [1,1] ?_
  cases H.out; exact rt i2 Q () 9 [0,1,2,8,4,5,6,7,3] 4 (.cons (au Q LQ Q c59 (aa 1 Q) Q) (.cons (aB Q) .nil))
 refine wr 6 8<|gl 3 [3]<|el H fun tm hag H=>cx 8 [1,0,2,3,4,5,6,7] (cL 54) (cG.c hag (p0_:=p0_4)) nofun fun ga _=>?_
 refine Dv.kl Q T Q (aa 1 Q) dj<|go 1<|WP.block<|wg (dw jg.K none) fun _ _=>?_
 refine wg (dw fQ.K none) fun _ _=>?_
 refine wg (dw fU.K none) fun _ _=>?_
 refine ws 12 [5,6,7,3,4,8,9,10,11,2,1,0] 0 ?_
 refine lq (fun j_ (pc:Int×(List jg)×(List fQ)×(List fU)×OV×OV×OV)=>sync_Make.l0 k a0 a1 a3 tm j_ pc.1 pc.2.1 pc.2.2.1 pc.2.2.2.1) (0,([]:List jg),([]:List fQ),([]:List fU),jS,DE,nilV2) H [1,3,4,8,10,37,38] (fun pc=>[(39,vI pc.1)]) (fun pc=>[(0,aC bd 59 [vI tc,eq pc.2.2.2.2.1.1,eq pc.2.2.2.2.2.1.1,eq pc.2.2.2.2.2.2.1]),(9,own jg.K pc.2.2.2.2.1.1 pc.2.1),(10,own fQ.K pc.2.2.2.2.2.1.1 pc.2.2.1),(11,own fU.K pc.2.2.2.2.2.2.1 pc.2.2.2.1)]) ?_
 rintro j_ ⟨xc,xd,xe,xf,vh,vi,vj⟩ H
 rcases j_ with _ | ja
 ·
  exact (aU.no H).elim
 try dsimp only at H
 rw [sync_Make.l0] at H
 refine so<|WP.seq<|cf H ?_ ?_ <;> intro H
 ·
  refine WP.exit ?_
  have H:=H.out
  refine ns 12 [0,1,2,3,5,6,7,8,4,9,10,11] 0 ?_
  exact jn (((tm.length:Int),xc,decide (xc<(tm.length:Int)),tm,xd,xe,xf),ga,vh,vi,vj) H
 refine WP.skip<|WP.seq<|WP.block<|wr 3 0<|gr H fun gb H=>?_
 have hah:xc.toNat<tm.length:=bq gb
 refine Dv.jQ Q T Q (aa 4 Q) Q dj U9 c9 gb.1 gb.2<|Dv.na (j:=xc.toNat) (f:=0) (p:=vS (tm.getD xc.toNat default)) Q T Q (aa 4 Q) hah U9 Q Q<|go 1<|wr 3 0<|go 1<|el H fun tn hai H=>cl Q (cL 55) Q (ni.c hai)<|go 1<|WP.jh H (fun qi:((List jg)×(List fQ))×OV×OV=>qi.1) (fun qi=>[(1,vS a1),(3,vI a3),(4,dR ba),(8,dR bc),(10,dR bd),(13,jV.p tn),(37,eq ga.1),(38,vI (tm.length:Int)),(39,vI xc)]) (fun qi=>[aC bd 59 [vI tc,eq qi.2.1.1,eq qi.2.2.1,eq vj.1],aC bc 59 [vI 0,dH,dH,dH],aC ba 30 [eq p0_0.1,eq p0_1.1,eq p0_2.1,eq p0_3.1,eq p0_4.1],aJ.O p0_0 a0.cI,jA.O p0_1 a0.ay,bS.O p0_2 a0.aO,b7.O p0_3 a0.aR,b8.O p0_4 a0.fZ,own aw ga.1 tm,own fU.K vj.1 xf,own jg.K qi.2.1.1 qi.1.1,own fQ.K qi.2.2.1 qi.1.2]++F) (fun qi H=>?_) (fun H=>?_)
 ·
  obtain ⟨pe,vk,vl⟩:=qi
  refine wr 7 0<|go 1<|Dv.tas (jV.Ge tn) Q T Q<|go 1<|dV Q T Q Q<|dV Q T Q Q<|go 2<|wr 8 64<|gp 2 ?_
  rcases bm H with ⟨cg,H⟩ | ⟨cg,H⟩
  ·
   refine sh 86 cg ?_
   refine sh 19 cg ?_
   refine sh 87 cg ?_
   refine sh 88 cg ?_
   refine go 4<|Dv.CP Q ⟨_,_,Q,Q,.inl Q⟩ nofun<|go 1<|WP.cond Q nofun (fun _=>?_)
   refine WP.skip<|rg 2 0<|go 2<|ns 12 [0,1,2,7,8,3,4,5,6,10,11,9] 0 ?_
   exact bk ja (av (xc+1),pe.1,pe.2,xf,vk,vl,vj) H
  refine sh 86 cg ?_
  refine sh 19 cg ?_
  refine sh 87 cg ?_
  refine sh 88 cg ?_
  refine gl 4 [2]<|el H fun tp haj H=>cx 12 [3,0,1,2,4,5,6,7,8,9,10,11] (cL 58) (fa.c haj (p0_:=p0_0)) nofun fun _ _=>?_
  refine go 1<|cf H ?_ ?_ <;> intro H
  ·
   refine WP.skip<|rg 2 0<|go 2<|ns 12 [1,2,3,7,8,0,4,5,6,10,11,9] 0 ?_
   exact bk ja (av (xc+1),pe.1,pe.2,xf,vk,vl,vj) H
  refine wg (b7.jf 6 Q) fun gi hak=>?_
  refine dg mX 13 5120<|gl 7 [4,6]<|el H fun tq ham H=>pN 14 [0,1,2,3,4,5,6,7,8,9,10,11,12,13] (cL 59) (Tr.kj (bX.c ham (b0_:=gi.1) (v0_0:=gi.2.1) (v0_1:=gi.2.2)) (.cons (iV hak) (.cons bQ (.cons bQ .nil)))) ?_
  refine Dv.kJ (qs:=[vS ((jV.sW tn).getD eE),vI tq]) (css:=[[vS ((jV.sW tn).getD eE)],[vI tq]]) Q T U96 pl96 z96 Q ⟨(cells_one (ah Q)),⟨(cells_one (ah Q)),T⟩⟩ Q Q<|Dv.lit fU.K ([(⟨(jV.sW tn).getD eE,tq⟩:fU)]:List fU) (css:=[[vS ((jV.sW tn).getD eE),vI tq]]) Q T Kv U96 c96 z96 Q dc dc Q ⟨(aS (ai (ah Q) (ai (ah Q) bO))),T⟩ Q Q Q<|gr H fun gj H=>ap fU.K 11 ([(⟨(jV.sW tn).getD eE,tq⟩:fU)]:List fU) bF Kv (.inr ⟨_,Kv⟩) inf96 gj pB fun vm=>?_
  refine go 1<|sx 4 Q T Q Q (cells_one bH) sz57 Q Q Q pB ?_
  refine .fin<|rg 2 0<|go 2<|ng (b7.shut (p:=p0_3) (m:=a0.aR) (gi.1,gi.2.1,gi.2.2) hak (pm 14 [0,1,2,3,4,5,6,7,8,9,10,11,12,13])) fun _ _=>?_
  refine ns 12 [2,3,4,7,8,1,5,6,0,10,11,9] 0 ?_
  exact bk ja (av (xc+1),pe.1,pe.2,xf++([(⟨(jV.sW tn).getD eE,tq⟩:fU)]:List fU),vk,vl,vm) H
 refine so<|WP.block<|wr 3 0<|Dv.tas (jV.IE tn) Q T Q<|dV Q T Q Q<|dV Q T Q Q<|.fin<|ce H ?_ ?_ <;> intro H
 ·
  refine wr 2 3<|al Q T zc89 nofun fun be=>sy 0 ?_
  refine .fin<|wr 10 392<|gl 3 [3,0]<|el H fun tu han H=>cx 13 [6,7,8,9,4,0,1,2,3,5,10,11,12] (cL 56) (hM.c han (p0_0:=p0_0) (p0_1:=p0_1) (p0_2:=p0_2) (p0_3:=p0_3) (p0_4:=p0_4)) nofun fun _ _=>?_
  refine go 1<|dV Q T Q Q<|dV Q T Q Q<|al Q T zc91 nofun fun bg=>sy 0 ?_
  refine go 1<|so<|cf H ?_ ?_ <;> intro H
  ·
   refine WP.skip ?_
   have H:=H.out
   refine ns 14 [0,6,7,8,9,1,2,3,4,5,10,13,11,12] 2 ?_
   exact jn ((xd,xe),vh,vi) H
  refine rg 7 80<|gl 3 [7,0]<|Dv.lit jg.K ([(⟨tu.1.dx,tu.1.eH⟩:jg)]:List jg) (css:=[[vS tu.1.dx.ab,vS tu.1.dx.aj,vS tu.1.dx.ae,vB tu.1.dx.aq,vI tu.1.eH.bx,vS tu.1.eH.bV]]) Q T JQ Bq EY z91 Q dc dc Q ⟨(aS (ai (ah Q) (ai (ah Q) (ai (ah Q) (ai (ah Q) (ai (ah Q) (ai (ah Q) bO))))))),T⟩ Q Q Q<|gr H fun gk H=>ap jg.K 11 ([(⟨tu.1.dx,tu.1.eH⟩:jg)]:List jg) bF JQ (.inr ⟨_,JQ⟩) inf91 gk nofun fun vn=>?_
  refine go 1<|sx 7 Q T Q Q (cells_one bH) sz55 Q Q Q nofun ?_
  refine .fin ?_
  have H:=H.out
  refine ns 14 [0,6,7,8,9,1,2,3,4,5,10,13,11,12] 2 ?_
  exact jn ((xd++([(⟨tu.1.dx,tu.1.eH⟩:jg)]:List jg),xe),vn,vi) H
 refine wr 3 0<|Dv.tas (jV.FN tn) Q T Q<|dV Q T Q Q<|dV Q T Q Q<|.fin<|cf H ?_ ?_ <;> intro H
 ·
  refine WP.skip ?_
  have H:=H.out
  refine ns 12 [0,1,2,5,6,7,8,3,4,11,9,10] 0 ?_
  exact jn ((xd,xe),vh,vi) H
 refine so<|wr 5 0<|gl 4 [2]<|vg (aJ.jf 5 Q) fun gm hao=>?_
 refine el H fun tw hap H=>pN 13 [0,1,2,3,4,5,6,7,8,9,10,11,12] (cL 57) (Tr.kj (bP.c hap (b0_:=gm.1) (v0_0:=gm.2)) (.cons (iV hao) (.cons bQ (.cons bQ .nil)))) ?_
 refine .fin<|cf H ?_ ?_ <;> intro H
 ·
  refine WP.skip ?_
  have H:=H.out
  refine ng (aJ.shut (p:=p0_0) (m:=a0.cI) (gm.1,gm.2) hao (pm 13 [0,1,2,3,4,5,6,7,8,9,10,11,12])) fun _ _=>?_
  refine ns 12 [1,2,3,0,6,7,8,4,5,11,9,10] 0 ?_
  exact jn ((xd,xe),vh,vi) H
 refine wg (aJ.shut (p:=p0_0) (m:=a0.cI) (gm.1,gm.2) hao (pm 13 [0,1,2,3,4,5,6,7,8,9,10,11,12])) fun _ _=>?_
 refine dg mX 12 2624<|gl 6 [1,3]<|el H fun tx haq H=>Dv.yq (pre:=[aJ.O p0_0 a0.cI,jA.O p0_1 a0.ay,bS.O p0_2 a0.aO,b7.O p0_3 a0.aR,b8.O p0_4 a0.fZ]) (F:=[aC bd 59 [vI tc,eq vh.1,eq vi.1,eq vj.1],aC bc 59 [vI 0,dH,dH,dH],aC ba 30 [eq p0_0.1,eq p0_1.1,eq p0_2.1,eq p0_3.1,eq p0_4.1],own aw ga.1 tm,own jg.K vh.1 xd,own fQ.K vi.1 xe,own fU.K vj.1 xf]++F) (fun _:Unit=>[aJ.O p0_0 a0.cI,jA.O p0_1 a0.ay,bS.O p0_2 a0.aO,b7.O p0_3 a0.aR,b8.O p0_4 a0.fZ,aC bd 59 [vI tc,eq vh.1,eq vi.1,eq vj.1],aC bc 59 [vI 0,dH,dH,dH],aC ba 30 [eq p0_0.1,eq p0_1.1,eq p0_2.1,eq p0_3.1,eq p0_4.1],own aw ga.1 tm,own jg.K vh.1 xd,own fQ.K vi.1 xe,own fU.K vj.1 xf]++F) Q T (cL 20) Q (lx.c haq (p0_0:=p0_0) (p0_1:=p0_1) (p0_2:=p0_2) (p0_3:=p0_3) (p0_4:=p0_4)) (lK (L:=[aJ.O p0_0 a0.cI,aC bd 59 [vI tc,eq vh.1,eq vi.1,eq vj.1],aC bc 59 [vI 0,dH,dH,dH],aC ba 30 [eq p0_0.1,eq p0_1.1,eq p0_2.1,eq p0_3.1,eq p0_4.1],b8.O p0_4 a0.fZ,own aw ga.1 tm,jA.O p0_1 a0.ay,bS.O p0_2 a0.aO,b7.O p0_3 a0.aR,own jg.K vh.1 xd,own fQ.K vi.1 xe,own fU.K vj.1 xf]) (F:=F) [0,6,7,8,4,1,2,3,5,9,10,11] kr Q Q) Q pE (fun _ _=>?_)
 refine Dv.kJ (qs:=[vS ((jV.tC tn).getD eE),sl aw tx]) (css:=[[vS ((jV.tC tn).getD eE)],[sl aw tx]]) Q T U94 pl94 z94 Q ⟨(cells_one (ah Q)),⟨(cells_one dL),T⟩⟩ Q Q<|Dv.lit fQ.K ([(⟨(jV.tC tn).getD eE,tx⟩:fQ)]:List fQ) (css:=[[vS ((jV.tC tn).getD eE),sl aw tx]]) Q T Ls U94 c94 z94 Q dc dc Q ⟨(aS (ai (ah Q) (ai dL bO))),T⟩ Q Q Q<|gr H fun gn H=>ap fQ.K 10 ([(⟨(jV.tC tn).getD eE,tx⟩:fQ)]:List fQ) bF Ls (.inr ⟨_,Ls⟩) inf94 gn pB fun vo=>?_
 refine go 1<|sx 5 Q T Q Q (cells_one bH) sz56 Q Q Q pB ?_
 refine .fin ?_
 have H:=H.out
 refine ns 12 [5,6,7,0,1,2,3,4,8,11,9,10] 0 ?_
 exact jn ((xd,xe++([(⟨(jV.tC tn).getD eE,tx⟩:fQ)]:List fQ)),vh,vo) H
theorem cM.c (h:cM.f k a0 a1=some r):Pt prog 140 [agg (aK.enc a0),vS a1] (kZ [agg (Event.enc r.1),vB r.2]):=by
 refine pf func140 h fun R0 F H=>?_
 refine wr 3 3<|Dv.box Q T Q cA nofun fun ba=>al Q T uP nofun fun bc=>go 1<|so<|sq H id [2,4] (fun pa=>[(6,vI pa.1)]) (fun _=>[]) (fun pa H=>?_) (fun H=>?_)
 ·
  refine WP.seq<|so<|cf H ?_ ?_ <;> intro H
  ·
   refine WP.skip<|wr 7 32<|gl 3 [1]<|gr H fun ga H=>Dv.fR Q T Q Q qI kL mL ga.1 ga.2<|iv Q T Q FX Q<|sy 0 ?_
   refine gq 1 ?_
   cases H.out; exact r2 i2 Q (.cons (au Q kL Q mL (aa 0 Q) Q) (.cons (aB Q) .nil))
  refine wr 3 2<|Dv.kJ (qs:=[vS eE,vS eE,dH,vS eE,vS eE,vI 0]) (css:=[]) Q T kL E5 EP Q T Q Q<|sy 0 ?_
  refine gq 1 ?_
  cases H.out; exact r2 i2 Q (.cons (nW (au Q kL Q mL (aa 0 Q) Q) (mV (.cons bQ (.cons bQ (.cons cR (.cons bQ (.cons bQ (.cons bQ .nil)))))))) (.cons (aB Q) .nil))
 refine so<|WP.block<|ws 2 [0,1] 0 ?_
 refine lq (fun j_ (pc:Int×Int)=>cM.l0 k a0 a1 j_ pc.1 pc.2) ((-1),0) H [1,2,4] (fun pc=>[(6,vI pc.1),(7,vI pc.2)]) (fun _=>[]) ?_
 rintro j_ ⟨xc,xd⟩ H
 rcases j_ with _ | ja
 ·
  exact (aU.no H).elim
 try dsimp only at H
 rw [cM.l0] at H
 refine WP.seq<|wr 5 0<|gl 3 [1]<|Dv.fj Q T Q qI<|go 1<|cf H ?_ ?_ <;> intro H
 ·
  refine WP.exit ?_
  have H:=H.out
  exact jn (xc,xd,decide (xd<(a0.fL.length:Int))) H
 refine WP.skip<|WP.seq<|WP.block<|WP.seq<|wr 17 0<|gl 3 [1]<|gr H fun gb H=>Dv.fR Q T Q Q qI kL mL gb.1 gb.2<|fr Q T Q HL Q<|kI Q T Q oc Q<|gp 3 ?_
 cases cc:!decide (((Event.K.at a0.fL xd).aj)=a1)
 rotate_left
 ·
  have H:=H.ct cc
  refine go 8<|WP.cond Q (fun _=>?_) nofun
  exact WP.exit<|rg 3 0<|go 3<|bk ja (xc,av (xd+1)) H
 have H:=H.cf cc
 refine gl 3 [1]<|gr H fun gi H=>Dv.fR Q (gg Q) Q Q qI kL mL gi.1 gi.2<|fr Q (gg Q) Q zN Q<|kI Q (gg Q) Q Dj Q<|go 2<|ce H ?_ ?_ <;> intro H
 ·
  exact WP.exit<|rg 3 0<|go 3<|bk ja (xc,av (xd+1)) H
 refine WP.skip<|WP.seq<|so<|ce H ?_ ?_ <;> intro H
 ·
  exact so<|WP.exit<|rg 3 0<|go 3<|bk ja (xd,av (xd+1)) H
 refine WP.skip<|wd mX 18 0<|gl 4 [1,1]<|gr H fun gj H=>Dv.fR Q T Q Q qI kL mL gj.1 gj.2<|fr Q T Q zO Q<|kI Q T Q oc Q<|el H fun ta haa H=>cl Q (cL 152) Q (dI.c haa)<|gl 4 [1,1]<|gr H fun gk H=>Dv.fR Q T Q Q qI kL mL gk.1 gk.2<|fr Q T Q zO Q<|kI Q T Q oc Q<|el H fun tc hac H=>cl Q (cL 152) Q (dI.c hac)<|el H fun te had H=>cl Q (cL 24) Q (fH.c had)<|go 1<|so<|cf H ?_ ?_ <;> intro H
 ·
  exact WP.skip<|rg 3 0<|go 3<|bk ja (xc,av (xd+1)) H
 exact rg 2 0<|go 2<|rg 3 0<|go 3<|bk ja (xd,av (xd+1)) H
theorem jC.c (h:jC.f k a0 a1=some r):Pt prog 76 [agg (aK.enc a0),vS a1] (vB r):=by
 refine pf func76 h fun R0 F H=>?_
 refine wr 2 1<|Dv.box Q T Q cA nofun fun ba=>go 1<|wr 9 192<|gl 2 [0]<|el H fun ta haa H=>cl Q (cL 140) Q (cM.c haa)<|go 1<|dV Q T Q Q<|dV Q T Q Q<|al Q T uP nofun fun bc=>sy 0 ?_
 refine go 1<|wr 7 0<|gp 2 ?_
 cases cc:ta.2
 ·
  have H:=H.cf cc
  refine gq 5 ?_
  cases H.out; exact ek 2
 have H:=H.ct cc
 refine Es 5 [0] ?_
 cases H.out; exact ek 2
theorem er.c (h:er.f k a0 a1 a2=some r):Pt prog 27 [agg (bA.enc a0),vS a1,vS a2] (vB r):=by
 refine pf func27 h fun R0 F H=>?_
 refine wr 2 1<|Dv.box Q T Q cA nofun fun ba=>go 1<|wr 6 0<|gl 2 [0]<|el H fun ta haa H=>cl Q (cL 77) Q (iz.c haa)<|go 1<|el H fun tc hac H=>cl Q (cL 76) Q (jC.c hac)<|gq 1 ?_
 cases H.out; exact ek 1
theorem cO.c (h:cO.f k a0 a1 a2 a3=some r):Pt prog 139 [agg (kB.enc a0),vS a1,vS a2,vI a3] (vB r):=by
 refine pf func139 h fun R0 F H=>?_
 refine wr 2 1<|Dv.box Q T Q cA nofun fun ba=>go 1<|sr H id [] (fun _=>[]) (fun _=>[]) (fun pa H=>?_) (fun H=>?_)
 ·
  refine sp ?_
  cases H.out; exact ek 1
 refine so<|WP.block<|ws 1 [0] 0 ?_
 refine lq (fun j_ (pc:Int)=>cO.l0 k a0 a1 a2 a3 j_ pc) 0 H [1,2,3,4] (fun pc=>[(9,vI pc)]) (fun _=>[]) ?_
 rintro j_ xc H
 rcases j_ with _ | ja
 ·
  exact (aU.no H).elim
 try dsimp only at H
 rw [cO.l0] at H
 refine WP.seq<|wr 5 0<|gl 3 [0]<|Dv.fj Q T Q eW<|go 1<|cf H ?_ ?_ <;> intro H
 ·
  refine WP.exit ?_
  have H:=H.out
  exact jn (xc,decide (xc<(a0.fL.length:Int))) H
 refine WP.skip<|WP.seq<|WP.block<|wr 18 0<|gl 3 [0]<|gr H fun ga H=>Dv.fR Q T Q Q eW gN iy ga.1 ga.2<|fr Q T Q G6 Q<|kI Q T Q oc Q<|gp 3 ?_
 cases cc:decide (((ak.K.at a0.fL xc).ab)=a1)
 ·
  have H:=H.cf cc
  refine go 9<|WP.cond Q nofun (fun _=>?_)
  exact WP.skip<|rg 3 0<|go 3<|bk ja (av (xc+1)) H
 have H:=H.ct cc
 refine gl 3 [0]<|gr H fun gb H=>Dv.fR Q (gg Q) Q Q eW gN iy gb.1 gb.2<|fr Q (gg Q) Q zM Q<|kI Q (gg Q) Q oc Q<|go 3<|cf H ?_ ?_ <;> intro H
 ·
  exact WP.skip<|rg 3 0<|go 3<|bk ja (av (xc+1)) H
 refine wd mX 24 0<|gl 3 [0]<|gr H fun gi H=>Dv.fR Q T Q Q eW gN iy gi.1 gi.2<|fr Q T Q Hv Q<|kI Q T Q sc4 Q<|gp 1 ?_
 cases cg:(ak.K.at a0.fL xc).kb
 ·
  have H:=H.cf cg
  refine gq 17 ?_
  have H:=H.eR
  cases H.out; exact ek 1
 have H:=H.ct cg
 refine gl 4 [0]<|gr H fun gj H=>Dv.fR Q (gg Q) Q Q eW gN iy gj.1 gj.2<|fr Q (gg Q) Q K5 Q<|kI Q (gg Q) Q Dj Q<|gl 3 [0]<|gr H fun gk H=>Dv.fR Q (gg Q) Q Q eW gN iy gk.1 gk.2<|fr Q (gg Q) Q Lk Q<|kI Q (gg Q) Q Dj Q<|gq 4 ?_
 have H:=H.eR
 cases H.out; exact ek 1
theorem dt.c (h:dt.f k a0 a1 a2=some r):Tr prog 74 [agg (kB.enc a0),vS a1,vI a2] [] (γ:=OV) (fun _=>True) (fun g=>eq g.1) (fun g=>[own aw g.1 r]):=by
 refine tf func74 h fun R0 F H=>?_
 refine wr 2 1<|Dv.box Q T Q cA nofun fun ba=>go 1<|so<|WP.jh H (fun qh:(Int×Bool×(List BA))×OV=>qh.1) (fun qh=>[(7,eq qh.2.1)]) (fun qh=>[aC ba 37 (kB.enc a0),own aw qh.2.1 qh.1.2.2]++F) (fun qh H=>?_) (fun H=>?_)
 ·
  obtain ⟨pa,va⟩:=qh
  refine sp ?_
  cases H.out; exact et va 2 [0,1] 1
 refine so<|WP.block<|wg (dw aw none) fun _ _=>?_
 refine ws 2 [1,0] 0 ?_
 refine lq (fun j_ (pc:Int×(List BA)×OV)=>dt.l0 k a0 a1 a2 j_ pc.1 pc.2.1) (0,([]:List BA),jS) H [1,2,3] (fun pc=>[(7,eq pc.2.2.1),(8,vI pc.1)]) (fun pc=>[(1,own aw pc.2.2.1 pc.2.1)]) ?_
 rintro j_ ⟨xc,xd,vb⟩ H
 rcases j_ with _ | ja
 ·
  exact (aU.no H).elim
 try dsimp only at H
 rw [dt.l0] at H
 refine WP.seq<|wr 5 0<|gl 3 [0]<|Dv.fj Q T Q eW<|go 1<|cf H ?_ ?_ <;> intro H
 ·
  refine WP.exit ?_
  have H:=H.out
  exact jn ((xc,decide (xc<(a0.fL.length:Int)),xd),vb) H
 refine WP.skip<|WP.seq<|WP.block<|wd mX 11 0<|gl 5 [0,0]<|gr H fun ga H=>Dv.fR Q T Q Q eW gN iy ga.1 ga.2<|fr Q T Q zM Q<|kI Q T Q oc Q<|go 1<|el H fun ta haa H=>cl Q (cL 139) Q (cO.c haa)<|go 1<|wr 11 0<|gl 3 [0]<|gr H fun gb H=>Dv.fR Q T Q Q eW gN iy gb.1 gb.2<|fr Q T Q G6 Q<|kI Q T Q oc Q<|gp 3 ?_
 cases cc:decide (((ak.K.at a0.fL xc).ab)=a1)
 ·
  have H:=H.cf cc
  refine go 2<|WP.cond Q nofun (fun _=>?_)
  exact WP.skip<|rg 3 0<|go 3<|bk ja (av (xc+1),xd,vb) H
 have H:=H.ct cc
 refine go 2<|cf H ?_ ?_ <;> intro H
 ·
  exact WP.skip<|rg 3 0<|go 3<|bk ja (av (xc+1),xd,vb) H
 refine rg 10 256<|gl 4 [0]<|gr H fun gi H=>Dv.fR Q T Q Q eW gN iy gi.1 gi.2<|fr Q T Q zM Q<|kI Q T Q oc Q<|Dv.lit aw ([(ak.K.at a0.fL xc).aj]:List BA) (css:=[[vS ((ak.K.at a0.fL xc).aj)]]) Q T dj U9 c9 z9 Q dc dc Q ⟨(cells_one (ah Q)),T⟩ Q Q Q<|gr H fun gj H=>ap aw 1 ([(ak.K.at a0.fL xc).aj]:List BA) bF dj (.inr ⟨_,dj⟩) rM gj nofun fun vd=>?_
 exact go 1<|rg 3 0<|go 3<|bk ja (av (xc+1),xd++([(ak.K.at a0.fL xc).aj]:List BA),vd) H
theorem fi.c (h:fi.f k a0 a1 a2=some r):Pt prog 21 [agg (dy.enc a0),vS a1,vI a2] (sl aw r):=by
 refine pf func21 h fun R0 F H=>?_
 refine wr 2 1<|Dv.box Q T Q cA nofun fun ba=>go 1<|wr 6 16<|gl 4 [0]<|el H fun ta haa H=>cx 1 [0] (cL 74) (dt.c haa) nofun fun ga _=>?_
 refine go 1<|so<|WP.jh H (fun qh:(Int×Bool×(List BA))×OV=>qh.1) (fun qh=>[(8,eq qh.2.1)]) (fun qh=>[aC ba 43 [sl aK.K a0.fV.fD,sl MK.K a0.fM,sl ak.K a0.fT.fL,sl bJ a0.fT.cH,sl ak.K a0.fP.fL,sl (bz .i64) a0.fP.cH,sl jO.K a0.fL,vI a0.aL],own aw ga.1 ta,own aw qh.2.1 qh.1.2.2]++F) (fun qh H=>?_) (fun H=>?_)
 ·
  obtain ⟨pa,va⟩:=qh
  refine so<|fz 2 [6] [] ?_
  cases H.out; exact ek 2
 refine so<|WP.block<|wg (dw aw none) fun _ _=>?_
 refine ws 3 [2,1,0] 0 ?_
 refine lq (fun j_ (pc:Int×(List BA)×OV)=>fi.l0 k a0 a1 ta j_ pc.1 pc.2.1) (0,([]:List BA),jS) H [1,3,7] (fun pc=>[(8,eq pc.2.2.1),(9,vI pc.1)]) (fun pc=>[(2,own aw pc.2.2.1 pc.2.1)]) ?_
 rintro j_ ⟨xc,xd,vb⟩ H
 rcases j_ with _ | ja
 ·
  exact (aU.no H).elim
 try dsimp only at H
 rw [fi.l0] at H
 refine WP.seq<|wr 4 0<|go 2<|Dv.kl Q T Q (aa 1 Q) dj<|go 1<|cf H ?_ ?_ <;> intro H
 ·
  refine WP.exit ?_
  have H:=H.out
  exact jn ((xc,decide (xc<(ta.length:Int)),xd),vb) H
 refine WP.skip<|WP.seq<|WP.block<|wd mX 9 0<|gl 5 [0]<|gr H fun gb H=>?_
 have hac:xc.toNat<ta.length:=bq gb
 refine Dv.jQ Q T Q (aa 1 Q) Q dj U9 c9 gb.1 gb.2<|Dv.na (j:=xc.toNat) (f:=0) (p:=vS (ta.getD xc.toNat default)) Q T Q (aa 1 Q) hac U9 Q Q<|el H fun tc had H=>cl Q (cL 27) Q (er.c had)<|go 1<|so<|cf H ?_ ?_ <;> intro H
 ·
  exact WP.skip<|rg 3 0<|go 3<|bk ja (av (xc+1),xd,vb) H
 refine rg 8 64<|go 3<|gr H fun gi H=>?_
 have hae:xc.toNat<ta.length:=bq gi
 refine Dv.jQ Q T Q (aa 1 Q) Q dj U9 c9 gi.1 gi.2<|Dv.na (j:=xc.toNat) (f:=0) (p:=vS (ta.getD xc.toNat default)) Q T Q (aa 1 Q) hae U9 Q Q<|Dv.lit aw ([ta.getD xc.toNat default]:List BA) (css:=[[vS (ta.getD xc.toNat default)]]) Q T dj U9 c9 z9 Q dc dc Q ⟨(cells_one (ah Q)),T⟩ Q Q Q<|gr H fun gj H=>ap aw 2 ([ta.getD xc.toNat default]:List BA) bF dj (.inr ⟨_,dj⟩) rM gj nofun fun vd=>?_
 exact go 1<|rg 3 0<|go 3<|bk ja (av (xc+1),xd++([ta.getD xc.toNat default]:List BA),vd) H
theorem dZ.c (h:dZ.f k a0 a1=some r):Tr prog 78 [agg (bA.enc a0),vS a1] [] (γ:=OV) (fun _=>True) (fun g=>eq g.1) (fun g=>[own aw g.1 r]):=by
 refine tf func78 h fun R0 F H=>?_
 refine wr 2 1<|Dv.box Q T Q cA nofun fun ba=>go 1<|so<|WP.jh H (fun qh:(Int×Bool×(List BA))×OV=>qh.1) (fun qh=>[(5,eq qh.2.1)]) (fun qh=>[aC ba 33 (bA.enc a0),own aw qh.2.1 qh.1.2.2]++F) (fun qh H=>?_) (fun H=>?_)
 ·
  obtain ⟨pa,va⟩:=qh
  refine sp ?_
  cases H.out; exact et va 2 [0,1] 1
 refine so<|WP.block<|wg (dw aw none) fun _ _=>?_
 refine ws 2 [1,0] 0 ?_
 refine lq (fun j_ (pc:Int×(List BA)×OV)=>dZ.l0 k a0 a1 j_ pc.1 pc.2.1) (0,([]:List BA),jS) H [1,2] (fun pc=>[(5,eq pc.2.2.1),(6,vI pc.1)]) (fun pc=>[(1,own aw pc.2.2.1 pc.2.1)]) ?_
 rintro j_ ⟨xc,xd,vb⟩ H
 rcases j_ with _ | ja
 ·
  exact (aU.no H).elim
 try dsimp only at H
 rw [dZ.l0] at H
 refine WP.seq<|wr 5 0<|gl 3 [0]<|Dv.fj Q T Q yE<|go 1<|cf H ?_ ?_ <;> intro H
 ·
  refine WP.exit ?_
  have H:=H.out
  exact jn ((xc,decide (xc<(a0.fD.length:Int)),xd),vb) H
 refine WP.skip<|WP.seq<|WP.block<|wr 8 0<|gl 3 [0]<|gr H fun ga H=>Dv.fR Q T Q Q yE lO nV ga.1 ga.2<|iv Q T Q Hl Q<|go 1<|el H fun ta haa H=>cl Q (cL 76) Q (jC.c haa)<|go 1<|so<|cf H ?_ ?_ <;> intro H
 ·
  exact WP.skip<|rg 3 0<|go 3<|bk ja (av (xc+1),xd,vb) H
 refine rg 10 256<|gl 4 [0]<|gr H fun gb H=>Dv.fR Q T Q Q yE lO nV gb.1 gb.2<|fr Q T Q uL Q<|kI Q T Q oc Q<|Dv.lit aw ([(aK.K.at a0.fD xc).ab]:List BA) (css:=[[vS ((aK.K.at a0.fD xc).ab)]]) Q T dj U9 c9 z9 Q dc dc Q ⟨(cells_one (ah Q)),T⟩ Q Q Q<|gr H fun gi H=>ap aw 1 ([(aK.K.at a0.fD xc).ab]:List BA) bF dj (.inr ⟨_,dj⟩) rM gi nofun fun vd=>?_
 exact go 1<|rg 3 0<|go 3<|bk ja (av (xc+1),xd++([(aK.K.at a0.fD xc).ab]:List BA),vd) H
theorem dP.c (h:dP.f k a0 a1 a2=some r):Pt prog 28 [agg (bA.enc a0),vS a1,vS a2] (vB r):=by
 refine pf func28 h fun R0 F H=>?_
 refine wr 2 1<|Dv.box Q T Q cA nofun fun ba=>go 1<|wr 4 4<|gl 2 [0]<|el H fun ta haa H=>cx 1 [0] (cL 78) (dZ.c haa) nofun fun ga _=>?_
 refine go 1<|WP.sT H id (fun pa=>[]) (fun pa=>[aC ba 33 (bA.enc a0),own aw ga.1 ta]++F) (fun pa H=>?_) (fun H=>?_)
 ·
  refine sp ?_
  cases H.out; exact ek 2
 refine so<|WP.block<|ws 2 [1,0] 0 ?_
 refine lq (fun j_ (pc:Int)=>dP.l0 k a0 a2 ta j_ pc) 0 H [2,3,7] (fun pc=>[(8,vI pc)]) (fun _=>[]) ?_
 rintro j_ xc H
 rcases j_ with _ | ja
 ·
  exact (aU.no H).elim
 try dsimp only at H
 rw [dP.l0] at H
 refine WP.seq<|wr 4 0<|go 2<|Dv.kl Q T Q (aa 1 Q) dj<|go 1<|cf H ?_ ?_ <;> intro H
 ·
  refine WP.exit ?_
  have H:=H.out
  exact jn (xc,decide (xc<(ta.length:Int))) H
 refine WP.skip<|WP.seq<|WP.block<|wd mX 8 0<|gl 3 [0]<|gr H fun gb H=>?_
 have hac:xc.toNat<ta.length:=bq gb
 refine Dv.jQ Q T Q (aa 1 Q) Q dj U9 c9 gb.1 gb.2<|Dv.na (j:=xc.toNat) (f:=0) (p:=vS (ta.getD xc.toNat default)) Q T Q (aa 1 Q) hac U9 Q Q<|go 1<|el H fun tc had H=>cl Q (cL 27) Q (er.c had)<|go 1<|so<|cf H ?_ ?_ <;> intro H
 ·
  exact WP.skip<|rg 3 0<|go 3<|bk ja (av (xc+1)) H
 refine sp ?_
 have H:=H.eR
 cases H.out; exact ek 2
theorem kc.c (h:kc.f k a0 a1 a2=some r):Pt prog 134 [sl aw a0,vI a1,vS a2] (vI r):=by
 refine pf func134 h fun R0 F H=>?_
 refine so<|sr H id [] (fun _=>[]) (fun _=>[]) (fun pa H=>?_) (fun H=>?_)
 ·
  refine sp ?_
  cases H.out; exact ek 0
 refine wr 4 0<|go 1<|Dv.fj Q T Q dj<|go 2<|WP.block<|ws 0 [] 0 ?_
 refine lq (fun j_ (pc:Int)=>kc.l0 k a0 a1 a2 j_ pc) (av ((a0.length:Int)-1)) H [0,1,2] (fun pc=>[(7,vI pc)]) (fun _=>[]) ?_
 rintro j_ xc H
 rcases j_ with _ | ja
 ·
  exact (aU.no H).elim
 try dsimp only at H
 rw [kc.l0] at H
 refine WP.seq<|so<|cf H ?_ ?_ <;> intro H
 ·
  refine WP.exit ?_
  have H:=H.out
  exact jn (xc,decide (0≤xc)) H
 refine WP.skip<|WP.seq<|WP.block<|wr 6 0<|go 2<|gr H fun ga H=>Dv.fR Q T Q Q dj U9 c9 ga.1 ga.2<|kI Q T Q oc Q<|go 2<|cf H ?_ ?_ <;> intro H
 ·
  exact WP.skip<|rg 3 0<|go 3<|bk ja (av (xc-1)) H
 refine sp ?_
 have H:=H.eR
 cases H.out; exact ek 0
theorem iI.c (h:iI.f k a0=some r):Tr prog 135 [sl jO.K a0] [] (γ:=OV) (fun _=>True) (fun g=>eq g.1) (fun g=>[own aw g.1 r]):=by
 refine tf func135 h fun R0 F H=>?_
 refine so<|so<|WP.jh H (fun qh:(Int×Bool×(List BA))×OV=>qh.1) (fun qh=>[(3,eq qh.2.1)]) (fun qh=>[own aw qh.2.1 qh.1.2.2]++F) (fun qh H=>?_) (fun H=>?_)
 ·
  obtain ⟨pa,va⟩:=qh
  refine sp ?_
  cases H.out; exact et va 1 [0] 0
 refine so<|WP.block<|wg (dw aw none) fun _ _=>?_
 refine ws 1 [0] 0 ?_
 refine lq (fun j_ (pc:Int×(List BA)×OV)=>iI.l0 k a0 j_ pc.1 pc.2.1) (0,([]:List BA),jS) H [0] (fun pc=>[(3,eq pc.2.2.1),(4,vI pc.1)]) (fun pc=>[(0,own aw pc.2.2.1 pc.2.1)]) ?_
 rintro j_ ⟨xc,xd,vb⟩ H
 rcases j_ with _ | ja
 ·
  exact (aU.no H).elim
 try dsimp only at H
 rw [iI.l0] at H
 refine WP.seq<|wr 4 0<|go 2<|Dv.fj Q T Q Da<|go 1<|cf H ?_ ?_ <;> intro H
 ·
  refine WP.exit ?_
  have H:=H.out
  exact jn ((xc,decide (xc<(a0.length:Int)),xd),vb) H
 refine WP.skip<|WP.seq<|WP.block<|rg 9 128<|go 3<|gr H fun ga H=>Dv.fR Q T Q Q Da rL xz ga.1 ga.2<|iv Q T Q sg116 Q<|el H fun ta haa H=>cl Q (cL 49) Q (iN.c haa)<|Dv.lit aw ([ta]:List BA) (css:=[[vS ta]]) Q T dj U9 c9 z9 Q dc dc Q ⟨(cells_one (ah Q)),T⟩ Q Q Q<|gr H fun gb H=>ap aw 0 ([ta]:List BA) bF dj (.inr ⟨_,dj⟩) rM gb nofun fun vd=>?_
 exact go 1<|rg 3 0<|go 3<|bk ja (av (xc+1),xd++([ta]:List BA),vd) H
theorem fS.c (h:fS.f k a0 a1 a2=some r):Pt prog 68 [agg (dy.enc a0),vI a1,vS a2] (vB r):=by
 refine pf func68 h fun R0 F H=>?_
 refine wr 2 1<|Dv.box Q T Q cA nofun fun ba=>go 1<|WP.seq<|dgo mX [0,1,3,4,5,7,2,6,8,9] [2]<|gl 6 [0,0]<|el H fun ta haa H=>Dv.yq (pre:=[]) (F:=[aC ba 43 [sl aK.K a0.fV.fD,sl MK.K a0.fM,sl ak.K a0.fT.fL,sl bJ a0.fT.cH,sl ak.K a0.fP.fL,sl (bz .i64) a0.fP.cH,sl jO.K a0.fL,vI a0.aL]]++F) (fun ga:OV=>[own aw ga.1 ta,aC ba 43 [sl aK.K a0.fV.fD,sl MK.K a0.fM,sl ak.K a0.fT.fL,sl bJ a0.fT.cH,sl ak.K a0.fP.fL,sl (bz .i64) a0.fP.cH,sl jO.K a0.fL,vI a0.aL]]++F) Q T (cL 135) Q (iI.c haa) (lK (L:=[aC ba 43 [sl aK.K a0.fV.fD,sl MK.K a0.fM,sl ak.K a0.fT.fL,sl bJ a0.fT.cH,sl ak.K a0.fP.fL,sl (bz .i64) a0.fP.cH,sl jO.K a0.fL,vI a0.aL]]) (F:=F) [0] Q Q Q) Q pE (fun ga _=>?_)
 refine el H fun tc hac H=>pN (B:=[own aw ga.1 ta]) 2 [0,1] (cL 134) (Pt.xD _ (kc.c hac) (.cons (pI (aa 0 Q)) (.cons rn (.cons rn .nil))) lT) ?_
 refine gq 2 ?_
 cases H.out; exact ek 2
theorem gT.c (h:gT.f k a0 a1=some r):Tr prog 69 [sl aw a0,vS a1] [] (γ:=OV) (fun _=>True) (fun g=>eq g.1) (fun g=>[own aw g.1 r]):=by
 refine tf func69 h fun R0 F H=>?_
 refine so<|so<|so<|WP.jh H (fun qh:(Bool×Int×Bool×(List BA))×OV=>qh.1) (fun qh=>[(1,vS a1),(5,eq qh.2.1),(6,vB qh.1.1)]) (fun qh=>[own aw qh.2.1 qh.1.2.2.2]++F) (fun qh H=>?_) (fun H=>?_)
 ·
  obtain ⟨pa,va⟩:=qh
  refine WP.seq<|so<|cf H ?_ ?_ <;> intro H
  ·
   refine WP.skip<|sp ?_
   cases H.out; exact et va 1 [0] 0
  refine rg 5 8<|go 2<|Dv.lit aw ([a1]:List BA) (css:=[[vS a1]]) Q T dj U9 c9 z9 Q dc dc Q ⟨(cells_one (ah Q)),T⟩ Q Q Q<|gr H fun ga H=>ap aw 0 ([a1]:List BA) bF dj (.inr ⟨_,dj⟩) rM ga nofun fun vb=>?_
  refine go 1<|sp ?_
  cases H.out; exact et vb 1 [0] 0
 refine so<|WP.block<|wg (dw aw none) fun _ _=>?_
 refine ws 1 [0] 0 ?_
 refine lq (fun j_ (pc:Bool×Int×(List BA)×OV)=>gT.l0 k a0 a1 j_ pc.1 pc.2.1 pc.2.2.1) (false,0,([]:List BA),jS) H [0,1] (fun pc=>[(5,eq pc.2.2.2.1),(6,vB pc.1),(7,vI pc.2.1)]) (fun pc=>[(0,own aw pc.2.2.2.1 pc.2.2.1)]) ?_
 rintro j_ ⟨xc,xd,xe,vd⟩ H
 rcases j_ with _ | ja
 ·
  exact (aU.no H).elim
 try dsimp only at H
 rw [gT.l0] at H
 refine WP.seq<|wr 4 0<|go 2<|Dv.fj Q T Q dj<|go 1<|cf H ?_ ?_ <;> intro H
 ·
  refine WP.exit ?_
  have H:=H.out
  exact jn ((xc,xd,decide (xd<(a0.length:Int)),xe),vd) H
 refine WP.skip<|WP.seq<|WP.block<|WP.jh H (fun qi:(Bool×Bool×(List BA))×OV=>qi.1) (fun qi=>[(0,sl aw a0),(1,vS a1),(5,eq qi.2.1),(6,vB qi.1.1),(7,vI xd)]) (fun qi=>[own aw qi.2.1 qi.1.2.2]++F) (fun qi H=>?_) (fun H=>?_)
 ·
  obtain ⟨pe,ve⟩:=qi
  refine wr 6 0<|go 2<|gr H fun gb H=>Dv.fR Q T Q Q dj U9 c9 gb.1 gb.2<|kI Q T Q oc Q<|go 2<|cf H ?_ ?_ <;> intro H
  ·
   exact WP.skip<|rg 3 0<|go 3<|bk ja (pe.1,av (xd+1),pe.2.2,ve) H
  refine rg 8 64<|go 3<|gr H fun gi H=>Dv.fR Q T Q Q dj U9 c9 gi.1 gi.2<|kI Q T Q oc Q<|Dv.lit aw ([aw.at a0 xd]:List BA) (css:=[[vS (aw.at a0 xd)]]) Q T dj U9 c9 z9 Q dc dc Q ⟨(cells_one (ah Q)),T⟩ Q Q Q<|gr H fun gj H=>ap aw 0 ([aw.at a0 xd]:List BA) bF dj (.inr ⟨_,dj⟩) rM gj nofun fun vh=>?_
  exact go 1<|rg 3 0<|go 3<|bk ja (pe.1,av (xd+1),pe.2.2++([aw.at a0 xd]:List BA),vh) H
 refine wr 10 0<|gp 3 ?_
 cases cc:!xc
 ·
  have H:=H.cf cc
  refine go 7<|WP.cond Q nofun (fun _=>?_)
  refine WP.skip ?_
  have H:=H.out
  exact jn ((xc,false,xe),vd) H
 have H:=H.ct cc
 refine go 3<|gr H fun gk H=>Dv.fR Q (gg Q) Q Q dj U9 c9 gk.1 gk.2<|kI Q (gg Q) Q oc Q<|go 2<|cf H ?_ ?_ <;> intro H
 ·
  refine WP.skip ?_
  have H:=H.out
  exact jn ((xc,!dJ (aw.at a0 xd) a1,xe),vd) H
 refine wr 5 8<|go 2<|Dv.lit aw ([a1]:List BA) (css:=[[vS a1]]) Q T dj U9 c9 z9 Q dc dc Q ⟨(cells_one (ah Q)),T⟩ Q Q Q<|gr H fun gm H=>ap aw 0 ([a1]:List BA) bF dj (.inr ⟨_,dj⟩) rM gm nofun fun vi=>?_
 refine go 1<|rg 1 0<|gq 1 ?_
 have H:=H.out
 exact jn ((true,!dJ (aw.at a0 xd) a1,xe++([a1]:List BA)),vi) H
theorem tJ.c (h:tJ.f a0 a1=some r):Pt prog 136 [agg (ak.enc a0),vI a1] (vI r):=by
 refine pf func136 h fun R0 F H=>?_
 refine wr 2 1<|Dv.box Q T Q cA nofun fun ba=>go 1<|WP.seq<|wr 10 0<|kX 4 [0] ?_
 cases cc:(a0.aX==2)
 ·
  have H:=H.cf cc
  refine go 6<|WP.cond Q nofun (fun _=>?_)
  refine WP.skip<|WP.seq<|wr 10 0<|kX 4 [0] ?_
  cases cg:decide (0<a0.aX)
  ·
   have H:=H.cf cg
   refine go 6<|WP.cond Q nofun (fun _=>?_)
   refine WP.skip<|sp ?_
   cases H.out; exact ek 1
  have H:=H.ct cg
  refine gl 6 [0]<|ce H ?_ ?_ <;> intro H
  ·
   refine sp ?_
   cases H.out; exact ek 1
  refine WP.skip<|sp ?_
  cases H.out; exact ek 1
 have H:=H.ct cc
 refine gl 6 [0]<|ce H ?_ ?_ <;> intro H
 ·
  refine sp ?_
  cases H.out; exact ek 1
 refine WP.skip<|WP.seq<|wr 10 0<|kX 4 [0] ?_
 cases ci:decide (0<a0.aX)
 ·
  have H:=H.cf ci
  refine go 6<|WP.cond Q nofun (fun _=>?_)
  refine WP.skip<|sp ?_
  cases H.out; exact ek 1
 have H:=H.ct ci
 refine gl 6 [0]<|ce H ?_ ?_ <;> intro H
 ·
  refine sp ?_
  cases H.out; exact ek 1
 refine WP.skip<|sp ?_
 cases H.out; exact ek 1
theorem dz.c (h:dz.f k a0 a1 a2=some r):Pt prog 70 [agg (lF.enc a0),vS a1,vI a2] (vI r):=by
 refine pf func70 h fun R0 F H=>?_
 refine wr 2 1<|Dv.box Q T Q cA nofun fun ba=>go 1<|sr H id [] (fun _=>[]) (fun _=>[]) (fun pa H=>?_) (fun H=>?_)
 ·
  refine sp ?_
  cases H.out; exact ek 1
 refine so<|WP.block<|ws 1 [0] 0 ?_
 refine lq (fun j_ (pc:Int)=>dz.l0 k a0 a1 a2 j_ pc) 0 H [1,2,3] (fun pc=>[(7,vI pc)]) (fun _=>[]) ?_
 rintro j_ xc H
 rcases j_ with _ | ja
 ·
  exact (aU.no H).elim
 try dsimp only at H
 rw [dz.l0] at H
 refine WP.seq<|wr 5 0<|gl 3 [0]<|Dv.fj Q T Q eW<|go 1<|cf H ?_ ?_ <;> intro H
 ·
  refine WP.exit ?_
  have H:=H.out
  exact jn (xc,decide (xc<(a0.fL.length:Int))) H
 refine WP.skip<|WP.seq<|WP.block<|wr 8 0<|gl 3 [0]<|gr H fun ga H=>Dv.fR Q T Q Q eW gN iy ga.1 ga.2<|fr Q T Q zM Q<|kI Q T Q oc Q<|go 2<|cf H ?_ ?_ <;> intro H
 ·
  exact WP.skip<|rg 3 0<|go 3<|bk ja (av (xc+1)) H
 refine wr 8 0<|gl 3 [0]<|gr H fun gb H=>Dv.fR Q T Q Q eW gN iy gb.1 gb.2<|iv Q T Q uZ Q<|go 1<|el H fun ta haa H=>cl Q (cL 136) Q (tJ.c haa)<|gq 1 ?_
 have H:=H.eR
 cases H.out; exact ek 1
end Go.Proofs.YtfknmdelgepbjaaGreatDoor
