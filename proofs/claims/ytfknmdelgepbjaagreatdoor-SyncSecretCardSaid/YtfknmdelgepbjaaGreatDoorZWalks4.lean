import Derived.Test.YtfknmdelgepbjaaGreatDoorZTab
import Derived.Test.YtfknmdelgepbjaaGreatDoorZWalks3
import Derived.Test.YtfknmdelgepbjaaGreatDoorConQ
import Derived.Test.YtfknmdelgepbjaaGreatDoorConA6
import Derived.Test.YtfknmdelgepbjaaGreatDoorConC4
import Derived.Lib.Join
import Derived.Eval
set_option linter.all false
set_option autoImplicit true
set_option maxRecDepth 10000
set_option maxHeartbeats 20000000
namespace Go.Proofs.YtfknmdelgepbjaaGreatDoor
open Go Go.Sp Tryz
theorem db.c (h:db.f k a0 a1=some r):Pt prog 19 [sl aH a0,sl aH a1] (vB r):=by
 refine pf func19 h fun R0 F H=>?_
 refine so<|WP.seq<|wr 5 0<|go 1<|Dv.fg Q T Q dW<|go 1<|Dv.fg Q T Q dW<|go 1<|ce H ?_ ?_ <;> intro H
 ·
  refine sp ?_
  cases H.out; exact ek 0
 refine WP.skip<|sr H id [] (fun _=>[]) (fun _=>[]) (fun pa H=>?_) (fun H=>?_)
 ·
  refine sp ?_
  cases H.out; exact ek 0
 refine so<|WP.block<|ws 0 [] 0 ?_
 refine lq (fun j_ (pc:Int)=>db.l0 k a0 a1 j_ pc) 0 H [0,1] (fun pc=>[(5,vI pc)]) (fun _=>[]) ?_
 rintro j_ xc H
 rcases j_ with _ | ja
 ·
  exact (aV.no H).elim
 try dsimp only at H
 rw [db.l0] at H
 refine WP.seq<|wr 4 0<|go 2<|Dv.fg Q T Q dW<|go 1<|cf H ?_ ?_ <;> intro H
 ·
  refine WP.exit ?_
  have H:=H.out
  exact jn (xc,decide (xc<(a0.length:Int))) H
 refine WP.skip<|WP.seq<|WP.block<|wd mX 9 0<|go 2<|gr H fun ga H=>Dv.iY Q T Q Q dW U9 c9 ga.1 ga.2<|mj Q T Q qt Q<|go 2<|gr H fun gb H=>Dv.iY Q T Q Q dW U9 c9 gb.1 gb.2<|mj Q T Q qt Q<|go 1<|cf H ?_ ?_ <;> intro H
 ·
  exact WP.skip<|rg 3 0<|go 3<|bk ja (aw (xc+1)) H
 refine sp ?_
 have H:=H.fH
 cases H.out; exact ek 0
theorem gW.c (h:gW.f k a0 a1=some r):Pt prog 26 [sl MK.K a0,sl MK.K a1] (vB r):=by
 refine pf func26 h fun R0 F H=>?_
 refine so<|WP.seq<|wr 5 0<|go 1<|Dv.fg Q T Q sS<|go 1<|Dv.fg Q T Q sS<|go 1<|ce H ?_ ?_ <;> intro H
 ·
  refine sp ?_
  cases H.out; exact ek 0
 refine WP.skip<|sr H id [] (fun _=>[]) (fun _=>[]) (fun pa H=>?_) (fun H=>?_)
 ·
  refine sp ?_
  cases H.out; exact ek 0
 refine so<|WP.block<|ws 0 [] 0 ?_
 refine lq (fun j_ (pc:Int)=>gW.l0 k a0 a1 j_ pc) 0 H [0,1] (fun pc=>[(5,vI pc)]) (fun _=>[]) ?_
 rintro j_ xc H
 rcases j_ with _ | ja
 ·
  exact (aV.no H).elim
 try dsimp only at H
 rw [gW.l0] at H
 refine WP.seq<|wr 4 0<|go 2<|Dv.fg Q T Q sS<|go 1<|cf H ?_ ?_ <;> intro H
 ·
  refine WP.exit ?_
  have H:=H.out
  exact jn (xc,decide (xc<(a0.length:Int))) H
 refine WP.skip<|WP.seq<|WP.block<|wd mX 9 0<|go 2<|gr H fun ga H=>Dv.iY Q T Q Q sS AH FJ ga.1 ga.2<|kM Q T Q sg83 Q<|go 2<|gr H fun gb H=>Dv.iY Q T Q Q sS AH FJ gb.1 gb.2<|kM Q T Q sg83 Q<|Dv.nes [.string (((MK.K.at a0 xc).fK).aa),.string (((MK.K.at a0 xc).fK).ai),.string (((MK.K.at a0 xc).fK).ae),.bool (((MK.K.at a0 xc).fK).ao),.int .i64 (((MK.K.at a0 xc).fY).bq),.string (((MK.K.at a0 xc).fY).cJ)] [.string (((MK.K.at a1 xc).fK).aa),.string (((MK.K.at a1 xc).fK).ai),.string (((MK.K.at a1 xc).fK).ae),.bool (((MK.K.at a1 xc).fK).ao),.int .i64 (((MK.K.at a1 xc).fY).bq),.string (((MK.K.at a1 xc).fY).cJ)] Q T Q Q Q Q eg83 (fun _=>j5 3 dc (fun _=>eqt83 (⟨(MK.K.at a0 xc).fK,(MK.K.at a0 xc).fY⟩:MK) (⟨(MK.K.at a1 xc).fK,(MK.K.at a1 xc).fY⟩:MK)))<|.fin<|cf H ?_ ?_ <;> intro H
 ·
  exact WP.skip<|rg 3 0<|go 3<|bk ja (aw (xc+1)) H
 refine sp ?_
 have H:=H.fH
 cases H.out; exact ek 0
theorem dL.c (h:dL.f k a0 a1=some r):Pt prog 16 [agg (o0.enc a0),agg (o0.enc a1)] (vB r):=by
 refine pf func16 h fun R0 F H=>?_
 refine wr 3 3<|Dv.box Q T Q cA nofun fun ba=>Dv.box Q T Q cA nofun fun bc=>go 1<|wr 6 0<|gl 4 [1,0]<|el H fun ta haa H=>cl Q (cL 26) Q (gW.c haa)<|go 1<|WP.seq<|wr 20 0<|gp 3 ?_
 rcases bm H with ⟨cc,H⟩ | ⟨cc,H⟩
 rotate_left
 ·
  refine sh 15 cc ?_
  refine sh 16 cc ?_
  refine go 17<|WP.cond Q (fun _=>?_) nofun
  refine sp ?_
  cases H.out; exact ek 2
 refine sh 15 cc ?_
 refine sh 16 cc ?_
 refine gl 2 [1]<|Dv.fg Q (gg Q) Q D3<|gl 2 [0]<|Dv.fg Q (gg Q) Q D3<|gp 3 ?_
 rcases bm H with ⟨cg,H⟩ | ⟨cg,H⟩
 rotate_left
 ·
  refine sh 23 cg ?_
  refine sh 24 cg ?_
  refine sh 25 cg ?_
  refine go 8<|WP.cond Q (fun _=>?_) nofun
  refine sp ?_
  cases H.out; exact ek 2
 refine sh 23 cg ?_
 refine sh 24 cg ?_
 refine sh 25 cg ?_
 refine gl 2 [1]<|Dv.fg Q (gg Q) Q Ip<|gl 2 [0]<|Dv.fg Q (gg Q) Q Ip<|go 2<|ce H ?_ ?_ <;> intro H
 ·
  refine sp ?_
  cases H.out; exact ek 2
 refine WP.skip<|sr H id [2,3] (fun _=>[]) (fun _=>[]) (fun pa H=>?_) (fun H=>?_)
 ·
  refine sr H id [] (fun _=>[]) (fun _=>[]) (fun pc H=>?_) (fun H=>?_)
  ·
   refine sp ?_
   cases H.out; exact ek 2
  refine so<|WP.block<|ws 2 [0,1] 0 ?_
  refine lq (fun j_ (pe:Int)=>dL.l0 k a0 a1 j_ pe) 0 H [2,3] (fun pe=>[(8,vI pe)]) (fun _=>[]) ?_
  rintro j_ xc H
  rcases j_ with _ | ja
  ·
   exact (aV.no H).elim
  try dsimp only at H
  rw [dL.l0] at H
  refine WP.seq<|wr 5 0<|gl 3 [1]<|Dv.fg Q T Q Ip<|go 1<|cf H ?_ ?_ <;> intro H
  ·
   refine WP.exit ?_
   have H:=H.out
   exact jn (xc,decide (xc<(a0.bL.length:Int))) H
  refine WP.skip<|WP.seq<|WP.block<|wd mX 11 0<|gl 3 [1]<|gr H fun ga H=>Dv.iY Q T Q Q Ip EE Hr ga.1 ga.2<|kM Q T Q Jh Q<|gl 3 [0]<|gr H fun gb H=>Dv.iY Q T Q Q Ip EE Hr gb.1 gb.2<|kM Q T Q Jh Q<|Dv.nes [.string ((eR.K.at a0.bL xc).ai),.int .i64 ((eR.K.at a0.bL xc).aM)] [.string ((eR.K.at a1.bL xc).ai),.int .i64 ((eR.K.at a1.bL xc).aM)] Q T Q Q Q Q eg158 (fun _=>j5 2 dc (fun _=>J1 (eR.K.at a0.bL xc) (eR.K.at a1.bL xc)))<|.fin<|cf H ?_ ?_ <;> intro H
  ·
   exact WP.skip<|rg 3 0<|go 3<|bk ja (aw (xc+1)) H
  refine sp ?_
  have H:=H.fH
  cases H.out; exact ek 2
 refine so<|WP.block<|ws 2 [0,1] 0 ?_
 refine lq (fun j_ (pg:Int)=>dL.l1 k a0 a1 j_ pg) 0 H [2,3] (fun pg=>[(6,vI pg)]) (fun _=>[]) ?_
 rintro j_ xd H
 rcases j_ with _ | jc
 ·
  exact (aV.no H).elim
 try dsimp only at H
 rw [dL.l1] at H
 refine WP.seq<|wr 5 0<|gl 3 [1]<|Dv.fg Q T Q D3<|go 1<|cf H ?_ ?_ <;> intro H
 ·
  refine WP.exit ?_
  have H:=H.out
  exact jn (xd,decide (xd<(a0.av.length:Int))) H
 refine WP.skip<|WP.seq<|WP.block<|wd mX 14 0<|gl 3 [1]<|gr H fun gc H=>Dv.iY Q T Q Q D3 Bh zJ gc.1 gc.2<|fr Q T Q CF Q<|mj Q T Q IP Q<|gl 3 [0]<|gr H fun gi H=>Dv.iY Q T Q Q D3 Bh zJ gi.1 gi.2<|fr Q T Q CF Q<|mj Q T Q IP Q<|el H fun tc hac H=>cl Q (cL 19) Q (db.c hac)<|go 1<|wd mX 17 0<|gp 3 ?_
 cases ci:!tc
 rotate_left
 ·
  have H:=H.ct ci
  refine go 14<|WP.cond Q (fun _=>?_) nofun
  refine sp ?_
  have H:=H.fH
  cases H.out; exact ek 2
 have H:=H.cf ci
 refine gl 3 [1]<|gr H fun gj H=>Dv.iY Q (gg Q) Q Q D3 Bh zJ gj.1 gj.2<|fr Q (gg Q) Q Cz Q<|mj Q (gg Q) Q qt Q<|gl 3 [0]<|gr H fun gk H=>Dv.iY Q (gg Q) Q Q D3 Bh zJ gk.1 gk.2<|fr Q (gg Q) Q Cz Q<|mj Q (gg Q) Q qt Q<|go 2<|cf H ?_ ?_ <;> intro H
 ·
  exact WP.skip<|rg 3 0<|go 3<|bk jc (aw (xd+1)) H
 refine sp ?_
 have H:=H.fH
 cases H.out; exact ek 2
theorem eo.c (h:eo.f k a0=some r):Pt prog 17 [agg (sX.enc a0)] (agg (o0.enc r)):=by
 refine pf func17 h fun R0 F H=>?_
 refine wr 2 3<|Dv.box Q T Q cA nofun fun ba=>al Q T zc66 nofun fun bc=>.fin<|wr 5 24<|gl 2 [1]<|Dv.lp (qs:=[vI a0.kO,eN,eN,eN]) (css:=[[vI a0.kO]]) Q T U66 pl66 z66 Q ⟨(cells_one (ah Q)),T⟩ Q Q<|al Q T zc66 nofun fun bd=>sy 0 ?_
 refine .fin<|WP.lf H (fun qh:(Int×Bool×(List MK))×OV=>qh.1) (fun qh=>[(1,eP ba),(2,eP bc),(3,eP bd)]) (fun qh=>[aI bd 66 [vI a0.kO,eq qh.2.1,eN,eN],aI bc 66 [vI 0,eN,eN,eN],aI ba 59 (sX.enc a0),own MK.K qh.2.1 qh.1.2.2]++F) (fun qh H=>?_) (fun H=>?_)
 rotate_left
 ·
  refine so<|WP.block<|wg (eD MK.K none) fun _ _=>?_
  refine ws 4 [1,2,3,0] 0 ?_
  refine lq (fun j_ (pa:Int×(List MK)×OV)=>eo.l2 k a0 j_ pa.1 pa.2.1) (0,([]:List MK),lA) H [1,2,3] (fun pa=>[(4,vI pa.1)]) (fun pa=>[(0,aI bd 66 [vI a0.kO,eq pa.2.2.1,eN,eN]),(3,own MK.K pa.2.2.1 pa.2.1)]) ?_
  rintro j_ ⟨xc,xd,va⟩ H
  rcases j_ with _ | ja
  ·
   exact (aV.no H).elim
  try dsimp only at H
  rw [eo.l2] at H
  refine WP.seq<|wr 5 0<|gl 3 [2]<|Dv.fg Q T Q DU<|go 1<|cf H ?_ ?_ <;> intro H
  ·
   refine WP.exit ?_
   have H:=H.out
   exact jn ((xc,decide (xc<(a0.ay.length:Int)),xd),va) H
  refine WP.skip<|WP.seq<|WP.block<|dg mX 19 327680<|gl 5 [0,2]<|gr H fun ga H=>Dv.iY Q T Q Q DU xD AQ ga.1 ga.2<|fr Q T Q KD Q<|kM Q T Q sg89 Q<|gl 3 [2]<|gr H fun gb H=>Dv.iY Q T Q Q DU xD AQ gb.1 gb.2<|fr Q T Q JS Q<|kM Q T Q sg81 Q<|Dv.lp (qs:=[vS (((eQ.K.at a0.ay xc).bY).aa),vS (((eQ.K.at a0.ay xc).bY).ai),vS (((eQ.K.at a0.ay xc).bY).ae),vB (((eQ.K.at a0.ay xc).bY).ao),vI (((eQ.K.at a0.ay xc).fY).bq),vS (((eQ.K.at a0.ay xc).fY).cJ)]) (css:=[bx.enc ((eQ.K.at a0.ay xc).bY),Pos.enc ((eQ.K.at a0.ay xc).fY)]) Q T AH pl83 z83 Q ⟨(aZ (bx.K.one _)),⟨(aZ (Pos.K.one _)),T⟩⟩ Q Q<|Dv.lit MK.K ([(⟨(eQ.K.at a0.ay xc).bY,(eQ.K.at a0.ay xc).fY⟩:MK)]:List MK) (css:=[[vS (((eQ.K.at a0.ay xc).bY).aa),vS (((eQ.K.at a0.ay xc).bY).ai),vS (((eQ.K.at a0.ay xc).bY).ae),vB (((eQ.K.at a0.ay xc).bY).ao),vI (((eQ.K.at a0.ay xc).fY).bq),vS (((eQ.K.at a0.ay xc).fY).cJ)]]) Q T sS AH FJ z83 Q dc dc Q ⟨(aZ (aj (ah Q) (aj (ah Q) (aj (ah Q) (aj (ah Q) (aj (ah Q) (aj (ah Q) bX))))))),T⟩ Q Q Q<|gr H fun gc H=>ap MK.K 3 ([(⟨(eQ.K.at a0.ay xc).bY,(eQ.K.at a0.ay xc).fY⟩:MK)]:List MK) bS sS (.inr ⟨_,sS⟩) zT gc pB fun vb=>?_
  refine go 1<|sx 0 Q T Q Q (cells_one bK) sz34 Q Q Q pB ?_
  exact .fin<|rg 3 0<|go 3<|bk ja (aw (xc+1),xd++([(⟨(eQ.K.at a0.ay xc).bY,(eQ.K.at a0.ay xc).fY⟩:MK)]:List MK),vb) H
 obtain ⟨pc,vd⟩:=qh
 refine WP.lf H (fun qi:(Int×Bool×(List eA))×OV=>qi.1) (fun qi=>[(1,eP ba),(2,eP bc),(3,eP bd)]) (fun qi=>[aI bd 66 [vI a0.kO,eq vd.1,eq qi.2.1,eN],aI bc 66 [vI 0,eN,eN,eN],aI ba 59 (sX.enc a0),own MK.K vd.1 pc.2.2,own eA.K qi.2.1 qi.1.2.2]++F) (fun qi H=>?_) (fun H=>?_)
 rotate_left
 ·
  refine so<|WP.block<|wg (eD eA.K none) fun _ _=>?_
  refine ws 5 [1,2,3,4,0] 0 ?_
  refine lq (fun j_ (pe:Int×(List eA)×OV)=>eo.l1 k a0 j_ pe.1 pe.2.1) (0,([]:List eA),lA) H [1,2,3] (fun pe=>[(5,vI pe.1)]) (fun pe=>[(0,aI bd 66 [vI a0.kO,eq vd.1,eq pe.2.2.1,eN]),(4,own eA.K pe.2.2.1 pe.2.1)]) ?_
  rintro j_ ⟨xe,xf,ve⟩ H
  rcases j_ with _ | jc
  ·
   exact (aV.no H).elim
  try dsimp only at H
  rw [eo.l1] at H
  refine WP.seq<|wr 5 0<|gl 3 [2]<|Dv.fg Q T Q Gd<|go 1<|cf H ?_ ?_ <;> intro H
  ·
   refine WP.exit ?_
   have H:=H.out
   exact jn ((xe,decide (xe<(a0.av.length:Int)),xf),ve) H
  refine WP.skip<|WP.seq<|WP.block<|dg mX 11 1280<|gl 5 [0,2]<|gr H fun gi H=>Dv.iY Q T Q Q Gd KR c94 gi.1 gi.2<|kM Q T Q Ko Q<|Dv.lit eA.K ([eA.K.at a0.av xe]:List eA) (css:=[eA.enc (eA.K.at a0.av xe)]) Q T D3 Bh zJ z156 Q dc dc Q ⟨(aZ (eA.K.one _)),T⟩ Q Q Q<|gr H fun gj H=>ap eA.K 4 ([eA.K.at a0.av xe]:List eA) bS D3 (.inr ⟨_,D3⟩) JI gj pB fun vh=>?_
  refine go 1<|sx 0 Q T Q Q (cells_one bK) sz63 Q Q Q pB ?_
  exact .fin<|rg 3 0<|go 3<|bk jc (aw (xe+1),xf++([eA.K.at a0.av xe]:List eA),vh) H
 obtain ⟨pg,vi⟩:=qi
 refine WP.lf H (fun qj:(Int×Bool×(List eR))×OV=>qj.1) (fun qj=>[(2,eP bc),(3,eP bd)]) (fun qj=>[aI bd 66 [vI a0.kO,eq vd.1,eq vi.1,eq qj.2.1],aI bc 66 [vI 0,eN,eN,eN],aI ba 59 (sX.enc a0),own MK.K vd.1 pc.2.2,own eA.K vi.1 pg.2.2,own eR.K qj.2.1 qj.1.2.2]++F) (fun qj H=>?_) (fun H=>?_)
 ·
  obtain ⟨ph,vj⟩:=qj
  refine wr 2 2<|gl 1 [0]<|sy 1 ?_
  refine .fin<|fz 3 [2] [1,1] ?_
  refine fz 3 [2] [1,1] ?_
  refine fz 3 [2] [1,1] ?_
  cases H.out; exact r3 i2 Q (.cons (au Q U66 Q c66 (ab 1 Q) Q) .nil)
 refine so<|WP.block<|wg (eD eR.K none) fun _ _=>?_
 refine ws 6 [1,2,3,4,5,0] 0 ?_
 refine lq (fun j_ (pi:Int×(List eR)×OV)=>eo.l0 k a0 j_ pi.1 pi.2.1) (0,([]:List eR),lA) H [1,2,3] (fun pi=>[(6,vI pi.1)]) (fun pi=>[(0,aI bd 66 [vI a0.kO,eq vd.1,eq vi.1,eq pi.2.2.1]),(5,own eR.K pi.2.2.1 pi.2.1)]) ?_
 rintro j_ ⟨xg,xi,vk⟩ H
 rcases j_ with _ | jd
 ·
  exact (aV.no H).elim
 try dsimp only at H
 rw [eo.l0] at H
 refine WP.seq<|wr 5 0<|gl 3 [2]<|Dv.fg Q T Q EB<|go 1<|cf H ?_ ?_ <;> intro H
 ·
  refine WP.exit ?_
  have H:=H.out
  exact jn ((xg,decide (xg<(a0.bL.length:Int)),xi),vk) H
 refine WP.skip<|WP.seq<|WP.block<|dg mX 11 1280<|gl 5 [0,2]<|gr H fun gk H=>Dv.iY Q T Q Q EB JV c96 gk.1 gk.2<|kM Q T Q KE Q<|Dv.lit eR.K ([eR.K.at a0.bL xg]:List eR) (css:=[eR.enc (eR.K.at a0.bL xg)]) Q T Ip EE Hr z158 Q dc dc Q ⟨(aZ (eR.K.one _)),T⟩ Q Q Q<|gr H fun gm H=>ap eR.K 5 ([eR.K.at a0.bL xg]:List eR) bS Ip (.inr ⟨_,Ip⟩) JN gm pB fun vl=>?_
 refine go 1<|sx 0 Q T Q Q (cells_one bK) sz64 Q Q Q pB ?_
 exact .fin<|rg 3 0<|go 3<|bk jd (aw (xg+1),xi++([eR.K.at a0.bL xg]:List eR),vl) H
theorem oi.c (h:oi.f=some r):Tr prog 22 [] [lax] (γ:=Unit) (fun _=>True) (fun g=>vB r) (fun g=>[lax]):=by
 refine tf func22 h fun R0 F H=>?_
 refine so<|wr 12 0<|Dv.lp (qs:=[vS (⟨#[33,114,58,115]⟩:BA),vS (⟨#[64,97,58,115]⟩:BA),vS eE,vB true]) (css:=[[vS (⟨#[33,114,58,115]⟩:BA)],[vS (⟨#[64,97,58,115]⟩:BA)],[vB true]]) Q T EK Ia z89 Q ⟨(cells_one (ah Q)),⟨(cells_one (ah Q)),⟨(cells_one (ah Q)),T⟩⟩⟩ Q Q<|el H fun ta haa H=>px 1 [0] (cL 41) (iz.c haa) ?_
 refine gp 2 ?_
 rcases bm H with ⟨cc,H⟩ | ⟨cc,H⟩
 ·
  refine sh 3 cc ?_
  refine sh 4 cc ?_
  refine gq 8 ?_
  cases H.out; exact et () 1 [0] 0
 refine sh 3 cc ?_
 refine sh 4 cc ?_
 refine el H fun tc hac H=>Dv.call Q (gg Q) (cL 44) Q (jx.c hac)<|gp 3 ?_
 rcases bm H with ⟨cg,H⟩ | ⟨cg,H⟩
 ·
  refine sh 6 cg ?_
  refine sh 7 cg ?_
  refine sh 8 cg ?_
  refine gq 4 ?_
  cases H.out; exact et () 1 [0] 0
 refine sh 6 cg ?_
 refine sh 7 cg ?_
 refine sh 8 cg ?_
 refine el H fun te had H=>Dv.call Q (gg Q) (cL 47) Q (jg.c had)<|gq 3 ?_
 cases H.out; exact et () 1 [0] 0
theorem bz.c (h:bz.f k a0 a1=some r):Pt prog 80 [sl aH a0,sl aH a1] (vB r):=by
 refine pf func80 h fun R0 F H=>?_
 refine so<|WP.seq<|wr 5 0<|go 1<|Dv.fg Q T Q dW<|go 1<|Dv.fg Q T Q dW<|go 1<|ce H ?_ ?_ <;> intro H
 ·
  refine sp ?_
  cases H.out; exact ek 0
 refine WP.skip<|sr H id [] (fun _=>[]) (fun _=>[]) (fun pa H=>?_) (fun H=>?_)
 ·
  refine sp ?_
  cases H.out; exact ek 0
 refine wr 3 0<|go 1<|Dv.fg Q T Q dW<|go 1<|WP.block<|ws 0 [] 0 ?_
 refine lq (fun j_ (pc:Int)=>bz.l0 k a0 a1 j_ pc) 0 H [0,1,12] (fun pc=>[(13,vI pc)]) (fun _=>[]) ?_
 rintro j_ xc H
 rcases j_ with _ | ja
 ·
  exact (aV.no H).elim
 try dsimp only at H
 rw [bz.l0] at H
 refine so<|WP.seq<|cf H ?_ ?_ <;> intro H
 ·
  refine WP.exit ?_
  have H:=H.out
  exact jn (xc,decide (xc<(a0.length:Int))) H
 refine WP.skip<|WP.seq<|WP.block<|so<|wd mX 9 0<|go 2<|gr H fun ga H=>Dv.iY Q T Q Q dW U9 c9 ga.1 ga.2<|mj Q T Q qt Q<|go 2<|gr H fun gb H=>Dv.iY Q T Q Q dW U9 c9 gb.1 gb.2<|mj Q T Q qt Q<|go 1<|cf H ?_ ?_ <;> intro H
 ·
  exact WP.skip<|rg 2 0<|go 2<|bk ja (aw (xc+1)) H
 refine sp ?_
 have H:=H.fH
 cases H.out; exact ek 0
theorem iW.c (h:iW.f k a0 a1=some r):Pt prog 79 [agg (eA.enc a0),agg (eA.enc a1)] (vB r):=by
 refine pf func79 h fun R0 F H=>?_
 refine wr 3 3<|Dv.box Q T Q cA nofun fun ba=>Dv.box Q T Q cA nofun fun bc=>go 1<|wr 13 0<|kK 6 [1,0] ?_
 rcases bm H with ⟨cc,H⟩ | ⟨cc,H⟩
 ·
  refine sh 9 cc ?_
  refine sh 10 cc ?_
  refine gq 7 ?_
  cases H.out; exact ek 2
 refine sh 9 cc ?_
 refine sh 10 cc ?_
 refine gl 4 [1,0]<|el H fun ta haa H=>Dv.call Q (gg Q) (cL 80) Q (bz.c haa)<|gq 2 ?_
 cases H.out; exact ek 2
theorem bM.c (h:bM.f k a0 a1=some r):Pt prog 81 [sl eQ.K a0,sl eQ.K a1] (vB r):=by
 refine pf func81 h fun R0 F H=>?_
 refine so<|WP.seq<|wr 5 0<|go 1<|Dv.fg Q T Q DU<|go 1<|Dv.fg Q T Q DU<|go 1<|ce H ?_ ?_ <;> intro H
 ·
  refine sp ?_
  cases H.out; exact ek 0
 refine WP.skip<|sr H id [] (fun _=>[]) (fun _=>[]) (fun pa H=>?_) (fun H=>?_)
 ·
  refine sp ?_
  cases H.out; exact ek 0
 refine wr 3 0<|go 1<|Dv.fg Q T Q DU<|go 1<|WP.block<|ws 0 [] 0 ?_
 refine lq (fun j_ (pc:Int)=>bM.l0 k a0 a1 j_ pc) 0 H [0,1,12] (fun pc=>[(13,vI pc)]) (fun _=>[]) ?_
 rintro j_ xc H
 rcases j_ with _ | ja
 ·
  exact (aV.no H).elim
 try dsimp only at H
 rw [bM.l0] at H
 refine so<|WP.seq<|cf H ?_ ?_ <;> intro H
 ·
  refine WP.exit ?_
  have H:=H.out
  exact jn (xc,decide (xc<(a0.length:Int))) H
 refine WP.skip<|WP.seq<|WP.block<|so<|wd mX 9 0<|go 2<|gr H fun ga H=>Dv.iY Q T Q Q DU xD AQ ga.1 ga.2<|kM Q T Q sg91 Q<|go 2<|gr H fun gb H=>Dv.iY Q T Q Q DU xD AQ gb.1 gb.2<|kM Q T Q sg91 Q<|Dv.nes [.string (((eQ.K.at a0 xc).bY).aa),.string (((eQ.K.at a0 xc).bY).ai),.string (((eQ.K.at a0 xc).bY).ae),.bool (((eQ.K.at a0 xc).bY).ao),.int .i64 (((eQ.K.at a0 xc).fY).bq),.string (((eQ.K.at a0 xc).fY).cJ)] [.string (((eQ.K.at a1 xc).bY).aa),.string (((eQ.K.at a1 xc).bY).ai),.string (((eQ.K.at a1 xc).bY).ae),.bool (((eQ.K.at a1 xc).bY).ao),.int .i64 (((eQ.K.at a1 xc).fY).bq),.string (((eQ.K.at a1 xc).fY).cJ)] Q T Q Q Q Q eg91 (fun _=>j5 3 dc (fun _=>eqt91 (⟨(eQ.K.at a0 xc).bY,(eQ.K.at a0 xc).fY⟩:eQ) (⟨(eQ.K.at a1 xc).bY,(eQ.K.at a1 xc).fY⟩:eQ)))<|.fin<|cf H ?_ ?_ <;> intro H
 ·
  exact WP.skip<|rg 2 0<|go 2<|bk ja (aw (xc+1)) H
 refine sp ?_
 have H:=H.fH
 cases H.out; exact ek 0
theorem aC.c (h:aC.f k a0 a1 a2=some r):Pt prog 82 [sl eA.K a0,sl eA.K a1,lN a2] (vB r):=by
 refine pf func82 h fun R0 F H=>?_
 refine so<|WP.seq<|wr 5 0<|go 1<|Dv.fg Q T Q Gd<|go 1<|Dv.fg Q T Q Gd<|go 1<|ce H ?_ ?_ <;> intro H
 ·
  refine sp ?_
  cases H.out; exact ek 0
 refine WP.skip<|sr H id [] (fun _=>[]) (fun _=>[]) (fun pa H=>?_) (fun H=>?_)
 ·
  refine sp ?_
  cases H.out; exact ek 0
 refine wr 3 0<|go 1<|Dv.fg Q T Q Gd<|go 1<|WP.block<|ws 0 [] 0 ?_
 refine lq (fun j_ (pc:Int)=>aC.l0 k a0 a1 a2 j_ pc) 0 H [1,2,15,16] (fun pc=>[(17,vI pc)]) (fun _=>[]) ?_
 rintro j_ xc H
 rcases j_ with _ | ja
 ·
  exact (aV.no H).elim
 try dsimp only at H
 rw [aC.l0] at H
 refine so<|WP.seq<|cf H ?_ ?_ <;> intro H
 ·
  refine WP.exit ?_
  have H:=H.out
  exact jn (xc,decide (xc<(a0.length:Int))) H
 refine WP.skip<|WP.seq<|WP.block<|wr 6 40<|go 1<|gr H fun ga H=>Dv.iY Q T Q Q Gd KR c94 ga.1 ga.2<|kM Q T Q Ko Q<|al Q T zc94 nofun fun ba=>go 1<|sy 0 ?_
 refine .fin<|wr 6 48<|go 2<|gr H fun gb H=>Dv.iY Q T Q Q Gd KR c94 gb.1 gb.2<|kM Q T Q Ko Q<|al Q T zc94 nofun fun bc=>sy 0 ?_
 refine .fin<|wr 5 0<|gl 3 [1,0]<|el H fun ta haa H=>Dv.rO (ret:=vB ta) Q T Q Q ⟨_,_,_,haa,Q,Q⟩<|go 1<|cf H ?_ ?_ <;> intro H
 ·
  refine WP.skip<|rg 2 0<|go 2<|ns 2 [0,1] 2 ?_
  exact bk ja (aw (xc+1)) H
 refine sp ?_
 have H:=H.fH
 cases H.out; exact ek 2
theorem bB.c (h:bB.f k a0 a1=some r):Pt prog 83 [sl eR.K a0,sl eR.K a1] (vB r):=by
 refine pf func83 h fun R0 F H=>?_
 refine so<|WP.seq<|wr 5 0<|go 1<|Dv.fg Q T Q EB<|go 1<|Dv.fg Q T Q EB<|go 1<|ce H ?_ ?_ <;> intro H
 ·
  refine sp ?_
  cases H.out; exact ek 0
 refine WP.skip<|sr H id [] (fun _=>[]) (fun _=>[]) (fun pa H=>?_) (fun H=>?_)
 ·
  refine sp ?_
  cases H.out; exact ek 0
 refine wr 3 0<|go 1<|Dv.fg Q T Q EB<|go 1<|WP.block<|ws 0 [] 0 ?_
 refine lq (fun j_ (pc:Int)=>bB.l0 k a0 a1 j_ pc) 0 H [0,1,12] (fun pc=>[(13,vI pc)]) (fun _=>[]) ?_
 rintro j_ xc H
 rcases j_ with _ | ja
 ·
  exact (aV.no H).elim
 try dsimp only at H
 rw [bB.l0] at H
 refine so<|WP.seq<|cf H ?_ ?_ <;> intro H
 ·
  refine WP.exit ?_
  have H:=H.out
  exact jn (xc,decide (xc<(a0.length:Int))) H
 refine WP.skip<|WP.seq<|WP.block<|so<|wd mX 9 0<|go 2<|gr H fun ga H=>Dv.iY Q T Q Q EB JV c96 ga.1 ga.2<|kM Q T Q KE Q<|go 2<|gr H fun gb H=>Dv.iY Q T Q Q EB JV c96 gb.1 gb.2<|kM Q T Q KE Q<|Dv.nes [.string ((eR.K.at a0 xc).ai),.int .i64 ((eR.K.at a0 xc).aM)] [.string ((eR.K.at a1 xc).ai),.int .i64 ((eR.K.at a1 xc).aM)] Q T Q Q Q Q eg96 (fun _=>j5 2 dc (fun _=>eqt96 (eR.K.at a0 xc) (eR.K.at a1 xc)))<|.fin<|cf H ?_ ?_ <;> intro H
 ·
  exact WP.skip<|rg 2 0<|go 2<|bk ja (aw (xc+1)) H
 refine sp ?_
 have H:=H.fH
 cases H.out; exact ek 0
theorem nh.c (h:nh.f k a0 a1=some r):Pt prog 29 [agg (sX.enc a0),agg (sX.enc a1)] (vB r):=by
 refine pf func29 h fun R0 F H=>?_
 refine wr 3 3<|Dv.box Q T Q cA nofun fun ba=>Dv.box Q T Q cA nofun fun bc=>go 1<|so<|wr 21 0<|gl 4 [1,0]<|el H fun ta haa H=>cl Q (cL 81) Q (bM.c haa)<|gp 1 ?_
 rcases bm H with ⟨cc,H⟩ | ⟨cc,H⟩
 ·
  refine sh 10 cc ?_
  refine sh 11 cc ?_
  refine gq 15 ?_
  cases H.out; exact ek 2
 refine sh 10 cc ?_
 refine sh 11 cc ?_
 refine gl 5 [1,0]<|el H fun tc hac H=>Dv.call Q (gg Q) (cL 82) Q (Pt.jK (aC.c hac) (.cons cM (.cons cM (.cons (v7 (cL 79) (by rintro _ _ ⟨a0_,a1_,r_,h_,rfl,rfl⟩; exact iW.c h_)) .nil))))<|gp 2 ?_
 rcases bm H with ⟨cg,H⟩ | ⟨cg,H⟩
 ·
  refine sh 17 cg ?_
  refine sh 18 cg ?_
  refine sh 19 cg ?_
  refine gq 7 ?_
  cases H.out; exact ek 2
 refine sh 17 cg ?_
 refine sh 18 cg ?_
 refine sh 19 cg ?_
 refine gl 4 [1,0]<|el H fun te had H=>Dv.call Q (gg Q) (cL 83) Q (bB.c had)<|gq 2 ?_
 cases H.out; exact ek 2
end Go.Proofs.YtfknmdelgepbjaaGreatDoor
