import Derived.Test.YtfknmdelgepbjaaGreatDoorZTab
import Derived.Test.YtfknmdelgepbjaaGreatDoorZWalks3
import Derived.Test.YtfknmdelgepbjaaGreatDoorConQ
import Derived.Test.YtfknmdelgepbjaaGreatDoorConA6
import Derived.Test.YtfknmdelgepbjaaGreatDoorConC4
import Derived.Lib.Join
import Derived.Eval
set_option linter.all false
set_option autoImplicit true
set_option maxRecDepth 10000
set_option maxHeartbeats 20000000
namespace Go.Proofs.YtfknmdelgepbjaaGreatDoor
open Go Go.Sp Tryz
theorem cZ.c (h:cZ.f k a0 a1=some r):Pt prog 19 [sl aE a0,sl aE a1] (vB r):=by
 refine pf func19 h fun R0 F H=>?_
 refine so<|WP.seq<|wr 5 0<|go 1<|Dv.eX Q T Q eb<|go 1<|Dv.eX Q T Q eb<|go 1<|ce H ?_ ?_ <;> intro H
 ·
  refine sp ?_
  cases H.out; exact ek 0
 refine WP.skip<|sr H id [] (fun _=>[]) (fun _=>[]) (fun pa H=>?_) (fun H=>?_)
 ·
  refine sp ?_
  cases H.out; exact ek 0
 refine so<|WP.block<|ws 0 [] 0 ?_
 refine lq (fun j_ (pc:Int)=>cZ.l0 k a0 a1 j_ pc) 0 H [0,1] (fun pc=>[(5,vI pc)]) (fun _=>[]) ?_
 rintro j_ xc H
 rcases j_ with _ | ja
 ·
  exact (aW.no H).elim
 try dsimp only at H
 rw [cZ.l0] at H
 refine WP.seq<|wr 4 0<|go 2<|Dv.eX Q T Q eb<|go 1<|cf H ?_ ?_ <;> intro H
 ·
  refine WP.exit ?_
  have H:=H.out
  exact jn (xc,decide (xc<(a0.length:Int))) H
 refine WP.skip<|WP.seq<|WP.block<|wd mX 9 0<|go 2<|gr H fun ga H=>Dv.jA Q T Q Q eb W9 c9 ga.1 ga.2<|mL Q T Q qN Q<|go 2<|gr H fun gb H=>Dv.jA Q T Q Q eb W9 c9 gb.1 gb.2<|mL Q T Q qN Q<|go 1<|cf H ?_ ?_ <;> intro H
 ·
  exact WP.skip<|rg 3 0<|go 3<|bk ja (av (xc+1)) H
 refine sp ?_
 have H:=H.fU
 cases H.out; exact ek 0
theorem gZ.c (h:gZ.f k a0 a1=some r):Pt prog 26 [sl MK.K a0,sl MK.K a1] (vB r):=by
 refine pf func26 h fun R0 F H=>?_
 refine so<|WP.seq<|wr 5 0<|go 1<|Dv.eX Q T Q tH<|go 1<|Dv.eX Q T Q tH<|go 1<|ce H ?_ ?_ <;> intro H
 ·
  refine sp ?_
  cases H.out; exact ek 0
 refine WP.skip<|sr H id [] (fun _=>[]) (fun _=>[]) (fun pa H=>?_) (fun H=>?_)
 ·
  refine sp ?_
  cases H.out; exact ek 0
 refine so<|WP.block<|ws 0 [] 0 ?_
 refine lq (fun j_ (pc:Int)=>gZ.l0 k a0 a1 j_ pc) 0 H [0,1] (fun pc=>[(5,vI pc)]) (fun _=>[]) ?_
 rintro j_ xc H
 rcases j_ with _ | ja
 ·
  exact (aW.no H).elim
 try dsimp only at H
 rw [gZ.l0] at H
 refine WP.seq<|wr 4 0<|go 2<|Dv.eX Q T Q tH<|go 1<|cf H ?_ ?_ <;> intro H
 ·
  refine WP.exit ?_
  have H:=H.out
  exact jn (xc,decide (xc<(a0.length:Int))) H
 refine WP.skip<|WP.seq<|WP.block<|wd mX 9 0<|go 2<|gr H fun ga H=>Dv.jA Q T Q Q tH A0 G4 ga.1 ga.2<|ll Q T Q sg83 Q<|go 2<|gr H fun gb H=>Dv.jA Q T Q Q tH A0 G4 gb.1 gb.2<|ll Q T Q sg83 Q<|Dv.nes [.string (((MK.K.at a0 xc).fK).aa),.string (((MK.K.at a0 xc).fK).ai),.string (((MK.K.at a0 xc).fK).ae),.bool (((MK.K.at a0 xc).fK).ao),.int .i64 (((MK.K.at a0 xc).gF).bp),.string (((MK.K.at a0 xc).gF).bS)] [.string (((MK.K.at a1 xc).fK).aa),.string (((MK.K.at a1 xc).fK).ai),.string (((MK.K.at a1 xc).fK).ae),.bool (((MK.K.at a1 xc).fK).ao),.int .i64 (((MK.K.at a1 xc).gF).bp),.string (((MK.K.at a1 xc).gF).bS)] Q T Q Q Q Q eg83 (fun _=>kn 3 dc (fun _=>eqt83 (⟨(MK.K.at a0 xc).fK,(MK.K.at a0 xc).gF⟩:MK) (⟨(MK.K.at a1 xc).fK,(MK.K.at a1 xc).gF⟩:MK)))<|.fin<|cf H ?_ ?_ <;> intro H
 ·
  exact WP.skip<|rg 3 0<|go 3<|bk ja (av (xc+1)) H
 refine sp ?_
 have H:=H.fU
 cases H.out; exact ek 0
theorem dq.c (h:dq.f k a0 a1=some r):Pt prog 16 [agg (nG.enc a0),agg (nG.enc a1)] (vB r):=by
 refine pf func16 h fun R0 F H=>?_
 refine wr 3 3<|Dv.box Q T Q cA nofun fun ba=>Dv.box Q T Q cA nofun fun bc=>go 1<|wr 6 0<|gl 4 [1,0]<|el H fun ta haa H=>cl Q (cL 26) Q (gZ.c haa)<|go 1<|WP.seq<|wr 20 0<|gp 3 ?_
 rcases bm H with ⟨cc,H⟩ | ⟨cc,H⟩
 rotate_left
 ·
  refine sh 15 cc ?_
  refine sh 16 cc ?_
  refine go 17<|WP.cond Q (fun _=>?_) nofun
  refine sp ?_
  cases H.out; exact ek 2
 refine sh 15 cc ?_
 refine sh 16 cc ?_
 refine gl 2 [1]<|Dv.eX Q (gg Q) Q E1<|gl 2 [0]<|Dv.eX Q (gg Q) Q E1<|gp 3 ?_
 rcases bm H with ⟨cg,H⟩ | ⟨cg,H⟩
 rotate_left
 ·
  refine sh 23 cg ?_
  refine sh 24 cg ?_
  refine sh 25 cg ?_
  refine go 8<|WP.cond Q (fun _=>?_) nofun
  refine sp ?_
  cases H.out; exact ek 2
 refine sh 23 cg ?_
 refine sh 24 cg ?_
 refine sh 25 cg ?_
 refine gl 2 [1]<|Dv.eX Q (gg Q) Q Hl<|gl 2 [0]<|Dv.eX Q (gg Q) Q Hl<|go 2<|ce H ?_ ?_ <;> intro H
 ·
  refine sp ?_
  cases H.out; exact ek 2
 refine WP.skip<|sr H id [2,3] (fun _=>[]) (fun _=>[]) (fun pa H=>?_) (fun H=>?_)
 ·
  refine sr H id [] (fun _=>[]) (fun _=>[]) (fun pc H=>?_) (fun H=>?_)
  ·
   refine sp ?_
   cases H.out; exact ek 2
  refine so<|WP.block<|ws 2 [0,1] 0 ?_
  refine lq (fun j_ (pe:Int)=>dq.l0 k a0 a1 j_ pe) 0 H [2,3] (fun pe=>[(8,vI pe)]) (fun _=>[]) ?_
  rintro j_ xc H
  rcases j_ with _ | ja
  ·
   exact (aW.no H).elim
  try dsimp only at H
  rw [dq.l0] at H
  refine WP.seq<|wr 5 0<|gl 3 [1]<|Dv.eX Q T Q Hl<|go 1<|cf H ?_ ?_ <;> intro H
  ·
   refine WP.exit ?_
   have H:=H.out
   exact jn (xc,decide (xc<(a0.bK.length:Int))) H
  refine WP.skip<|WP.seq<|WP.block<|wd mX 11 0<|gl 3 [1]<|gr H fun ga H=>Dv.jA Q T Q Q Hl Fk I9 ga.1 ga.2<|ll Q T Q J8 Q<|gl 3 [0]<|gr H fun gb H=>Dv.jA Q T Q Q Hl Fk I9 gb.1 gb.2<|ll Q T Q J8 Q<|Dv.nes [.string ((eS.K.at a0.bK xc).ai),.int .i64 ((eS.K.at a0.bK xc).aM)] [.string ((eS.K.at a1.bK xc).ai),.int .i64 ((eS.K.at a1.bK xc).aM)] Q T Q Q Q Q eg158 (fun _=>kn 2 dc (fun _=>KX (eS.K.at a0.bK xc) (eS.K.at a1.bK xc)))<|.fin<|cf H ?_ ?_ <;> intro H
  ·
   exact WP.skip<|rg 3 0<|go 3<|bk ja (av (xc+1)) H
  refine sp ?_
  have H:=H.fU
  cases H.out; exact ek 2
 refine so<|WP.block<|ws 2 [0,1] 0 ?_
 refine lq (fun j_ (pg:Int)=>dq.l1 k a0 a1 j_ pg) 0 H [2,3] (fun pg=>[(6,vI pg)]) (fun _=>[]) ?_
 rintro j_ xd H
 rcases j_ with _ | jc
 ·
  exact (aW.no H).elim
 try dsimp only at H
 rw [dq.l1] at H
 refine WP.seq<|wr 5 0<|gl 3 [1]<|Dv.eX Q T Q E1<|go 1<|cf H ?_ ?_ <;> intro H
 ·
  refine WP.exit ?_
  have H:=H.out
  exact jn (xd,decide (xd<(a0.aw.length:Int))) H
 refine WP.skip<|WP.seq<|WP.block<|wd mX 14 0<|gl 3 [1]<|gr H fun gi H=>Dv.jA Q T Q Q E1 BF Af gi.1 gi.2<|fr Q T Q B9 Q<|mL Q T Q ID Q<|gl 3 [0]<|gr H fun gj H=>Dv.jA Q T Q Q E1 BF Af gj.1 gj.2<|fr Q T Q B9 Q<|mL Q T Q ID Q<|el H fun tc hac H=>cl Q (cL 19) Q (cZ.c hac)<|go 1<|wd mX 17 0<|gp 3 ?_
 cases ci:!tc
 rotate_left
 ·
  have H:=H.ct ci
  refine go 14<|WP.cond Q (fun _=>?_) nofun
  refine sp ?_
  have H:=H.fU
  cases H.out; exact ek 2
 have H:=H.cf ci
 refine gl 3 [1]<|gr H fun gk H=>Dv.jA Q (gg Q) Q Q E1 BF Af gk.1 gk.2<|fr Q (gg Q) Q C1 Q<|mL Q (gg Q) Q qN Q<|gl 3 [0]<|gr H fun gm H=>Dv.jA Q (gg Q) Q Q E1 BF Af gm.1 gm.2<|fr Q (gg Q) Q C1 Q<|mL Q (gg Q) Q qN Q<|go 2<|cf H ?_ ?_ <;> intro H
 ·
  exact WP.skip<|rg 3 0<|go 3<|bk jc (av (xd+1)) H
 refine sp ?_
 have H:=H.fU
 cases H.out; exact ek 2
theorem dH.c (h:dH.f k a0=some r):Pt prog 17 [agg (tC.enc a0)] (agg (nG.enc r)):=by
 refine pf func17 h fun R0 F H=>?_
 refine wr 2 3<|Dv.box Q T Q cA nofun fun ba=>al Q T zc66 nofun fun bc=>.fin<|wr 5 24<|gl 2 [1]<|Dv.lI (qs:=[vI a0.lp,eU,eU,eU]) (css:=[[vI a0.lp]]) Q T W66 pl66 z66 Q ⟨(cells_one (ah Q)),T⟩ Q Q<|al Q T zc66 nofun fun bd=>sy 0 ?_
 refine .fin<|WP.lG H (fun qh:(Int×Bool×(List MK))×OV=>qh.1) (fun qh=>[(1,eW ba),(2,eW bc),(3,eW bd)]) (fun qh=>[aJ bd 66 [vI a0.lp,eq qh.2.1,eU,eU],aJ bc 66 [vI 0,eU,eU,eU],aJ ba 59 (tC.enc a0),own MK.K qh.2.1 qh.1.2.2]++F) (fun qh H=>?_) (fun H=>?_)
 rotate_left
 ·
  refine so<|WP.block<|wg (eK MK.K none) fun _ _=>?_
  refine ws 4 [1,2,3,0] 0 ?_
  refine lq (fun j_ (pa:Int×(List MK)×OV)=>dH.l2 k a0 j_ pa.1 pa.2.1) (0,([]:List MK),lM) H [1,2,3] (fun pa=>[(4,vI pa.1)]) (fun pa=>[(0,aJ bd 66 [vI a0.lp,eq pa.2.2.1,eU,eU]),(3,own MK.K pa.2.2.1 pa.2.1)]) ?_
  rintro j_ ⟨xc,xd,va⟩ H
  rcases j_ with _ | ja
  ·
   exact (aW.no H).elim
  try dsimp only at H
  rw [dH.l2] at H
  refine WP.seq<|wr 5 0<|gl 3 [2]<|Dv.eX Q T Q Et<|go 1<|cf H ?_ ?_ <;> intro H
  ·
   refine WP.exit ?_
   have H:=H.out
   exact jn ((xc,decide (xc<(a0.aB.length:Int)),xd),va) H
  refine WP.skip<|WP.seq<|WP.block<|dg mX 19 327680<|gl 5 [0,2]<|gr H fun ga H=>Dv.jA Q T Q Q Et wK BI ga.1 ga.2<|fr Q T Q Kp Q<|ll Q T Q sg89 Q<|gl 3 [2]<|gr H fun gb H=>Dv.jA Q T Q Q Et wK BI gb.1 gb.2<|fr Q T Q Kh Q<|ll Q T Q sg81 Q<|Dv.lI (qs:=[vS (((eV.K.at a0.aB xc).bY).aa),vS (((eV.K.at a0.aB xc).bY).ai),vS (((eV.K.at a0.aB xc).bY).ae),vB (((eV.K.at a0.aB xc).bY).ao),vI (((eV.K.at a0.aB xc).gF).bp),vS (((eV.K.at a0.aB xc).gF).bS)]) (css:=[bB.enc ((eV.K.at a0.aB xc).bY),Pos.enc ((eV.K.at a0.aB xc).gF)]) Q T A0 pl83 z83 Q ⟨(aZ (bB.K.one _)),⟨(aZ (Pos.K.one _)),T⟩⟩ Q Q<|Dv.lit MK.K ([(⟨(eV.K.at a0.aB xc).bY,(eV.K.at a0.aB xc).gF⟩:MK)]:List MK) (css:=[[vS (((eV.K.at a0.aB xc).bY).aa),vS (((eV.K.at a0.aB xc).bY).ai),vS (((eV.K.at a0.aB xc).bY).ae),vB (((eV.K.at a0.aB xc).bY).ao),vI (((eV.K.at a0.aB xc).gF).bp),vS (((eV.K.at a0.aB xc).gF).bS)]]) Q T tH A0 G4 z83 Q dc dc Q ⟨(aZ (aj (ah Q) (aj (ah Q) (aj (ah Q) (aj (ah Q) (aj (ah Q) (aj (ah Q) bX))))))),T⟩ Q Q Q<|gr H fun gi H=>ap MK.K 3 ([(⟨(eV.K.at a0.aB xc).bY,(eV.K.at a0.aB xc).gF⟩:MK)]:List MK) bQ tH (.inr ⟨_,tH⟩) Ac gi pB fun vb=>?_
  refine go 1<|sx 0 Q T Q Q (cells_one bL) sz34 Q Q Q pB ?_
  exact .fin<|rg 3 0<|go 3<|bk ja (av (xc+1),xd++([(⟨(eV.K.at a0.aB xc).bY,(eV.K.at a0.aB xc).gF⟩:MK)]:List MK),vb) H
 obtain ⟨pc,vd⟩:=qh
 refine WP.lG H (fun qi:(Int×Bool×(List eC))×OV=>qi.1) (fun qi=>[(1,eW ba),(2,eW bc),(3,eW bd)]) (fun qi=>[aJ bd 66 [vI a0.lp,eq vd.1,eq qi.2.1,eU],aJ bc 66 [vI 0,eU,eU,eU],aJ ba 59 (tC.enc a0),own MK.K vd.1 pc.2.2,own eC.K qi.2.1 qi.1.2.2]++F) (fun qi H=>?_) (fun H=>?_)
 rotate_left
 ·
  refine so<|WP.block<|wg (eK eC.K none) fun _ _=>?_
  refine ws 5 [1,2,3,4,0] 0 ?_
  refine lq (fun j_ (pe:Int×(List eC)×OV)=>dH.l1 k a0 j_ pe.1 pe.2.1) (0,([]:List eC),lM) H [1,2,3] (fun pe=>[(5,vI pe.1)]) (fun pe=>[(0,aJ bd 66 [vI a0.lp,eq vd.1,eq pe.2.2.1,eU]),(4,own eC.K pe.2.2.1 pe.2.1)]) ?_
  rintro j_ ⟨xe,xf,ve⟩ H
  rcases j_ with _ | jc
  ·
   exact (aW.no H).elim
  try dsimp only at H
  rw [dH.l1] at H
  refine WP.seq<|wr 5 0<|gl 3 [2]<|Dv.eX Q T Q Fv<|go 1<|cf H ?_ ?_ <;> intro H
  ·
   refine WP.exit ?_
   have H:=H.out
   exact jn ((xe,decide (xe<(a0.aw.length:Int)),xf),ve) H
  refine WP.skip<|WP.seq<|WP.block<|dg mX 11 1280<|gl 5 [0,2]<|gr H fun gj H=>Dv.jA Q T Q Q Fv Lx c94 gj.1 gj.2<|ll Q T Q K6 Q<|Dv.lit eC.K ([eC.K.at a0.aw xe]:List eC) (css:=[eC.enc (eC.K.at a0.aw xe)]) Q T E1 BF Af z156 Q dc dc Q ⟨(aZ (eC.K.one _)),T⟩ Q Q Q<|gr H fun gk H=>ap eC.K 4 ([eC.K.at a0.aw xe]:List eC) bQ E1 (.inr ⟨_,E1⟩) Lf gk pB fun vh=>?_
  refine go 1<|sx 0 Q T Q Q (cells_one bL) sz63 Q Q Q pB ?_
  exact .fin<|rg 3 0<|go 3<|bk jc (av (xe+1),xf++([eC.K.at a0.aw xe]:List eC),vh) H
 obtain ⟨pg,vi⟩:=qi
 refine WP.lG H (fun qj:(Int×Bool×(List eS))×OV=>qj.1) (fun qj=>[(2,eW bc),(3,eW bd)]) (fun qj=>[aJ bd 66 [vI a0.lp,eq vd.1,eq vi.1,eq qj.2.1],aJ bc 66 [vI 0,eU,eU,eU],aJ ba 59 (tC.enc a0),own MK.K vd.1 pc.2.2,own eC.K vi.1 pg.2.2,own eS.K qj.2.1 qj.1.2.2]++F) (fun qj H=>?_) (fun H=>?_)
 ·
  obtain ⟨ph,vj⟩:=qj
  refine wr 2 2<|gl 1 [0]<|sy 1 ?_
  refine .fin<|fz 3 [2] [1,1] ?_
  refine fz 3 [2] [1,1] ?_
  refine fz 3 [2] [1,1] ?_
  cases H.out; exact r3 i2 Q (.cons (au Q W66 Q c66 (ab 1 Q) Q) .nil)
 refine so<|WP.block<|wg (eK eS.K none) fun _ _=>?_
 refine ws 6 [1,2,3,4,5,0] 0 ?_
 refine lq (fun j_ (pi:Int×(List eS)×OV)=>dH.l0 k a0 j_ pi.1 pi.2.1) (0,([]:List eS),lM) H [1,2,3] (fun pi=>[(6,vI pi.1)]) (fun pi=>[(0,aJ bd 66 [vI a0.lp,eq vd.1,eq vi.1,eq pi.2.2.1]),(5,own eS.K pi.2.2.1 pi.2.1)]) ?_
 rintro j_ ⟨xg,xi,vk⟩ H
 rcases j_ with _ | jd
 ·
  exact (aW.no H).elim
 try dsimp only at H
 rw [dH.l0] at H
 refine WP.seq<|wr 5 0<|gl 3 [2]<|Dv.eX Q T Q Fb<|go 1<|cf H ?_ ?_ <;> intro H
 ·
  refine WP.exit ?_
  have H:=H.out
  exact jn ((xg,decide (xg<(a0.bK.length:Int)),xi),vk) H
 refine WP.skip<|WP.seq<|WP.block<|dg mX 11 1280<|gl 5 [0,2]<|gr H fun gm H=>Dv.jA Q T Q Q Fb Ko c96 gm.1 gm.2<|ll Q T Q K0 Q<|Dv.lit eS.K ([eS.K.at a0.bK xg]:List eS) (css:=[eS.enc (eS.K.at a0.bK xg)]) Q T Hl Fk I9 z158 Q dc dc Q ⟨(aZ (eS.K.one _)),T⟩ Q Q Q<|gr H fun gn H=>ap eS.K 5 ([eS.K.at a0.bK xg]:List eS) bQ Hl (.inr ⟨_,Hl⟩) Ku gn pB fun vl=>?_
 refine go 1<|sx 0 Q T Q Q (cells_one bL) sz64 Q Q Q pB ?_
 exact .fin<|rg 3 0<|go 3<|bk jd (av (xg+1),xi++([eS.K.at a0.bK xg]:List eS),vl) H
theorem lA.c (h:lA.f=some r):Tr prog 22 [] [lax] (γ:=Unit) (fun _=>True) (fun g=>vB r) (fun g=>[lax]):=by
 refine tf func22 h fun R0 F H=>?_
 refine so<|wr 12 0<|Dv.lI (qs:=[vS (⟨#[33,114,58,115]⟩:BA),vS (⟨#[64,97,58,115]⟩:BA),vS eE,vB true]) (css:=[[vS (⟨#[33,114,58,115]⟩:BA)],[vS (⟨#[64,97,58,115]⟩:BA)],[vB true]]) Q T FM Hy z89 Q ⟨(cells_one (ah Q)),⟨(cells_one (ah Q)),⟨(cells_one (ah Q)),T⟩⟩⟩ Q Q<|el H fun ta haa H=>oU 1 [0] (cL 41) (iC.c haa) ?_
 refine gp 2 ?_
 rcases bm H with ⟨cc,H⟩ | ⟨cc,H⟩
 ·
  refine sh 3 cc ?_
  refine sh 4 cc ?_
  refine gq 8 ?_
  cases H.out; exact et () 1 [0] 0
 refine sh 3 cc ?_
 refine sh 4 cc ?_
 refine el H fun tc hac H=>Dv.call Q (gg Q) (cL 44) Q (jt.c hac)<|gp 3 ?_
 rcases bm H with ⟨cg,H⟩ | ⟨cg,H⟩
 ·
  refine sh 6 cg ?_
  refine sh 7 cg ?_
  refine sh 8 cg ?_
  refine gq 4 ?_
  cases H.out; exact et () 1 [0] 0
 refine sh 6 cg ?_
 refine sh 7 cg ?_
 refine sh 8 cg ?_
 refine el H fun te had H=>Dv.call Q (gg Q) (cL 47) Q (jI.c had)<|gq 3 ?_
 cases H.out; exact et () 1 [0] 0
theorem bx.c (h:bx.f k a0 a1=some r):Pt prog 80 [sl aE a0,sl aE a1] (vB r):=by
 refine pf func80 h fun R0 F H=>?_
 refine so<|WP.seq<|wr 5 0<|go 1<|Dv.eX Q T Q eb<|go 1<|Dv.eX Q T Q eb<|go 1<|ce H ?_ ?_ <;> intro H
 ·
  refine sp ?_
  cases H.out; exact ek 0
 refine WP.skip<|sr H id [] (fun _=>[]) (fun _=>[]) (fun pa H=>?_) (fun H=>?_)
 ·
  refine sp ?_
  cases H.out; exact ek 0
 refine wr 3 0<|go 1<|Dv.eX Q T Q eb<|go 1<|WP.block<|ws 0 [] 0 ?_
 refine lq (fun j_ (pc:Int)=>bx.l0 k a0 a1 j_ pc) 0 H [0,1,12] (fun pc=>[(13,vI pc)]) (fun _=>[]) ?_
 rintro j_ xc H
 rcases j_ with _ | ja
 ·
  exact (aW.no H).elim
 try dsimp only at H
 rw [bx.l0] at H
 refine so<|WP.seq<|cf H ?_ ?_ <;> intro H
 ·
  refine WP.exit ?_
  have H:=H.out
  exact jn (xc,decide (xc<(a0.length:Int))) H
 refine WP.skip<|WP.seq<|WP.block<|so<|wd mX 9 0<|go 2<|gr H fun ga H=>Dv.jA Q T Q Q eb W9 c9 ga.1 ga.2<|mL Q T Q qN Q<|go 2<|gr H fun gb H=>Dv.jA Q T Q Q eb W9 c9 gb.1 gb.2<|mL Q T Q qN Q<|go 1<|cf H ?_ ?_ <;> intro H
 ·
  exact WP.skip<|rg 2 0<|go 2<|bk ja (av (xc+1)) H
 refine sp ?_
 have H:=H.fU
 cases H.out; exact ek 0
theorem jo.c (h:jo.f k a0 a1=some r):Pt prog 79 [agg (eC.enc a0),agg (eC.enc a1)] (vB r):=by
 refine pf func79 h fun R0 F H=>?_
 refine wr 3 3<|Dv.box Q T Q cA nofun fun ba=>Dv.box Q T Q cA nofun fun bc=>go 1<|wr 13 0<|lx 6 [1,0] ?_
 rcases bm H with ⟨cc,H⟩ | ⟨cc,H⟩
 ·
  refine sh 9 cc ?_
  refine sh 10 cc ?_
  refine gq 7 ?_
  cases H.out; exact ek 2
 refine sh 9 cc ?_
 refine sh 10 cc ?_
 refine gl 4 [1,0]<|el H fun ta haa H=>Dv.call Q (gg Q) (cL 80) Q (bx.c haa)<|gq 2 ?_
 cases H.out; exact ek 2
theorem bM.c (h:bM.f k a0 a1=some r):Pt prog 81 [sl eV.K a0,sl eV.K a1] (vB r):=by
 refine pf func81 h fun R0 F H=>?_
 refine so<|WP.seq<|wr 5 0<|go 1<|Dv.eX Q T Q Et<|go 1<|Dv.eX Q T Q Et<|go 1<|ce H ?_ ?_ <;> intro H
 ·
  refine sp ?_
  cases H.out; exact ek 0
 refine WP.skip<|sr H id [] (fun _=>[]) (fun _=>[]) (fun pa H=>?_) (fun H=>?_)
 ·
  refine sp ?_
  cases H.out; exact ek 0
 refine wr 3 0<|go 1<|Dv.eX Q T Q Et<|go 1<|WP.block<|ws 0 [] 0 ?_
 refine lq (fun j_ (pc:Int)=>bM.l0 k a0 a1 j_ pc) 0 H [0,1,12] (fun pc=>[(13,vI pc)]) (fun _=>[]) ?_
 rintro j_ xc H
 rcases j_ with _ | ja
 ·
  exact (aW.no H).elim
 try dsimp only at H
 rw [bM.l0] at H
 refine so<|WP.seq<|cf H ?_ ?_ <;> intro H
 ·
  refine WP.exit ?_
  have H:=H.out
  exact jn (xc,decide (xc<(a0.length:Int))) H
 refine WP.skip<|WP.seq<|WP.block<|so<|wd mX 9 0<|go 2<|gr H fun ga H=>Dv.jA Q T Q Q Et wK BI ga.1 ga.2<|ll Q T Q sg91 Q<|go 2<|gr H fun gb H=>Dv.jA Q T Q Q Et wK BI gb.1 gb.2<|ll Q T Q sg91 Q<|Dv.nes [.string (((eV.K.at a0 xc).bY).aa),.string (((eV.K.at a0 xc).bY).ai),.string (((eV.K.at a0 xc).bY).ae),.bool (((eV.K.at a0 xc).bY).ao),.int .i64 (((eV.K.at a0 xc).gF).bp),.string (((eV.K.at a0 xc).gF).bS)] [.string (((eV.K.at a1 xc).bY).aa),.string (((eV.K.at a1 xc).bY).ai),.string (((eV.K.at a1 xc).bY).ae),.bool (((eV.K.at a1 xc).bY).ao),.int .i64 (((eV.K.at a1 xc).gF).bp),.string (((eV.K.at a1 xc).gF).bS)] Q T Q Q Q Q eg91 (fun _=>kn 3 dc (fun _=>eqt91 (⟨(eV.K.at a0 xc).bY,(eV.K.at a0 xc).gF⟩:eV) (⟨(eV.K.at a1 xc).bY,(eV.K.at a1 xc).gF⟩:eV)))<|.fin<|cf H ?_ ?_ <;> intro H
 ·
  exact WP.skip<|rg 2 0<|go 2<|bk ja (av (xc+1)) H
 refine sp ?_
 have H:=H.fU
 cases H.out; exact ek 0
theorem aD.c (h:aD.f k a0 a1 a2=some r):Pt prog 82 [sl eC.K a0,sl eC.K a1,l8 a2] (vB r):=by
 refine pf func82 h fun R0 F H=>?_
 refine so<|WP.seq<|wr 5 0<|go 1<|Dv.eX Q T Q Fv<|go 1<|Dv.eX Q T Q Fv<|go 1<|ce H ?_ ?_ <;> intro H
 ·
  refine sp ?_
  cases H.out; exact ek 0
 refine WP.skip<|sr H id [] (fun _=>[]) (fun _=>[]) (fun pa H=>?_) (fun H=>?_)
 ·
  refine sp ?_
  cases H.out; exact ek 0
 refine wr 3 0<|go 1<|Dv.eX Q T Q Fv<|go 1<|WP.block<|ws 0 [] 0 ?_
 refine lq (fun j_ (pc:Int)=>aD.l0 k a0 a1 a2 j_ pc) 0 H [1,2,15,16] (fun pc=>[(17,vI pc)]) (fun _=>[]) ?_
 rintro j_ xc H
 rcases j_ with _ | ja
 ·
  exact (aW.no H).elim
 try dsimp only at H
 rw [aD.l0] at H
 refine so<|WP.seq<|cf H ?_ ?_ <;> intro H
 ·
  refine WP.exit ?_
  have H:=H.out
  exact jn (xc,decide (xc<(a0.length:Int))) H
 refine WP.skip<|WP.seq<|WP.block<|wr 6 40<|go 1<|gr H fun ga H=>Dv.jA Q T Q Q Fv Lx c94 ga.1 ga.2<|ll Q T Q K6 Q<|al Q T zc94 nofun fun ba=>go 1<|sy 0 ?_
 refine .fin<|wr 6 48<|go 2<|gr H fun gb H=>Dv.jA Q T Q Q Fv Lx c94 gb.1 gb.2<|ll Q T Q K6 Q<|al Q T zc94 nofun fun bc=>sy 0 ?_
 refine .fin<|wr 5 0<|gl 3 [1,0]<|el H fun ta haa H=>Dv.rZ (ret:=vB ta) Q T Q Q ⟨_,_,_,haa,Q,Q⟩<|go 1<|cf H ?_ ?_ <;> intro H
 ·
  refine WP.skip<|rg 2 0<|go 2<|ns 2 [0,1] 2 ?_
  exact bk ja (av (xc+1)) H
 refine sp ?_
 have H:=H.fU
 cases H.out; exact ek 2
theorem bA.c (h:bA.f k a0 a1=some r):Pt prog 83 [sl eS.K a0,sl eS.K a1] (vB r):=by
 refine pf func83 h fun R0 F H=>?_
 refine so<|WP.seq<|wr 5 0<|go 1<|Dv.eX Q T Q Fb<|go 1<|Dv.eX Q T Q Fb<|go 1<|ce H ?_ ?_ <;> intro H
 ·
  refine sp ?_
  cases H.out; exact ek 0
 refine WP.skip<|sr H id [] (fun _=>[]) (fun _=>[]) (fun pa H=>?_) (fun H=>?_)
 ·
  refine sp ?_
  cases H.out; exact ek 0
 refine wr 3 0<|go 1<|Dv.eX Q T Q Fb<|go 1<|WP.block<|ws 0 [] 0 ?_
 refine lq (fun j_ (pc:Int)=>bA.l0 k a0 a1 j_ pc) 0 H [0,1,12] (fun pc=>[(13,vI pc)]) (fun _=>[]) ?_
 rintro j_ xc H
 rcases j_ with _ | ja
 ·
  exact (aW.no H).elim
 try dsimp only at H
 rw [bA.l0] at H
 refine so<|WP.seq<|cf H ?_ ?_ <;> intro H
 ·
  refine WP.exit ?_
  have H:=H.out
  exact jn (xc,decide (xc<(a0.length:Int))) H
 refine WP.skip<|WP.seq<|WP.block<|so<|wd mX 9 0<|go 2<|gr H fun ga H=>Dv.jA Q T Q Q Fb Ko c96 ga.1 ga.2<|ll Q T Q K0 Q<|go 2<|gr H fun gb H=>Dv.jA Q T Q Q Fb Ko c96 gb.1 gb.2<|ll Q T Q K0 Q<|Dv.nes [.string ((eS.K.at a0 xc).ai),.int .i64 ((eS.K.at a0 xc).aM)] [.string ((eS.K.at a1 xc).ai),.int .i64 ((eS.K.at a1 xc).aM)] Q T Q Q Q Q eg96 (fun _=>kn 2 dc (fun _=>eqt96 (eS.K.at a0 xc) (eS.K.at a1 xc)))<|.fin<|cf H ?_ ?_ <;> intro H
 ·
  exact WP.skip<|rg 2 0<|go 2<|bk ja (av (xc+1)) H
 refine sp ?_
 have H:=H.fU
 cases H.out; exact ek 0
theorem de.c (h:de.f k a0 a1=some r):Pt prog 29 [agg (tC.enc a0),agg (tC.enc a1)] (vB r):=by
 refine pf func29 h fun R0 F H=>?_
 refine wr 3 3<|Dv.box Q T Q cA nofun fun ba=>Dv.box Q T Q cA nofun fun bc=>go 1<|so<|wr 21 0<|gl 4 [1,0]<|el H fun ta haa H=>cl Q (cL 81) Q (bM.c haa)<|gp 1 ?_
 rcases bm H with ⟨cc,H⟩ | ⟨cc,H⟩
 ·
  refine sh 10 cc ?_
  refine sh 11 cc ?_
  refine gq 15 ?_
  cases H.out; exact ek 2
 refine sh 10 cc ?_
 refine sh 11 cc ?_
 refine gl 5 [1,0]<|el H fun tc hac H=>Dv.call Q (gg Q) (cL 82) Q (Pt.jZ (aD.c hac) (.cons cK (.cons cK (.cons (uA (cL 79) (by rintro _ _ ⟨a0_,a1_,r_,h_,rfl,rfl⟩; exact jo.c h_)) .nil))))<|gp 2 ?_
 rcases bm H with ⟨cg,H⟩ | ⟨cg,H⟩
 ·
  refine sh 17 cg ?_
  refine sh 18 cg ?_
  refine sh 19 cg ?_
  refine gq 7 ?_
  cases H.out; exact ek 2
 refine sh 17 cg ?_
 refine sh 18 cg ?_
 refine sh 19 cg ?_
 refine gl 4 [1,0]<|el H fun te had H=>Dv.call Q (gg Q) (cL 83) Q (bA.c had)<|gq 2 ?_
 cases H.out; exact ek 2
end Go.Proofs.YtfknmdelgepbjaaGreatDoor
