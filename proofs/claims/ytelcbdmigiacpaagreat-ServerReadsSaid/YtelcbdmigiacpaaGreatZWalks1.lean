import Derived.Test.YtelcbdmigiacpaaGreatZTab
import Derived.Test.YtelcbdmigiacpaaGreatZShelf
set_option linter.all false
set_option autoImplicit true
set_option maxRecDepth 10000
set_option maxHeartbeats 20000000
namespace Go.Proofs.YtelcbdmigiacpaaGreat
open Go Go.Sp Tryz
theorem jR.c (h:jR.f a0=some r):Pt prog 56 [eq (.int .u8 a0)] (vB r):=by
 refine pf func56 h λR0 F H=>?_
 refine so<|wr 15 0<|gp 3 ?_
 cases c3:decide (97<=a0)
 ·have H:=H.cf c3
  refine gp 7 ?_
  cases c6:decide (48<=a0)
  ·have H:=H.cf c6
   refine gq 5 ?_
   cases H.out;exact ek 0
  have H:=H.ct c6
  refine gq 5 ?_
  cases H.out;exact ek 0
 have H:=H.ct c3
 refine gp 4 ?_
 cases c4:decide (a0<=122)
 rotate_left
 ·have H:=H.ct c4
  refine gq 8 ?_
  cases H.out;exact ek 0
 have H:=H.cf c4
 refine gp 3 ?_
 cases c5:decide (48<=a0)
 ·have H:=H.cf c5
  refine gq 5 ?_
  cases H.out;exact ek 0
 have H:=H.ct c5
 refine gq 5 ?_
 cases H.out;exact ek 0
theorem dU.c (h:dU.f a0 a1=some r):Pt prog 221 [vS a0,eq (.int .u8 a1)] (vI r):=by
 refine pf func221 h λR0 F H=>?_
 refine so<|wr 4 0<|go 2<|Dv.cext Q T Q (DG func273 kr Q xf273 xg273)<|gq 1 ?_
 cases H.out;exact ek 0
theorem jJ.c (h:jJ.f a0 a1=some r):Pt prog 149 [vS a0,eq (.int .u8 a1)] (vI r):=by
 refine pf func149 h λR0 F H=>?_
 refine so<|wr 4 0<|go 2<|el H λt7 h8 H=>cl Q (cL 221) Q (dU.c h8)<|gq 1 ?_
 cases H.out;exact ek 0
theorem eU.c {c0:BA} (h:eU.f a0 c0=some r):Pt prog 148 [eq (.int .u8 a0),rp [vS c0]] (vB r):=by
 refine pf func148 h λR0 F H=>?_
 refine so<|wr 9 0<|go 1<|el H λt9 h10 H=>cl Q (cL 56) Q (jR.c h10)<|gp 1 ?_
 cases c11:t9
 rotate_left
 ·have H:=H.ct c11
  refine gq 6 ?_
  cases H.out;exact ek 0
 have H:=H.cf c11
 refine nK Q (gg Q) Q o6 Q<|go 1<|el H λt12 h13 H=>Dv.call Q (gg Q) (cL 149) Q (jJ.c h13)<|gq 3 ?_
 cases H.out;exact ek 0
theorem kz.c (h:kz.f a0=some r):Pt prog 89 [vS a0] (iW r):=by
 refine pf func89 h λR0 F H=>?_
 refine wr 2 1<|Dv.box Q T Q cE nofun λb14=>go 1<|wr 2 0<|Dv.gh (nB (E':=[(0,vS a0),(1,rp [vS a0]),(2,eq .nilFunc)]) (l':=F) 0 Q (ao Q aB (ao Q jx (ao Q aB iG))) (fI .nil λ_=>bn)) (λ_ _=>?_)
 refine Dv.mkf (Q:=qM (λa0_=>eU.f a0_ a0)) (cL 148) (by rintro _ _ ⟨a0_,r_,h_,rfl,rfl⟩;exact eU.c h_) Q T Q Q<|gq 1 ?_
 cases H.out;exact ek 0
theorem name_may.c (h:name_may.f k a0 a1=some r):Pt prog 55 [vS a0,vI a1] (vB r):=by
 refine pf func55 h λR0 F H=>?_
 refine so<|wr 7 0<|el H λt15 h16 H=>cl Q (cL 89) Q (kz.c h16)<|el H λt17 h18 H=>cl Q (cL 89) Q (kz.c h18)<|el H λt19 h20 H=>cl Q (cL 89) Q (kz.c h20)<|Dv.GM (qs:=[iW t15,iW t17,iW t19]) (css:=[[iW t15],[iW t17],[iW t19]]) Q T U195 U103 c103 z195 Q ⟨(cells_one oQ),⟨(cells_one oQ),⟨(cells_one oQ),T⟩⟩⟩ Q Q<|go 1<|gr H λg21 H=>Dv.ixa (Kd:=o5) (xs:=([t15,t17,t19]:List (Int->Option Bool))) Q T Q Q Q U195 U103 Q c103 Q Q g21.1 g21.2 Q<|go 1<|sr H id [0] (λ_=>[]) (λ_=>[]) (λp22 H=>?_) (λH=>?_)
 ·refine wr 8 0<|gp 3 ?_
  cases Jk:!decide (a0=eE)
  ·have H:=H.cf Jk
   refine gq 5 ?_
   cases H.out;exact ek 0
  have H:=H.ct Jk
  refine go 1<|Dv.lens Q (gg Q) Q U9<|gq 3 ?_
  cases H.out;exact ek 0
 refine wr 3 0<|go 1<|Dv.lens Q T Q U9<|go 1<|WP.block<|ws 0 [] 0 ?_
 refine lq (λj_ (p31:Int)=>name_may.l0 k a0 a1 t15 t17 t19 j_ p31) 0 H [0,5,14] (λp31=>[(15,vI p31)]) (λ_=>[]) ?_
 rintro j_ x24 H
 rcases j_ with _ | j30
 ·exact(aW.no H).elim
 try dsimp only at H
 rw [name_may.l0] at H
 refine so<|WP.seq<|cf H ?_ ?_ <;> intro H
 ·refine WP.exit ?_
  have H:=H.out
  exact jn (x24,decide (x24<(a0.size:Int))) H
 refine WP.skip<|WP.seq<|WP.block<|so<|wr 6 0<|go 3<|gr H λg26 H=>Dv.ru Q T Q Q U9 g26.1 g26.2<|el H λt27 h28 H=>Dv.ql (ret:=vB t27) Q T Q Q ⟨_,_,h28,Q,Q⟩<|go 1<|cf H ?_ ?_ <;> intro H
 ·exact WP.skip<|rg 2 0<|go 2<|bk j30 (aE (x24+1)) H
 refine sp ?_
 have H:=H.cH
 cases H.out;exact ek 0
theorem ew.c (h:ew.f k a0=some r):Pt prog 26 [vS a0] (vB r):=by
 refine pf func26 h λR0 F H=>?_
 refine so<|wr 16 0<|go 1<|el H λt32 h33 H=>cl Q (cL 55) Q (name_may.c h33)<|gp 1 ?_
 cases c34:t32
 ·have H:=H.cf c34
  refine gq 13 ?_
  cases H.out;exact ek 0
 have H:=H.ct c34
 refine go 1<|gr H λg35 H=>Dv.ru Q (gg Q) Q Q U9 g35.1 g35.2<|el H λt36 h37 H=>Dv.call Q (gg Q) (cL 56) Q (jR.c h37)<|gp 2 ?_
 cases c38:t36
 ·have H:=H.cf c38
  refine gq 8 ?_
  cases H.out;exact ek 0
 have H:=H.ct c38
 refine go 2<|Dv.lens Q (gg Q) Q U9<|go 1<|gr H λg39 H=>Dv.ru Q (gg Q) Q Q U9 g39.1 g39.2<|el H λt40 h41 H=>Dv.call Q (gg Q) (cL 56) Q (jR.c h41)<|gq 2 ?_
 cases H.out;exact ek 0
theorem rG.c {b off:Nat} {bT:TypeId} {qs:Cs} {m:Int} (h0:off<qs.length):Tr prog 57 [eq (.pointer (some ⟨b,off,none⟩)),vI m] [ar b bT qs] (γ:=Unit) (λ_=>True) (λ_=>lg []) (λ_=>[ar b bT (qs.set off (vI m))]):=by
 exact Tr.body func57 (c:=_) Q ntmps57 (Nat.le_of_ble_eq_true Q) λR0 F=>WP.qB [(0,false),(1,false),(2,false),(3,false),(4,true)] kr<|go 4<|Dv.Hl (jj:=0) (qs:=qs) Q T Q (Dk h0 func90 kr Q xf90 xg90) Q nofun<|.fin<|re Q () 1 [0] 0 .nil
theorem kP.c (h:kP.f a0 a1=some r):Tr prog 27 [vI a0,vI a1] [] (γ:=OV) (λ_=>True) (λg=>lg [eq g.1,vI r.2]) (λg=>[ig bI.O g r.1]):=by
 refine tf func27 h λR0 F H=>?_
 refine so<|WP.seq<|wr 15 0<|gp 3 ?_
 cases c42:decide (a1<1)
 rotate_left
 ·have H:=H.ct c42
  refine go 12<|WP.cond Q (λ_=>?_) nofun
  refine so<|wg (fW (O:=bI.O)) λ_ _=>?_
  cases H.out;exact et dK 1 [0] 0
 have H:=H.cf c42
 refine gp 4 ?_
 cases c44:decide (1099511627776<a1)
 rotate_left
 ·have H:=H.ct c44
  refine go 8<|WP.cond Q (λ_=>?_) nofun
  refine so<|wg (fW (O:=bI.O)) λ_ _=>?_
  cases H.out;exact et dK 1 [0] 0
 have H:=H.cf c44
 refine gp 4 ?_
 cases c46:decide (a0<0)
 rotate_left
 ·have H:=H.ct c46
  refine go 4<|WP.cond Q (λ_=>?_) nofun
  refine so<|wg (fW (O:=bI.O)) λ_ _=>?_
  cases H.out;exact et dK 1 [0] 0
 have H:=H.cf c46
 refine go 4<|ce H ?_ ?_ <;> intro H
 ·refine so<|wg (fW (O:=bI.O)) λ_ _=>?_
  cases H.out;exact et dK 1 [0] 0
 refine WP.skip<|wr 4 4<|go 1<|Dv.lD (qs:=[vI 0,vI a1]) (css:=[[vI a1]]) Q T IZ pl137 z137 Q ⟨(cells_one (ai Q)),T⟩ Q Q<|Dv.box Q T Q cA nofun λb49=>go 1<|wr 5 16<|go 4<|cx 1 [0] (cL 57) (rG.c (b:=b49) (off:=0) (bT:=137) (qs:=[vI 0,vI a1]) (m:=a0) (Nat.le_of_ble_eq_true Q)) nofun λ_ _=>?_
 refine .fin<|so<|wg (bI.shut (p:=(⟨.pointer (some ⟨b49,0,none⟩),Q⟩:OV)) (m:=(⟨(⟨a0⟩:Aa),a1⟩:bI)) b49 Q (pm 1 [0])) λ_ _=>?_
 cases H.out;exact et (⟨.pointer (some ⟨b49,0,none⟩),Q⟩:OV) 1 [0] 0
theorem q6.c (h:q6.f a0 a1=some r):Tr prog 28 [vI a0,vI a1] [] (γ:=OV) (λ_=>True) (λg=>lg [eq g.1,vI r.2]) (λg=>[ig bE.O g r.1]):=by
 refine tf func28 h λR0 F H=>?_
 refine so<|wr 8 4<|go 2<|el H λt50 h51 H=>cx 0 [] (cL 27) (kP.c h51) nofun λg52 _=>?_
 refine go 1<|dZ Q T Q Q<|dZ Q T Q Q<|go 2<|WP.seq<|so<|ce H ?_ ?_ <;> intro H
 ·refine so<|wg (fW (O:=bE.O)) λ_ _=>?_
  cases H.out;exact et dK 2 [1,0] 1
 refine WP.skip<|wr 6 10<|go 1<|Dv.Gj Value.string (λx:Int=>vI x) Q T nofun (λv54=>?_)
 refine gr H λg55 H=>vg (gT 1 Q (Bq g55)) λ_ _=>?_
 refine Dv.lD (qs:=[eq g52.1,jQ,eq v54.1]) (css:=[[eq g52.1],[eq v54.1]]) Q T Gk pl141 z141 Q ⟨(cells_one cS),⟨(cells_one cS),T⟩⟩ Q Q<|Dv.box Q T Q cA nofun λb56=>go 2<|wg (dX az none) λ_ _=>?_
 refine wg (bE.shut (p:=(⟨.pointer (some ⟨b56,0,none⟩),Q⟩:OV)) (m:=(⟨t50.1.getD default,([]:List BA),([]:List (BA×Int))⟩:bE)) (b56,g52,iQ,v54) Q (pm 4 [1,2,0,3])) λ_ _=>?_
 cases H.out;exact et (⟨.pointer (some ⟨b56,0,none⟩),Q⟩:OV) 1 [0] 0
theorem rM.c (h:rM.f a0=some r):Tr prog 58 [vI a0] [] (γ:=OV) (λ_=>True) (λg=>lg [eq g.1,vI r.2]) (λg=>[ig iv.O g r.1]):=by
 refine tf func58 h λR0 F H=>?_
 refine so<|WP.seq<|wr 6 0<|gp 3 ?_
 cases HN:decide (a0<1)
 rotate_left
 ·have H:=H.ct HN
  refine go 3<|WP.cond Q (λ_=>?_) nofun
  refine so<|wg (fW (O:=iv.O)) λ_ _=>?_
  cases H.out;exact et dK 1 [0] 0
 have H:=H.cf HN
 refine go 3<|ce H ?_ ?_ <;> intro H
 ·refine so<|wg (fW (O:=iv.O)) λ_ _=>?_
  cases H.out;exact et dK 1 [0] 0
 refine WP.skip<|wr 5 4<|go 1<|Dv.lD (qs:=[vI a0,jQ,vI 0]) (css:=[[vI a0]]) Q T Gi pl200 z200 Q ⟨(cells_one (ai Q)),T⟩ Q Q<|Dv.box Q T Q cA nofun λb60=>go 2<|wg (dX ak.K none) λ_ _=>?_
 refine wg (iv.shut (p:=(⟨.pointer (some ⟨b60,0,none⟩),Q⟩:OV)) (m:=(⟨a0,([]:List ak),0⟩:iv)) (b60,iQ) Q (pm 2 [1,0])) λ_ _=>?_
 cases H.out;exact et (⟨.pointer (some ⟨b60,0,none⟩),Q⟩:OV) 1 [0] 0
theorem mj.c (h:mj.f=some r):Tr prog 59 [] [] (γ:=OV) (λ_=>True) (λg=>eq g.1) (λg=>[gP.O g r]):=by
 refine tf func59 h λR0 F H=>?_
 refine so<|wr 4 5<|Dv.Gj aM.kv (λx:Pos=>agg (Pos.enc x)) Q T nofun (λv61=>?_)
 refine Dv.lD (qs:=[eq v61.1]) (css:=[[eq v61.1]]) Q T U203 pl203 z203 Q ⟨(cells_one cS),T⟩ Q Q<|Dv.box Q T Q cA nofun λb62=>go 1<|wg (gP.shut (p:=(⟨.pointer (some ⟨b62,0,none⟩),Q⟩:OV)) (m:=(⟨([]:List (aM×Pos))⟩:gP)) (b62,v61) Q (pm 2 [0,1])) λ_ _=>?_
 cases H.out;exact et (⟨.pointer (some ⟨b62,0,none⟩),Q⟩:OV) 1 [0] 0
theorem rl.c (h:rl.f a0=some r):Tr prog 29 [vI a0] [] (γ:=OV) (λ_=>True) (λg=>lg [eq g.1,vI r.2]) (λg=>[ig dE.O g r.1]):=by
 refine tf func29 h λR0 F H=>?_
 refine so<|wr 7 2<|go 1<|el H λt63 h64 H=>cx 0 [] (cL 58) (rM.c h64) nofun λg65 _=>?_
 refine go 1<|dZ Q T Q Q<|dZ Q T Q Q<|go 2<|WP.seq<|so<|ce H ?_ ?_ <;> intro H
 ·refine so<|wg (fW (O:=dE.O)) λ_ _=>?_
  cases H.out;exact et dK 2 [1,0] 1
 refine WP.skip<|wr 6 9<|el H λt67 h68 H=>cx 1 [0] (cL 59) (mj.c h68) nofun λg69 _=>?_
 refine go 1<|gr H λg70 H=>vg (gT 1 Q (Bq g70)) λ_ _=>?_
 refine Dv.lD (qs:=[eq g69.1,eq g65.1]) (css:=[[eq g69.1],[eq g65.1]]) Q T Io pl123 z123 Q ⟨(cells_one cS),⟨(cells_one cS),T⟩⟩ Q Q<|Dv.box Q T Q cA nofun λb71=>go 2<|wg (dE.shut (p:=(⟨.pointer (some ⟨b71,0,none⟩),Q⟩:OV)) (m:=(⟨t67,t63.1.getD default⟩:dE)) (b71,g69,g65) Q (pm 3 [0,2,1])) λ_ _=>?_
 cases H.out;exact et (⟨.pointer (some ⟨b71,0,none⟩),Q⟩:OV) 1 [0] 0
theorem l7.c (h:l7.f a0=some r):Tr prog 30 [vI a0] [] (γ:=OV) (λ_=>True) (λg=>lg [eq g.1,vI r.2]) (λg=>[ig Seen.O g r.1]):=by
 refine tf func30 h λR0 F H=>?_
 refine so<|WP.seq<|wr 6 0<|gp 3 ?_
 cases c72:decide (a0<1)
 rotate_left
 ·have H:=H.ct c72
  refine go 3<|WP.cond Q (λ_=>?_) nofun
  refine so<|wg (fW (O:=Seen.O)) λ_ _=>?_
  cases H.out;exact et dK 1 [0] 0
 have H:=H.cf c72
 refine go 3<|ce H ?_ ?_ <;> intro H
 ·refine so<|wg (fW (O:=Seen.O)) λ_ _=>?_
  cases H.out;exact et dK 1 [0] 0
 refine WP.skip<|wr 6 10<|go 1<|Dv.Gj Value.string (λx:List Int=>sl (aP .i64) x) Q T nofun (λv75=>?_)
 refine Dv.lD (qs:=[vI a0,eq v75.1]) (css:=[[vI a0],[eq v75.1]]) Q T U147 pl147 z147 Q ⟨(cells_one (ai Q)),⟨(cells_one cS),T⟩⟩ Q Q<|Dv.box Q T Q cA nofun λb76=>go 2<|wg (Seen.shut (p:=(⟨.pointer (some ⟨b76,0,none⟩),Q⟩:OV)) (m:=(⟨a0,([]:List (BA×(List Int)))⟩:Seen)) (b76,v75) Q (pm 2 [0,1])) λ_ _=>?_
 cases H.out;exact et (⟨.pointer (some ⟨b76,0,none⟩),Q⟩:OV) 1 [0] 0
theorem rU.c (h:rU.f=some r):Tr prog 31 [] [] (γ:=OV) (λ_=>True) (λg=>eq g.1) (λg=>[au.O g r]):=by
 refine tf func31 h λR0 F H=>?_
 refine so<|wr 4 5<|Dv.Gj Value.string (λp:OV=>eq p.1) Q T nofun (λv77=>?_)
 refine vg (xW bM.O) λ_ _=>?_
 refine Dv.lD (qs:=[eq v77.1]) (css:=[[eq v77.1]]) Q T IW pl150 z150 Q ⟨(cells_one cS),T⟩ Q Q<|Dv.box Q T Q cA nofun λb78=>go 1<|wg (au.shut (p:=(⟨.pointer (some ⟨b78,0,none⟩),Q⟩:OV)) (m:=(⟨([]:List (BA×bM))⟩:au)) (b78,v77) Q (pm 2 [0,1])) λ_ _=>?_
 cases H.out;exact et (⟨.pointer (some ⟨b78,0,none⟩),Q⟩:OV) 1 [0] 0
theorem pO.c (h:pO.f=some r):Tr prog 60 [] [] (γ:=OV) (λ_=>True) (λg=>eq g.1) (λg=>[bO.O g r]):=by
 refine tf func60 h λR0 F H=>?_
 refine so<|wr 4 5<|Dv.Gj Value.string (λx:Int=>vI x) Q T nofun (λv79=>?_)
 refine Dv.lD (qs:=[jQ,eq v79.1]) (css:=[[eq v79.1]]) Q T Jc pl206 z206 Q ⟨(cells_one cS),T⟩ Q Q<|Dv.box Q T Q cA nofun λb80=>go 1<|wg (dX kC.K none) λ_ _=>?_
 refine wg (bO.shut (p:=(⟨.pointer (some ⟨b80,0,none⟩),Q⟩:OV)) (m:=(⟨([]:List kC),([]:List (BA×Int))⟩:bO)) (b80,iQ,v79) Q (pm 3 [1,0,2])) λ_ _=>?_
 cases H.out;exact et (⟨.pointer (some ⟨b80,0,none⟩),Q⟩:OV) 1 [0] 0
theorem p8.c (h:p8.f=some r):Tr prog 32 [] [] (γ:=OV) (λ_=>True) (λg=>eq g.1) (λg=>[bG.O g r]):=by
 refine tf func32 h λR0 F H=>?_
 refine so<|wr 4 5<|el H λt81 h82 H=>cx 0 [] (cL 60) (pO.c h82) nofun λg83 _=>?_
 refine Dv.lD (qs:=[jQ,eq g83.1]) (css:=[[eq g83.1]]) Q T IL pl154 z154 Q ⟨(cells_one cS),T⟩ Q Q<|Dv.box Q T Q cA nofun λb84=>go 1<|wg (dX ak.K none) λ_ _=>?_
 refine wg (bG.shut (p:=(⟨.pointer (some ⟨b84,0,none⟩),Q⟩:OV)) (m:=(⟨([]:List ak),t81⟩:bG)) (b84,iQ,g83) Q (pm 3 [1,0,2])) λ_ _=>?_
 cases H.out;exact et (⟨.pointer (some ⟨b84,0,none⟩),Q⟩:OV) 1 [0] 0
theorem oo.c (h:oo.f=some r):Tr prog 33 [] [] (γ:=OV) (λ_=>True) (λg=>eq g.1) (λg=>[bJ.O g r]):=by
 refine tf func33 h λR0 F H=>?_
 refine so<|wr 4 5<|el H λt85 h86 H=>cx 0 [] (cL 60) (pO.c h86) nofun λg87 _=>?_
 refine Dv.lD (qs:=[jQ,eq g87.1]) (css:=[[eq g87.1]]) Q T H0 pl156 z156 Q ⟨(cells_one cS),T⟩ Q Q<|Dv.box Q T Q cA nofun λb88=>go 1<|wg (dX ak.K none) λ_ _=>?_
 refine wg (bJ.shut (p:=(⟨.pointer (some ⟨b88,0,none⟩),Q⟩:OV)) (m:=(⟨([]:List ak),t85⟩:bJ)) (b88,iQ,g87) Q (pm 3 [1,0,2])) λ_ _=>?_
 cases H.out;exact et (⟨.pointer (some ⟨b88,0,none⟩),Q⟩:OV) 1 [0] 0
theorem l8.c (h:l8.f k a0 a1 a2=some r):Tr prog 6 [vS a0,vI a1,vI a2] [] (γ:=OV) (λ_=>True) (λg=>lg [eq g.1,vI r.2]) (λg=>[ig bY.O g r.1]):=by
 refine tf func6 h λR0 F H=>?_
 refine so<|WP.seq<|wr 3 0<|go 1<|el H λt89 h90 H=>cl Q (cL 26) Q (ew.c h90)<|go 1<|ce H ?_ ?_ <;> intro H
 ·refine so<|wg (fW (O:=bY.O)) λ_ _=>?_
  cases H.out;exact et dK 1 [0] 0
 refine WP.skip<|wr 7 2<|go 1<|el H λt92 h93 H=>cx 0 [] (cL 27) (kP.c h93) nofun λg94 _=>?_
 refine go 1<|dZ Q T Q Q<|dZ Q T Q Q<|go 2<|WP.seq<|so<|ce H ?_ ?_ <;> intro H
 ·refine so<|wg (fW (O:=bY.O)) λ_ _=>?_
  cases H.out;exact et dK 2 [1,0] 1
 refine WP.skip<|wr 7 2<|go 1<|el H λt96 h97 H=>cx 1 [0] (cL 28) (q6.c h97) nofun λg98 _=>?_
 refine go 1<|dZ Q T Q Q<|dZ Q T Q Q<|go 2<|WP.seq<|so<|ce H ?_ ?_ <;> intro H
 ·refine so<|wg (fW (O:=bY.O)) λ_ _=>?_
  cases H.out;exact et dK 3 [1,2,0] 2
 refine WP.skip<|wr 6 1<|el H λta haa H=>cx 2 [0,1] (cL 27) (kP.c haa) nofun λgb _=>?_
 refine go 1<|dZ Q T Q Q<|dZ Q T Q Q<|go 2<|wr 6 1<|el H λtc hac H=>cx 3 [0,1,2] (cL 29) (rl.c hac) nofun λgc _=>?_
 refine go 1<|dZ Q T Q Q<|dZ Q T Q Q<|go 2<|wr 6 1<|el H λte had H=>cx 4 [0,1,2,3] (cL 30) (l7.c had) nofun λgi _=>?_
 refine go 1<|dZ Q T Q Q<|dZ Q T Q Q<|go 2<|wr 15 5224<|go 3<|el H λtg hae H=>cx 5 [0,1,2,3,4] (cL 31) (rU.c hae) nofun λgj _=>?_
 refine go 1<|el H λtj haf H=>cx 6 [0,1,2,3,4,5] (cL 32) (p8.c haf) nofun λgk _=>?_
 refine el H λtm hag H=>cx 7 [0,1,2,3,4,5,6] (cL 33) (oo.c hag) nofun λgn _=>?_
 refine go 1<|gr H λgt H=>vg (gT 4 Q (Bq gt)) λ_ _=>?_
 refine gr H λgu H=>vg (gT 6 Q (Bq gu)) λ_ _=>?_
 refine Dv.lD (qs:=[eq gj.1,eq gc.1,eq gk.1,eq gn.1,eq g98.1]) (css:=[[eq gj.1],[eq gc.1],[eq gk.1],[eq gn.1],[eq g98.1]]) Q T U99 pl99 z99 Q ⟨(cells_one cS),⟨(cells_one cS),⟨(cells_one cS),⟨(cells_one cS),⟨(cells_one cS),T⟩⟩⟩⟩⟩ Q Q<|go 1<|Dv.Gj Value.string (λp:OV=>eq p.1) Q T nofun (λva=>?_)
 refine vg (xW aO.O) λ_ _=>?_
 refine gr H λgv H=>vg (gT 8 Q (Bq gv)) λ_ _=>?_
 refine gr H λgw H=>vg (gT 8 Q (Bq gw)) λ_ _=>?_
 refine gr H λgy H=>vg (gT 8 Q (Bq gy)) λ_ _=>?_
 refine Dv.lD (qs:=[vS a0,eq g94.1,eq gb.1,eq gj.1,eq gc.1,eq gk.1,eq gn.1,eq g98.1,eq gi.1,eq va.1]) (css:=[[vS a0],[eq g94.1],[eq gb.1],[eq gj.1,eq gc.1,eq gk.1,eq gn.1,eq g98.1],[eq gi.1],[eq va.1]]) Q T Cy pl102 z102 Q ⟨(cells_one (ai Q)),⟨(cells_one cS),⟨(cells_one cS),⟨(bx (ae cS (ae cS (ae cS (ae cS (ae cS cN)))))),⟨(cells_one cS),⟨(cells_one cS),T⟩⟩⟩⟩⟩⟩ Q Q<|Dv.box Q T Q cA nofun λba=>go 2<|wg (bY.shut (p:=(⟨.pointer (some ⟨ba,0,none⟩),Q⟩:OV)) (m:=(⟨a0,t92.1.getD default,ta.1.getD default,(⟨tg,tc.1.getD default,tj,tm,t96.1.getD default⟩:Src),te.1.getD default,([]:List (BA×aO))⟩:bY)) (ba,g94,gb,gj,gc,gk,gn,g98,gi,va) Q (pm 10 [0,3,2,9,6,8,7,5,1,4])) λ_ _=>?_
 cases H.out;exact et (⟨.pointer (some ⟨ba,0,none⟩),Q⟩:OV) 1 [0] 0
theorem nw.c (h:nw.f a0=some r):Pt prog 34 [eq (.int .u8 a0)] (vB r):=by
 refine pf func34 h λR0 F H=>?_
 refine so<|wr 15 0<|gp 3 ?_
 cases ca:decide (97<=a0)
 ·have H:=H.cf ca
  refine gp 7 ?_
  cases cb:decide (48<=a0)
  ·have H:=H.cf cb
   refine gq 5 ?_
   cases H.out;exact ek 0
  have H:=H.ct cb
  refine gq 5 ?_
  cases H.out;exact ek 0
 have H:=H.ct ca
 refine gp 4 ?_
 cases nZ:decide (a0<=122)
 rotate_left
 ·have H:=H.ct nZ
  refine gq 8 ?_
  cases H.out;exact ek 0
 have H:=H.cf nZ
 refine gp 3 ?_
 cases cg:decide (48<=a0)
 ·have H:=H.cf cg
  refine gq 5 ?_
  cases H.out;exact ek 0
 have H:=H.ct cg
 refine gq 5 ?_
 cases H.out;exact ek 0
theorem dM.c (h:dM.f k a0=some r):Pt prog 7 [vS a0] (vB r):=by
 refine pf func7 h λR0 F H=>?_
 refine so<|sr H id [0] (λ_=>[]) (λ_=>[]) (λpa H=>?_) (λH=>?_)
 ·refine wr 9 0<|go 1<|Dv.lens Q T Q U9<|gp 2 ?_
  cases ca:decide (0<(a0.size:Int))
  ·have H:=H.cf ca
   refine gq 5 ?_
   cases H.out;exact ek 0
  have H:=H.ct ca
  refine go 1<|Dv.lens Q (gg Q) Q U9<|gq 3 ?_
  cases H.out;exact ek 0
 refine so<|WP.block<|ws 0 [] 0 ?_
 refine lq (λj_ (pc:Int)=>dM.l0 k a0 j_ pc) 0 H [0] (λpc=>[(3,vI pc)]) (λ_=>[]) ?_
 rintro j_ xa H
 rcases j_ with _ | ja
 ·exact(aW.no H).elim
 try dsimp only at H
 rw [dM.l0] at H
 refine WP.seq<|wr 4 0<|go 2<|Dv.lens Q T Q U9<|go 1<|cf H ?_ ?_ <;> intro H
 ·refine WP.exit ?_
  have H:=H.out
  exact jn (xa,decide (xa<(a0.size:Int))) H
 refine WP.skip<|WP.seq<|WP.block<|wr 5 0<|go 2<|gr H λgb H=>Dv.ru Q T Q Q U9 gb.1 gb.2<|el H λta haa H=>cl Q (cL 34) Q (nw.c haa)<|go 1<|wr 22 0<|gp 3 ?_
 cases cb:decide (0<xa)
 ·have H:=H.cf cb
  refine go 19<|wr 6 0<|gp 3 ?_
  cases cg:!ta
  ·have H:=H.cf cg
   refine go 3<|WP.cond Q nofun (λ_=>?_)
   exact WP.skip<|rg 3 0<|go 3<|bk ja (aE (xa+1)) H
  have H:=H.ct cg
  refine go 3<|WP.cond Q (λ_=>?_) nofun
  refine sp ?_
  have H:=H.cH
  cases H.out;exact ek 0
 have H:=H.ct cb
 refine go 2<|Dv.lens Q (gg Q) Q U9<|gp 4 ?_
 cases ci:decide (xa<(aE ((a0.size:Int)-1)))
 ·have H:=H.cf ci
  refine go 12<|wr 6 0<|gp 3 ?_
  cases cj:!ta
  ·have H:=H.cf cj
   refine go 3<|WP.cond Q nofun (λ_=>?_)
   exact WP.skip<|rg 3 0<|go 3<|bk ja (aE (xa+1)) H
  have H:=H.ct cj
  refine go 3<|WP.cond Q (λ_=>?_) nofun
  refine sp ?_
  have H:=H.cH
  cases H.out;exact ek 0
 have H:=H.ct ci
 refine go 2<|gr H λgc H=>Dv.ru Q (gg Q) Q Q U9 gc.1 gc.2<|gp 2 ?_
 cases EH:((bt a0 xa)==46)
 rotate_left
 ·have H:=H.ct EH
  refine go 7<|wr 6 0<|gp 3 ?_
  cases ck:!ta
  ·have H:=H.cf ck
   refine go 3<|WP.cond Q nofun (λ_=>?_)
   exact WP.skip<|rg 3 0<|go 3<|bk ja (aE (xa+1)) H
  have H:=H.ct ck
  refine go 3<|WP.cond Q nofun (λ_=>?_)
  exact WP.skip<|rg 3 0<|go 3<|bk ja (aE (xa+1)) H
 have H:=H.cf EH
 refine go 2<|gr H λgi H=>Dv.ru Q (gg Q) Q Q U9 gi.1 gi.2<|go 4<|wr 6 0<|gp 3 ?_
 cases cn:!ta
 ·have H:=H.cf cn
  refine go 3<|WP.cond Q nofun (λ_=>?_)
  exact WP.skip<|rg 3 0<|go 3<|bk ja (aE (xa+1)) H
 have H:=H.ct cn
 refine go 3<|cf H ?_ ?_ <;> intro H
 ·exact WP.skip<|rg 3 0<|go 3<|bk ja (aE (xa+1)) H
 refine sp ?_
 have H:=H.cH
 cases H.out;exact ek 0
theorem oU.c {b off:Nat} {bT:TypeId} {qs:Cs} {n:Int} (h0:qs[off]? = some (vI n)):Tr prog 61 [eq (.pointer (some ⟨b,off,none⟩))] [ar b bT qs] (γ:=Unit) (λ_=>True) (λ_=>vI n) (λ_=>[ar b bT qs]):=by
 exact Tr.body func61 (c:=_) Q ntmps61 (Nat.le_of_ble_eq_true Q) λR0 F=>WP.seq<|WP.qB [(0,false)] kr<|go 1<|WP.seq<|WP.qB [(0,false),(1,false),(2,false),(3,false),(4,false)] kr<|go 3<|Dv.cextr (A:=ar b bT qs) Q T Q (Gs h0 func91 kr Q xf91 xg91) (ab 0 Q)<|go 1<|rt i2 Q () 1 [0] 0 (.cons (aQ Q) .nil)
theorem dH.c {b0_:Nat} (h:dH.f a0=some r):Tr prog 35 [iT b0_] [ar b0_ 137 [vI a0.fn.fv,vI a0.bw]] (γ:=Unit) (λ_=>True) (λg=>vI r) (λg=>[ar b0_ 137 [vI a0.fn.fv,vI a0.bw]]):=by
 refine tf func35 h λR0 F H=>?_
 refine so<|wr 5 0<|go 3<|mH 1 [0] (cL 61) (oU.c (b:=b0_) (off:=0) (bT:=137) (qs:=[vI a0.fn.fv,vI a0.bw]) (n:=a0.fn.fv) Q) ?_
 refine gq 1 ?_
 cases H.out;exact et () 1 [0] 0
theorem gY.c {p0_:OV} (h:gY.f a0=some r):Tr prog 9 [eq p0_.1] [bY.O p0_ a0] (γ:=Unit) (λ_=>True) (λg=>vI r) (λg=>[bY.O p0_ a0]):=by
 refine tf func9 h λR0 F H=>?_
 refine so<|wr 6 0<|go 1<|Dv.mD bY.nn Q T Q (ab 0 Q)<|vg (bY.eF 0 Q) λgb haa=>?_
 refine fp haa Q T Q FR<|gl 1 [0]<|vg (bI.eF 1 Q) λgc hac=>?_
 refine el H λta had H=>mH 10 [0,1,2,3,4,5,6,7,8,9] (cL 35) (Tr.fG (dH.c had (b0_:=gc)) (.cons (eb hac) .nil)) ?_
 refine go 1<|wg (bI.shut (p:=gb.2.1) (m:=a0.aG) gc hac (pm 10 [0,1,2,3,4,5,6,7,8,9])) λ_ _=>?_
 refine wg (bY.shut (p:=p0_) (m:=a0) (gb.1,gb.2.1,gb.2.2.1,gb.2.2.2.1,gb.2.2.2.2.1,gb.2.2.2.2.2.1,gb.2.2.2.2.2.2.1,gb.2.2.2.2.2.2.2.1,gb.2.2.2.2.2.2.2.2.1,gb.2.2.2.2.2.2.2.2.2) haa (pm 10 [1,0,2,3,4,5,6,7,8,9])) λ_ _=>?_
 cases H.out;exact et () 1 [0] 0
theorem eJ.c {m:bI} {b:Nat} {qs:Cs} {p:OV} {r:Int} (hq:qs[1]? = some (eq p.1)) (h:eJ.f m=some r):Tr prog 9 [iT b] [ar b 102 qs,bI.O p m] (γ:=Unit) (λ_=>True) (λg=>vI r) (λg=>[ar b 102 qs,bI.O p m]):=by
 unfold eJ.f at h
 refine Tr.body func9 (c:=_) Q ntmps9 (Nat.le_of_ble_eq_true Q) λR0 F=>so<|wr 6 0<|go 3<|ld 0 Q T Q sc82 Q ((congrArg (qs[·]?) (Nat.zero_add _)).trans hq)<|vg (bI.eF 1 Q) λq hb=>?_
 refine mH 2 [0,1] (cL 35) (Tr.fG (dH.c h (b0_:=q)) (.cons (eb hb) .nil)) ?_
 refine go 1<|WP.gh (l':=λ_:Unit=>[bI.O p m,ar b 102 qs]++F) (bL (bI.shut (p:=p) (m:=m) q hb (pm 2 [0,1]))) λ_ _=>?_
 exact et () 2 [1,0] 0
theorem jE.c {v0_0 v0_1:OV} {b0_:Nat} (h:jE.f a0=some r):Tr prog 62 [iT b0_] [ar b0_ 211 [vI a0.bw,eq v0_0.1,eq v0_1.1,vI a0.da],own aZ.K v0_0.1 a0.bA,mp aZ.kv (λx:ak=>agg (ak.enc x)) v0_1.1 a0.dA] (γ:=Unit) (λ_=>True) (λg=>vI r) (λg=>[ar b0_ 211 [vI a0.bw,eq v0_0.1,eq v0_1.1,vI a0.da],own aZ.K v0_0.1 a0.bA,mp aZ.kv (λx:ak=>agg (ak.enc x)) v0_1.1 a0.dA]):=by
 refine tf func62 h λR0 F H=>?_
 refine so<|wr 6 0<|gl 4 [0]<|Dv.kl Q T Q (ab 1 Q) nQ<|gq 1 ?_
 cases H.out;exact et () 3 [0,1,2] 0
theorem en.c {v0_0 v0_1 v0_2 v0_3 v0_4:OV} {b0_ d0_0 d0_1:Nat} {e0_0:v0_0.1 = .pointer (some ⟨d0_0,0,none⟩)} {e0_1:v0_1.1 = .pointer (some ⟨d0_1,0,none⟩)} (h:en.f a0=some r):Tr prog 37 [iT b0_] [ar b0_ 161 [eq v0_0.1,vS a0.av,vS a0.lf,eq v0_1.1,eq v0_2.1],ar d0_0 211 [vI a0.bC.bw,eq v0_3.1,eq v0_4.1,vI a0.bC.da],own aZ.K v0_3.1 a0.bC.bA,mp aZ.kv (λx:ak=>agg (ak.enc x)) v0_4.1 a0.bC.dA,ar d0_1 137 [vI a0.fX.fn.fv,vI a0.fX.bw],ig jU.O v0_2 a0.fair] (γ:=Unit) (λ_=>True) (λg=>vB r) (λg=>[ar b0_ 161 [eq v0_0.1,vS a0.av,vS a0.lf,eq v0_1.1,eq v0_2.1],ar d0_0 211 [vI a0.bC.bw,eq v0_3.1,eq v0_4.1,vI a0.bC.da],own aZ.K v0_3.1 a0.bC.bA,mp aZ.kv (λx:ak=>agg (ak.enc x)) v0_4.1 a0.bC.dA,ar d0_1 137 [vI a0.fX.fn.fv,vI a0.fX.bw],ig jU.O v0_2 a0.fair]):=by
 refine tf func37 h λR0 F H=>?_
 refine so<|wr 14 0<|gl 4 [0]<|Dv.Gx (λ_=>jU.nn) Q T Q Q Ih (ab 5 Q)<|gp 1 ?_
 rcases bm H with⟨ca,H⟩|⟨ca,H⟩
 ·refine sh 7 ca<|sh 8 ca<|gq 8 ?_
  cases H.out;exact et () 6 [0,1,2,3,4,5] 0
 refine sh 7 ca<|sh 8 ca<|gl 4 [0]<|el H λta haa H=>mH 6 [1,2,3,0,4,5] (cL 62) (Tr.fG (jE.c haa (b0_:=d0_0) (v0_0:=v0_3) (v0_1:=v0_4)) (.cons (eb e0_0) .nil)) ?_
 refine gq 3 ?_
 cases H.out;exact et () 6 [0,1,2,3,4,5] 0
theorem jl.c {p0_:OV} (h:jl.f a0=some r):Tr prog 11 [eq p0_.1] [bY.O p0_ a0] (γ:=Unit) (λ_=>True) (λg=>vB r) (λg=>[bY.O p0_ a0]):=by
  unfold jl.f at h
  refine tb func11 ntmps11 h λR0 F H=>?_
  refine WP.seq ?_
  refine rg 1 0 ?_
  refine Dv.uW Q T Q ?_
  refine .fin ?_
  obtain⟨ta,haa,hac⟩:=H
  refine WP.xX (β:=Unit) (λ_=>ta=true) (λ_=>[]) (λ_=>[bY.O p0_ a0]++F) (λb hb=>?_) ?_
  · replace hb:ta=true:=hb
    subst hb
    have H:aW (some true) (λv=>v=r):=⟨true,rfl,hac⟩
    refine WP.seq ?_
    refine rg 1 0 ?_
    refine Dv.uW Q T Q ?_
    refine .fin ?_
    obtain rfl:=aW.out H
    exact WP.u7 (λ_ _ h=>h) Q () T (.cons (aQ Q) .nil) Q (oX (L:=[bY.O p0_ a0]) (F:=F) [0] 0 Q Q Q)
  · refine WP.seq ?_
    refine rg 5 16 ?_
    refine Dv.mv Q T Q ?_
    refine Dv.mD bY.nn Q T Q (ab 0 Q) ?_
    refine Dv.gh (l':=λ(gb:Nat×OV×OV×OV×OV×OV×OV×OV×OV×OV)=>[ar gb.1 102 [vS a0.av,eq gb.2.1.1,eq gb.2.2.1.1,eq gb.2.2.2.1.1,eq gb.2.2.2.2.1.1,eq gb.2.2.2.2.2.1.1,eq gb.2.2.2.2.2.2.1.1,eq gb.2.2.2.2.2.2.2.1.1,eq gb.2.2.2.2.2.2.2.2.1.1,eq gb.2.2.2.2.2.2.2.2.2.1],bI.O gb.2.1 a0.aG,bI.O gb.2.2.1 a0.aq,au.O gb.2.2.2.1 a0.fall.aK,dE.O gb.2.2.2.2.1 a0.fall.aA,bG.O gb.2.2.2.2.2.1 a0.fall.ax,bJ.O gb.2.2.2.2.2.2.1 a0.fall.an,bE.O gb.2.2.2.2.2.2.2.1 a0.fall.bQ,Seen.O gb.2.2.2.2.2.2.2.2.1 a0.aI,iq Value.string aO.O gb.2.2.2.2.2.2.2.2.2.1 a0.aa]++F) (bL (bY.eF 0 Q)) (λgb had=>?_)
    refine fp had Q T Q p9 ?_
    refine jf 1 [0] ?_
    refine Dv.gh (l':=λdY:List OV=>[mp Value.string (λp:OV=>eq p.1) gb.2.2.2.2.2.2.2.2.2.1 (aU a0.aa dY),lQ aO.O a0.aa dY,ar gb.1 102 [vS a0.av,eq gb.2.1.1,eq gb.2.2.1.1,eq gb.2.2.2.1.1,eq gb.2.2.2.2.1.1,eq gb.2.2.2.2.2.1.1,eq gb.2.2.2.2.2.2.1.1,eq gb.2.2.2.2.2.2.2.1.1,eq gb.2.2.2.2.2.2.2.2.1.1,eq gb.2.2.2.2.2.2.2.2.2.1],bI.O gb.2.1 a0.aG,bI.O gb.2.2.1 a0.aq,au.O gb.2.2.2.1 a0.fall.aK,dE.O gb.2.2.2.2.1 a0.fall.aA,bG.O gb.2.2.2.2.2.1 a0.fall.ax,bJ.O gb.2.2.2.2.2.2.1 a0.fall.an,bE.O gb.2.2.2.2.2.2.2.1 a0.fall.bQ,Seen.O gb.2.2.2.2.2.2.2.2.1 a0.aI]++F) (bL (kn 9 Q)) (λdY hae=>?_)
    refine Dv.Jp (jj:=0) Q T Q Q yW nofun (λqa=>?_)
    refine .fin ?_
    refine WP.gh (l':=λ_:Unit=>[kG Value.string (λp:OV=>eq p.1) gb.2.2.2.2.2.2.2.2.2.1 qa.1 (aU a0.aa dY) [],lQ aO.O a0.aa dY,ar gb.1 102 [vS a0.av,eq gb.2.1.1,eq gb.2.2.1.1,eq gb.2.2.2.1.1,eq gb.2.2.2.2.1.1,eq gb.2.2.2.2.2.1.1,eq gb.2.2.2.2.2.2.1.1,eq gb.2.2.2.2.2.2.2.1.1,eq gb.2.2.2.2.2.2.2.2.1.1,eq gb.2.2.2.2.2.2.2.2.2.1],bI.O gb.2.1 a0.aG,bI.O gb.2.2.1 a0.aq,au.O gb.2.2.2.1 a0.fall.aK,dE.O gb.2.2.2.2.1 a0.fall.aA,bG.O gb.2.2.2.2.2.1 a0.fall.ax,bJ.O gb.2.2.2.2.2.2.1 a0.fall.an,bE.O gb.2.2.2.2.2.2.2.1 a0.fall.bQ,Seen.O gb.2.2.2.2.2.2.2.2.1 a0.aI]++F) (bL (ok:=λ_=>True) λR w k=>⟨(),T,k⟩) (λ_ _=>?_)
    refine WP.block ?_
    refine WP.fG (E':=(λ_:List Nat=>[(9,eq qa.1)]) []) (aH Q dD) (WP.loop (β:=List Nat) (λkk is=>is.length+kk=a0.aa.length/\∀ i∈is,∀ e,a0.aa[i]? = some e->en.f e.2=some true) (λ_=>[(9,eq qa.1)]) (λis=>[kG Value.string (λp:OV=>eq p.1) gb.2.2.2.2.2.2.2.2.2.1 qa.1 (aU a0.aa dY) is,lQ aO.O a0.aa dY,ar gb.1 102 [vS a0.av,eq gb.2.1.1,eq gb.2.2.1.1,eq gb.2.2.2.1.1,eq gb.2.2.2.2.1.1,eq gb.2.2.2.2.2.1.1,eq gb.2.2.2.2.2.2.1.1,eq gb.2.2.2.2.2.2.2.1.1,eq gb.2.2.2.2.2.2.2.2.1.1,eq gb.2.2.2.2.2.2.2.2.2.1],bI.O gb.2.1 a0.aG,bI.O gb.2.2.1 a0.aq,au.O gb.2.2.2.1 a0.fall.aK,dE.O gb.2.2.2.2.1 a0.fall.aA,bG.O gb.2.2.2.2.2.1 a0.fall.ax,bJ.O gb.2.2.2.2.2.2.1 a0.fall.an,bE.O gb.2.2.2.2.2.2.2.1 a0.fall.bQ,Seen.O gb.2.2.2.2.2.2.2.2.1 a0.aI]++F) ?_ (k:=a0.aa.length) (b:=[]) ⟨Nat.zero_add _,nofun⟩)
    intro kk is hk
    obtain⟨hk,hI⟩:=hk
    refine wr 2 1<|Dv.Jg (jj:=0) Q T Q Q nofun (λz hz=>?_)
    rcases z with _ | j
    · have hz:is.Perm (List.range (aU a0.aa dY).length):=hz
      rw [mR hae.1] at hz
      have hT:ta=true:=wX haa (λj e hj=>hI j (hz.mem_iff.2 (List.mem_range.2 (List.getElem?_eq_some_iff.1 hj).1)) e hj)
      refine dZ Q T Q Q<|.fin<|WP.seq<|WP.cond Q nofun (λ_=>WP.exit ?_)
      refine Dn.gh (l':=λ_:Unit=>[kG Value.string (λp:OV=>eq p.1) gb.2.2.2.2.2.2.2.2.2.1 qa.1 (aU a0.aa dY) is,lQ aO.O a0.aa dY,ar gb.1 102 [vS a0.av,eq gb.2.1.1,eq gb.2.2.1.1,eq gb.2.2.2.1.1,eq gb.2.2.2.2.1.1,eq gb.2.2.2.2.2.1.1,eq gb.2.2.2.2.2.2.1.1,eq gb.2.2.2.2.2.2.2.1.1,eq gb.2.2.2.2.2.2.2.2.1.1,eq gb.2.2.2.2.2.2.2.2.2.1],bI.O gb.2.1 a0.aG,bI.O gb.2.2.1 a0.aq,au.O gb.2.2.2.1 a0.fall.aK,dE.O gb.2.2.2.2.1 a0.fall.aA,bG.O gb.2.2.2.2.2.1 a0.fall.ax,bJ.O gb.2.2.2.2.2.2.1 a0.fall.an,bE.O gb.2.2.2.2.2.2.2.1 a0.fall.bQ,Seen.O gb.2.2.2.2.2.2.2.2.1 a0.aI]++F) (bL (ok:=λ_=>True) λR w k=>⟨(),T,k⟩) (λ_ _=>?_)
      refine Dn.gh (l':=λ_:Unit=>[mp Value.string (λp:OV=>eq p.1) gb.2.2.2.2.2.2.2.2.2.1 (aU a0.aa dY),lQ aO.O a0.aa dY,ar gb.1 102 [vS a0.av,eq gb.2.1.1,eq gb.2.2.1.1,eq gb.2.2.2.1.1,eq gb.2.2.2.2.1.1,eq gb.2.2.2.2.2.1.1,eq gb.2.2.2.2.2.2.1.1,eq gb.2.2.2.2.2.2.2.1.1,eq gb.2.2.2.2.2.2.2.2.1.1,eq gb.2.2.2.2.2.2.2.2.2.1],bI.O gb.2.1 a0.aG,bI.O gb.2.2.1 a0.aq,au.O gb.2.2.2.1 a0.fall.aK,dE.O gb.2.2.2.2.1 a0.fall.aA,bG.O gb.2.2.2.2.2.1 a0.fall.ax,bJ.O gb.2.2.2.2.2.2.1 a0.fall.an,bE.O gb.2.2.2.2.2.2.2.1 a0.fall.bQ,Seen.O gb.2.2.2.2.2.2.2.2.1 a0.aI]++F) (bL (rB (pm 11 [0,1,2,3,4,5,6,7,8,9,10]))) (λ_ _=>?_)
      refine Dn.gh (l':=λ_:Unit=>[iq Value.string aO.O gb.2.2.2.2.2.2.2.2.2.1 a0.aa,ar gb.1 102 [vS a0.av,eq gb.2.1.1,eq gb.2.2.1.1,eq gb.2.2.2.1.1,eq gb.2.2.2.2.1.1,eq gb.2.2.2.2.2.1.1,eq gb.2.2.2.2.2.2.1.1,eq gb.2.2.2.2.2.2.2.1.1,eq gb.2.2.2.2.2.2.2.2.1.1,eq gb.2.2.2.2.2.2.2.2.2.1],bI.O gb.2.1 a0.aG,bI.O gb.2.2.1 a0.aq,au.O gb.2.2.2.1 a0.fall.aK,dE.O gb.2.2.2.2.1 a0.fall.aA,bG.O gb.2.2.2.2.2.1 a0.fall.ax,bJ.O gb.2.2.2.2.2.2.1 a0.fall.an,bE.O gb.2.2.2.2.2.2.2.1 a0.fall.bQ,Seen.O gb.2.2.2.2.2.2.2.2.1 a0.aI]++F) (bL (eL hae Q (bN (L:=[mp Value.string (λp:OV=>eq p.1) gb.2.2.2.2.2.2.2.2.2.1 (aU a0.aa dY),lQ aO.O a0.aa dY,ar gb.1 102 [vS a0.av,eq gb.2.1.1,eq gb.2.2.1.1,eq gb.2.2.2.1.1,eq gb.2.2.2.2.1.1,eq gb.2.2.2.2.2.1.1,eq gb.2.2.2.2.2.2.1.1,eq gb.2.2.2.2.2.2.2.1.1,eq gb.2.2.2.2.2.2.2.2.1.1,eq gb.2.2.2.2.2.2.2.2.2.1],bI.O gb.2.1 a0.aG,bI.O gb.2.2.1 a0.aq,au.O gb.2.2.2.1 a0.fall.aK,dE.O gb.2.2.2.2.1 a0.fall.aA,bG.O gb.2.2.2.2.2.1 a0.fall.ax,bJ.O gb.2.2.2.2.2.2.1 a0.fall.an,bE.O gb.2.2.2.2.2.2.2.1 a0.fall.bQ,Seen.O gb.2.2.2.2.2.2.2.2.1 a0.aI]) (F:=F) [0,1,2,3,4,5,6,7,8,9,10] kr Q Q))) (λ_ _=>?_)
      refine Dn.gh (l':=λ_:Unit=>[bY.O p0_ a0]++F) (bL (bY.shut (p:=p0_) (m:=a0) (r:=F) (gb.1,gb.2.1,gb.2.2.1,gb.2.2.2.1,gb.2.2.2.2.1,gb.2.2.2.2.2.1,gb.2.2.2.2.2.2.1,gb.2.2.2.2.2.2.2.1,gb.2.2.2.2.2.2.2.2.1,gb.2.2.2.2.2.2.2.2.2) had (bN (L:=[iq Value.string aO.O gb.2.2.2.2.2.2.2.2.2.1 a0.aa,ar gb.1 102 [vS a0.av,eq gb.2.1.1,eq gb.2.2.1.1,eq gb.2.2.2.1.1,eq gb.2.2.2.2.1.1,eq gb.2.2.2.2.2.1.1,eq gb.2.2.2.2.2.2.1.1,eq gb.2.2.2.2.2.2.2.1.1,eq gb.2.2.2.2.2.2.2.2.1.1,eq gb.2.2.2.2.2.2.2.2.2.1],bI.O gb.2.1 a0.aG,bI.O gb.2.2.1 a0.aq,au.O gb.2.2.2.1 a0.fall.aK,dE.O gb.2.2.2.2.1 a0.fall.aA,bG.O gb.2.2.2.2.2.1 a0.fall.ax,bJ.O gb.2.2.2.2.2.2.1 a0.fall.an,bE.O gb.2.2.2.2.2.2.2.1 a0.fall.bQ,Seen.O gb.2.2.2.2.2.2.2.2.1 a0.aI]) (F:=F) [1,2,3,4,5,6,7,8,9,0] kr Q Q))) (λ_ _=>?_)
      exact Jn.mk () hT dD (List.Perm.refl _)
    have hz:j<(aU a0.aa dY).length/\j ∉ is/\is.length<(aU a0.aa dY).length:=hz
    obtain⟨e,p,he,hp,hep⟩:=r6 hae hz.1
    have hlt:is.length<a0.aa.length:=by rw [<- mR hae.1];exact hz.2.2
    have e1:nxV Value.string (λp:OV=>eq p.1) (aU a0.aa dY) (some j)=lg [vB true,vS e.1,eq p.1]:=by simp only [nxV,hep]
    rw [e1]
    refine dZ Q T Q Q<|.fin<|WP.seq<|WP.cond Q (λ_=>WP.skip ?_) nofun
    refine WP.gh (l':=λ_:Unit=>[kG Value.string (λp:OV=>eq p.1) gb.2.2.2.2.2.2.2.2.2.1 qa.1 (aU a0.aa dY) (is++[j]),lQ aO.O a0.aa dY,ar gb.1 102 [vS a0.av,eq gb.2.1.1,eq gb.2.2.1.1,eq gb.2.2.2.1.1,eq gb.2.2.2.2.1.1,eq gb.2.2.2.2.2.1.1,eq gb.2.2.2.2.2.2.1.1,eq gb.2.2.2.2.2.2.2.1.1,eq gb.2.2.2.2.2.2.2.2.1.1,eq gb.2.2.2.2.2.2.2.2.2.1],bI.O gb.2.1 a0.aG,bI.O gb.2.2.1 a0.aq,au.O gb.2.2.2.1 a0.fall.aK,dE.O gb.2.2.2.2.1 a0.fall.aA,bG.O gb.2.2.2.2.2.1 a0.fall.ax,bJ.O gb.2.2.2.2.2.2.1 a0.fall.an,bE.O gb.2.2.2.2.2.2.2.1 a0.fall.bQ,Seen.O gb.2.2.2.2.2.2.2.2.1 a0.aI]++F) (bL (ok:=λ_=>True) λR w k=>⟨(),T,k⟩) (λ_ _=>?_)
    refine WP.block<|wr 3 0<|Dv.Jr 0 Q T Q Q hep ?_
    refine dZ Q T Q Q<|gq 1 ?_
    refine WP.gh (l':=λ_:Unit=>[aO.O p e.2,mG aO.O a0.aa dY j,kG Value.string (λp:OV=>eq p.1) gb.2.2.2.2.2.2.2.2.2.1 qa.1 (aU a0.aa dY) (is++[j]),ar gb.1 102 [vS a0.av,eq gb.2.1.1,eq gb.2.2.1.1,eq gb.2.2.2.1.1,eq gb.2.2.2.2.1.1,eq gb.2.2.2.2.2.1.1,eq gb.2.2.2.2.2.2.1.1,eq gb.2.2.2.2.2.2.2.1.1,eq gb.2.2.2.2.2.2.2.2.1.1,eq gb.2.2.2.2.2.2.2.2.2.1],bI.O gb.2.1 a0.aG,bI.O gb.2.2.1 a0.aq,au.O gb.2.2.2.1 a0.fall.aK,dE.O gb.2.2.2.2.1 a0.fall.aA,bG.O gb.2.2.2.2.2.1 a0.fall.ax,bJ.O gb.2.2.2.2.2.2.1 a0.fall.an,bE.O gb.2.2.2.2.2.2.2.1 a0.fall.bQ,Seen.O gb.2.2.2.2.2.2.2.2.1 a0.aI]++F) (bL (B1 he hp (pm 11 [1,0,2,3,4,5,6,7,8,9,10]))) (λ_ _=>?_)
    obtain⟨ib,hib⟩:=yJ haa he
    have H:aW ((en.f e.2).bind λtc=>cond (!tc) (some ()) (some ())) (λ_:Unit=>True):=by rw [show en.f e.2=some ib from hib];cases ib <;> exact⟨_,rfl,trivial⟩
    refine WP.seq ?_
    refine rg 3 0 ?_
    refine Dv.mv Q T Q ?_
    refine Dv.gh (l':=λ(gc:Nat×OV×OV×OV)=>[ar gc.1 161 [eq gc.2.1.1,vS e.2.av,vS e.2.lf,eq gc.2.2.1.1,eq gc.2.2.2.1],cF.O gc.2.1 e.2.bC,bI.O gc.2.2.1 e.2.fX,ig jU.O gc.2.2.2 e.2.fair,mG aO.O a0.aa dY j,kG Value.string (λp:OV=>eq p.1) gb.2.2.2.2.2.2.2.2.2.1 qa.1 (aU a0.aa dY) (is++[j]),ar gb.1 102 [vS a0.av,eq gb.2.1.1,eq gb.2.2.1.1,eq gb.2.2.2.1.1,eq gb.2.2.2.2.1.1,eq gb.2.2.2.2.2.1.1,eq gb.2.2.2.2.2.2.1.1,eq gb.2.2.2.2.2.2.2.1.1,eq gb.2.2.2.2.2.2.2.2.1.1,eq gb.2.2.2.2.2.2.2.2.2.1],bI.O gb.2.1 a0.aG,bI.O gb.2.2.1 a0.aq,au.O gb.2.2.2.1 a0.fall.aK,dE.O gb.2.2.2.2.1 a0.fall.aA,bG.O gb.2.2.2.2.2.1 a0.fall.ax,bJ.O gb.2.2.2.2.2.2.1 a0.fall.an,bE.O gb.2.2.2.2.2.2.2.1 a0.fall.bQ,Seen.O gb.2.2.2.2.2.2.2.2.1 a0.aI]++F) (bL (aO.eF 0 Q)) (λgc haf=>?_)
    refine Dv.gh (l':=λ(gi:Nat×OV×OV)=>[ar gi.1 211 [vI e.2.bC.bw,eq gi.2.1.1,eq gi.2.2.1,vI e.2.bC.da],own aZ.K gi.2.1.1 e.2.bC.bA,mp aZ.kv (λx:ak=>agg (ak.enc x)) gi.2.2.1 e.2.bC.dA,ar gc.1 161 [eq gc.2.1.1,vS e.2.av,vS e.2.lf,eq gc.2.2.1.1,eq gc.2.2.2.1],bI.O gc.2.2.1 e.2.fX,ig jU.O gc.2.2.2 e.2.fair,mG aO.O a0.aa dY j,kG Value.string (λp:OV=>eq p.1) gb.2.2.2.2.2.2.2.2.2.1 qa.1 (aU a0.aa dY) (is++[j]),ar gb.1 102 [vS a0.av,eq gb.2.1.1,eq gb.2.2.1.1,eq gb.2.2.2.1.1,eq gb.2.2.2.2.1.1,eq gb.2.2.2.2.2.1.1,eq gb.2.2.2.2.2.2.1.1,eq gb.2.2.2.2.2.2.2.1.1,eq gb.2.2.2.2.2.2.2.2.1.1,eq gb.2.2.2.2.2.2.2.2.2.1],bI.O gb.2.1 a0.aG,bI.O gb.2.2.1 a0.aq,au.O gb.2.2.2.1 a0.fall.aK,dE.O gb.2.2.2.2.1 a0.fall.aA,bG.O gb.2.2.2.2.2.1 a0.fall.ax,bJ.O gb.2.2.2.2.2.2.1 a0.fall.an,bE.O gb.2.2.2.2.2.2.2.1 a0.fall.bQ,Seen.O gb.2.2.2.2.2.2.2.2.1 a0.aI]++F) (bL (cF.eF 1 Q)) (λgi hag=>?_)
    refine Dv.gh (l':=λ(gj:Nat)=>[ar gj 137 [vI e.2.fX.fn.fv,vI e.2.fX.bw],ar gi.1 211 [vI e.2.bC.bw,eq gi.2.1.1,eq gi.2.2.1,vI e.2.bC.da],own aZ.K gi.2.1.1 e.2.bC.bA,mp aZ.kv (λx:ak=>agg (ak.enc x)) gi.2.2.1 e.2.bC.dA,ar gc.1 161 [eq gc.2.1.1,vS e.2.av,vS e.2.lf,eq gc.2.2.1.1,eq gc.2.2.2.1],ig jU.O gc.2.2.2 e.2.fair,mG aO.O a0.aa dY j,kG Value.string (λp:OV=>eq p.1) gb.2.2.2.2.2.2.2.2.2.1 qa.1 (aU a0.aa dY) (is++[j]),ar gb.1 102 [vS a0.av,eq gb.2.1.1,eq gb.2.2.1.1,eq gb.2.2.2.1.1,eq gb.2.2.2.2.1.1,eq gb.2.2.2.2.2.1.1,eq gb.2.2.2.2.2.2.1.1,eq gb.2.2.2.2.2.2.2.1.1,eq gb.2.2.2.2.2.2.2.2.1.1,eq gb.2.2.2.2.2.2.2.2.2.1],bI.O gb.2.1 a0.aG,bI.O gb.2.2.1 a0.aq,au.O gb.2.2.2.1 a0.fall.aK,dE.O gb.2.2.2.2.1 a0.fall.aA,bG.O gb.2.2.2.2.2.1 a0.fall.ax,bJ.O gb.2.2.2.2.2.2.1 a0.fall.an,bE.O gb.2.2.2.2.2.2.2.1 a0.fall.bQ,Seen.O gb.2.2.2.2.2.2.2.2.1 a0.aI]++F) (bL (bI.eF 4 Q)) (λgj hah=>?_)
    obtain⟨tc,hai,H⟩:=aW.call H
    refine Dv.D1 (B:=[ar gc.1 161 [eq gc.2.1.1,vS e.2.av,vS e.2.lf,eq gc.2.2.1.1,eq gc.2.2.2.1],ar gi.1 211 [vI e.2.bC.bw,eq gi.2.1.1,eq gi.2.2.1,vI e.2.bC.da],own aZ.K gi.2.1.1 e.2.bC.bA,mp aZ.kv (λx:ak=>agg (ak.enc x)) gi.2.2.1 e.2.bC.dA,ar gj 137 [vI e.2.fX.fn.fv,vI e.2.fX.bw],ig jU.O gc.2.2.2 e.2.fair]) (F:=[mG aO.O a0.aa dY j,kG Value.string (λp:OV=>eq p.1) gb.2.2.2.2.2.2.2.2.2.1 qa.1 (aU a0.aa dY) (is++[j]),ar gb.1 102 [vS a0.av,eq gb.2.1.1,eq gb.2.2.1.1,eq gb.2.2.2.1.1,eq gb.2.2.2.2.1.1,eq gb.2.2.2.2.2.1.1,eq gb.2.2.2.2.2.2.1.1,eq gb.2.2.2.2.2.2.2.1.1,eq gb.2.2.2.2.2.2.2.2.1.1,eq gb.2.2.2.2.2.2.2.2.2.1],bI.O gb.2.1 a0.aG,bI.O gb.2.2.1 a0.aq,au.O gb.2.2.2.1 a0.fall.aK,dE.O gb.2.2.2.2.1 a0.fall.aA,bG.O gb.2.2.2.2.2.1 a0.fall.ax,bJ.O gb.2.2.2.2.2.2.1 a0.fall.an,bE.O gb.2.2.2.2.2.2.2.1 a0.fall.bQ,Seen.O gb.2.2.2.2.2.2.2.2.1 a0.aI]++F) Q T (cL 37) Q (Tr.fG (en.c hai (b0_:=gc.1) (v0_0:=gc.2.1) (v0_1:=gc.2.2.1) (v0_2:=gc.2.2.2) (v0_3:=gi.2.1) (v0_4:=gi.2.2) (d0_0:=gi.1) (e0_0:=hag) (d0_1:=gj) (e0_1:=hah)) (.cons (eb haf) .nil)) (bN (L:=[ar gj 137 [vI e.2.fX.fn.fv,vI e.2.fX.bw],ar gi.1 211 [vI e.2.bC.bw,eq gi.2.1.1,eq gi.2.2.1,vI e.2.bC.da],own aZ.K gi.2.1.1 e.2.bC.bA,mp aZ.kv (λx:ak=>agg (ak.enc x)) gi.2.2.1 e.2.bC.dA,ar gc.1 161 [eq gc.2.1.1,vS e.2.av,vS e.2.lf,eq gc.2.2.1.1,eq gc.2.2.2.1],ig jU.O gc.2.2.2 e.2.fair,mG aO.O a0.aa dY j,kG Value.string (λp:OV=>eq p.1) gb.2.2.2.2.2.2.2.2.2.1 qa.1 (aU a0.aa dY) (is++[j]),ar gb.1 102 [vS a0.av,eq gb.2.1.1,eq gb.2.2.1.1,eq gb.2.2.2.1.1,eq gb.2.2.2.2.1.1,eq gb.2.2.2.2.2.1.1,eq gb.2.2.2.2.2.2.1.1,eq gb.2.2.2.2.2.2.2.1.1,eq gb.2.2.2.2.2.2.2.2.1.1,eq gb.2.2.2.2.2.2.2.2.2.1],bI.O gb.2.1 a0.aG,bI.O gb.2.2.1 a0.aq,au.O gb.2.2.2.1 a0.fall.aK,dE.O gb.2.2.2.2.1 a0.fall.aA,bG.O gb.2.2.2.2.2.1 a0.fall.ax,bJ.O gb.2.2.2.2.2.2.1 a0.fall.an,bE.O gb.2.2.2.2.2.2.2.1 a0.fall.bQ,Seen.O gb.2.2.2.2.2.2.2.2.1 a0.aI]) (F:=F) [4,1,2,3,0,5,6,7,8,9,10,11,12,13,14,15,16] kr Q Q) ?_
    refine Dv.un Q T Q (λ_=>rk _) ?_
    refine .fin ?_
    refine WP.cond Q (λca=>?_) (λca=>?_)
    · have H:=H.ct ca
      refine WP.seq ?_
      refine rg 1 0 ?_
      refine Dv.uW Q T Q ?_
      refine .fin ?_
      have e8:tc=false:=by simpa using ‹(!tc)=true›
      have e9:ta=false:=vx haa he (by show en.f e.2=some false;rw [<- e8];assumption)
      subst e9
      have H:aW (some false) (λv=>v=r):=⟨false,rfl,hac⟩
      refine WP.gh (l':=λ_:Unit=>[cF.O gc.2.1 e.2.bC,ar gj 137 [vI e.2.fX.fn.fv,vI e.2.fX.bw],ar gc.1 161 [eq gc.2.1.1,vS e.2.av,vS e.2.lf,eq gc.2.2.1.1,eq gc.2.2.2.1],ig jU.O gc.2.2.2 e.2.fair,mG aO.O a0.aa dY j,kG Value.string (λp:OV=>eq p.1) gb.2.2.2.2.2.2.2.2.2.1 qa.1 (aU a0.aa dY) (is++[j]),ar gb.1 102 [vS a0.av,eq gb.2.1.1,eq gb.2.2.1.1,eq gb.2.2.2.1.1,eq gb.2.2.2.2.1.1,eq gb.2.2.2.2.2.1.1,eq gb.2.2.2.2.2.2.1.1,eq gb.2.2.2.2.2.2.2.1.1,eq gb.2.2.2.2.2.2.2.2.1.1,eq gb.2.2.2.2.2.2.2.2.2.1],bI.O gb.2.1 a0.aG,bI.O gb.2.2.1 a0.aq,au.O gb.2.2.2.1 a0.fall.aK,dE.O gb.2.2.2.2.1 a0.fall.aA,bG.O gb.2.2.2.2.2.1 a0.fall.ax,bJ.O gb.2.2.2.2.2.2.1 a0.fall.an,bE.O gb.2.2.2.2.2.2.2.1 a0.fall.bQ,Seen.O gb.2.2.2.2.2.2.2.2.1 a0.aI]++F) (bL (cF.shut (p:=gc.2.1) (m:=e.2.bC) (r:=[ar gj 137 [vI e.2.fX.fn.fv,vI e.2.fX.bw],ar gc.1 161 [eq gc.2.1.1,vS e.2.av,vS e.2.lf,eq gc.2.2.1.1,eq gc.2.2.2.1],ig jU.O gc.2.2.2 e.2.fair,mG aO.O a0.aa dY j,kG Value.string (λp:OV=>eq p.1) gb.2.2.2.2.2.2.2.2.2.1 qa.1 (aU a0.aa dY) (is++[j]),ar gb.1 102 [vS a0.av,eq gb.2.1.1,eq gb.2.2.1.1,eq gb.2.2.2.1.1,eq gb.2.2.2.2.1.1,eq gb.2.2.2.2.2.1.1,eq gb.2.2.2.2.2.2.1.1,eq gb.2.2.2.2.2.2.2.1.1,eq gb.2.2.2.2.2.2.2.2.1.1,eq gb.2.2.2.2.2.2.2.2.2.1],bI.O gb.2.1 a0.aG,bI.O gb.2.2.1 a0.aq,au.O gb.2.2.2.1 a0.fall.aK,dE.O gb.2.2.2.2.1 a0.fall.aA,bG.O gb.2.2.2.2.2.1 a0.fall.ax,bJ.O gb.2.2.2.2.2.2.1 a0.fall.an,bE.O gb.2.2.2.2.2.2.2.1 a0.fall.bQ,Seen.O gb.2.2.2.2.2.2.2.2.1 a0.aI]++F) (gi.1,gi.2.1,gi.2.2) hag (bN (L:=[ar gj 137 [vI e.2.fX.fn.fv,vI e.2.fX.bw],ar gi.1 211 [vI e.2.bC.bw,eq gi.2.1.1,eq gi.2.2.1,vI e.2.bC.da],own aZ.K gi.2.1.1 e.2.bC.bA,mp aZ.kv (λx:ak=>agg (ak.enc x)) gi.2.2.1 e.2.bC.dA,ar gc.1 161 [eq gc.2.1.1,vS e.2.av,vS e.2.lf,eq gc.2.2.1.1,eq gc.2.2.2.1],ig jU.O gc.2.2.2 e.2.fair,mG aO.O a0.aa dY j,kG Value.string (λp:OV=>eq p.1) gb.2.2.2.2.2.2.2.2.2.1 qa.1 (aU a0.aa dY) (is++[j]),ar gb.1 102 [vS a0.av,eq gb.2.1.1,eq gb.2.2.1.1,eq gb.2.2.2.1.1,eq gb.2.2.2.2.1.1,eq gb.2.2.2.2.2.1.1,eq gb.2.2.2.2.2.2.1.1,eq gb.2.2.2.2.2.2.2.1.1,eq gb.2.2.2.2.2.2.2.2.1.1,eq gb.2.2.2.2.2.2.2.2.2.1],bI.O gb.2.1 a0.aG,bI.O gb.2.2.1 a0.aq,au.O gb.2.2.2.1 a0.fall.aK,dE.O gb.2.2.2.2.1 a0.fall.aA,bG.O gb.2.2.2.2.2.1 a0.fall.ax,bJ.O gb.2.2.2.2.2.2.1 a0.fall.an,bE.O gb.2.2.2.2.2.2.2.1 a0.fall.bQ,Seen.O gb.2.2.2.2.2.2.2.2.1 a0.aI]) (F:=F) [1,2,3,0,4,5,6,7,8,9,10,11,12,13,14,15,16] kr Q Q))) (λ_ _=>?_)
      refine WP.gh (l':=λ_:Unit=>[bI.O gc.2.2.1 e.2.fX,cF.O gc.2.1 e.2.bC,ar gc.1 161 [eq gc.2.1.1,vS e.2.av,vS e.2.lf,eq gc.2.2.1.1,eq gc.2.2.2.1],ig jU.O gc.2.2.2 e.2.fair,mG aO.O a0.aa dY j,kG Value.string (λp:OV=>eq p.1) gb.2.2.2.2.2.2.2.2.2.1 qa.1 (aU a0.aa dY) (is++[j]),ar gb.1 102 [vS a0.av,eq gb.2.1.1,eq gb.2.2.1.1,eq gb.2.2.2.1.1,eq gb.2.2.2.2.1.1,eq gb.2.2.2.2.2.1.1,eq gb.2.2.2.2.2.2.1.1,eq gb.2.2.2.2.2.2.2.1.1,eq gb.2.2.2.2.2.2.2.2.1.1,eq gb.2.2.2.2.2.2.2.2.2.1],bI.O gb.2.1 a0.aG,bI.O gb.2.2.1 a0.aq,au.O gb.2.2.2.1 a0.fall.aK,dE.O gb.2.2.2.2.1 a0.fall.aA,bG.O gb.2.2.2.2.2.1 a0.fall.ax,bJ.O gb.2.2.2.2.2.2.1 a0.fall.an,bE.O gb.2.2.2.2.2.2.2.1 a0.fall.bQ,Seen.O gb.2.2.2.2.2.2.2.2.1 a0.aI]++F) (bL (bI.shut (p:=gc.2.2.1) (m:=e.2.fX) (r:=[cF.O gc.2.1 e.2.bC,ar gc.1 161 [eq gc.2.1.1,vS e.2.av,vS e.2.lf,eq gc.2.2.1.1,eq gc.2.2.2.1],ig jU.O gc.2.2.2 e.2.fair,mG aO.O a0.aa dY j,kG Value.string (λp:OV=>eq p.1) gb.2.2.2.2.2.2.2.2.2.1 qa.1 (aU a0.aa dY) (is++[j]),ar gb.1 102 [vS a0.av,eq gb.2.1.1,eq gb.2.2.1.1,eq gb.2.2.2.1.1,eq gb.2.2.2.2.1.1,eq gb.2.2.2.2.2.1.1,eq gb.2.2.2.2.2.2.1.1,eq gb.2.2.2.2.2.2.2.1.1,eq gb.2.2.2.2.2.2.2.2.1.1,eq gb.2.2.2.2.2.2.2.2.2.1],bI.O gb.2.1 a0.aG,bI.O gb.2.2.1 a0.aq,au.O gb.2.2.2.1 a0.fall.aK,dE.O gb.2.2.2.2.1 a0.fall.aA,bG.O gb.2.2.2.2.2.1 a0.fall.ax,bJ.O gb.2.2.2.2.2.2.1 a0.fall.an,bE.O gb.2.2.2.2.2.2.2.1 a0.fall.bQ,Seen.O gb.2.2.2.2.2.2.2.2.1 a0.aI]++F) gj hah (bN (L:=[cF.O gc.2.1 e.2.bC,ar gj 137 [vI e.2.fX.fn.fv,vI e.2.fX.bw],ar gc.1 161 [eq gc.2.1.1,vS e.2.av,vS e.2.lf,eq gc.2.2.1.1,eq gc.2.2.2.1],ig jU.O gc.2.2.2 e.2.fair,mG aO.O a0.aa dY j,kG Value.string (λp:OV=>eq p.1) gb.2.2.2.2.2.2.2.2.2.1 qa.1 (aU a0.aa dY) (is++[j]),ar gb.1 102 [vS a0.av,eq gb.2.1.1,eq gb.2.2.1.1,eq gb.2.2.2.1.1,eq gb.2.2.2.2.1.1,eq gb.2.2.2.2.2.1.1,eq gb.2.2.2.2.2.2.1.1,eq gb.2.2.2.2.2.2.2.1.1,eq gb.2.2.2.2.2.2.2.2.1.1,eq gb.2.2.2.2.2.2.2.2.2.1],bI.O gb.2.1 a0.aG,bI.O gb.2.2.1 a0.aq,au.O gb.2.2.2.1 a0.fall.aK,dE.O gb.2.2.2.2.1 a0.fall.aA,bG.O gb.2.2.2.2.2.1 a0.fall.ax,bJ.O gb.2.2.2.2.2.2.1 a0.fall.an,bE.O gb.2.2.2.2.2.2.2.1 a0.fall.bQ,Seen.O gb.2.2.2.2.2.2.2.2.1 a0.aI]) (F:=F) [1,0,2,3,4,5,6,7,8,9,10,11,12,13,14] kr Q Q))) (λ_ _=>?_)
      refine WP.gh (l':=λ_:Unit=>[aO.O p e.2,mG aO.O a0.aa dY j,kG Value.string (λp:OV=>eq p.1) gb.2.2.2.2.2.2.2.2.2.1 qa.1 (aU a0.aa dY) (is++[j]),ar gb.1 102 [vS a0.av,eq gb.2.1.1,eq gb.2.2.1.1,eq gb.2.2.2.1.1,eq gb.2.2.2.2.1.1,eq gb.2.2.2.2.2.1.1,eq gb.2.2.2.2.2.2.1.1,eq gb.2.2.2.2.2.2.2.1.1,eq gb.2.2.2.2.2.2.2.2.1.1,eq gb.2.2.2.2.2.2.2.2.2.1],bI.O gb.2.1 a0.aG,bI.O gb.2.2.1 a0.aq,au.O gb.2.2.2.1 a0.fall.aK,dE.O gb.2.2.2.2.1 a0.fall.aA,bG.O gb.2.2.2.2.2.1 a0.fall.ax,bJ.O gb.2.2.2.2.2.2.1 a0.fall.an,bE.O gb.2.2.2.2.2.2.2.1 a0.fall.bQ,Seen.O gb.2.2.2.2.2.2.2.2.1 a0.aI]++F) (bL (aO.shut (p:=p) (m:=e.2) (r:=[mG aO.O a0.aa dY j,kG Value.string (λp:OV=>eq p.1) gb.2.2.2.2.2.2.2.2.2.1 qa.1 (aU a0.aa dY) (is++[j]),ar gb.1 102 [vS a0.av,eq gb.2.1.1,eq gb.2.2.1.1,eq gb.2.2.2.1.1,eq gb.2.2.2.2.1.1,eq gb.2.2.2.2.2.1.1,eq gb.2.2.2.2.2.2.1.1,eq gb.2.2.2.2.2.2.2.1.1,eq gb.2.2.2.2.2.2.2.2.1.1,eq gb.2.2.2.2.2.2.2.2.2.1],bI.O gb.2.1 a0.aG,bI.O gb.2.2.1 a0.aq,au.O gb.2.2.2.1 a0.fall.aK,dE.O gb.2.2.2.2.1 a0.fall.aA,bG.O gb.2.2.2.2.2.1 a0.fall.ax,bJ.O gb.2.2.2.2.2.2.1 a0.fall.an,bE.O gb.2.2.2.2.2.2.2.1 a0.fall.bQ,Seen.O gb.2.2.2.2.2.2.2.2.1 a0.aI]++F) (gc.1,gc.2.1,gc.2.2.1,gc.2.2.2) haf (bN (L:=[bI.O gc.2.2.1 e.2.fX,cF.O gc.2.1 e.2.bC,ar gc.1 161 [eq gc.2.1.1,vS e.2.av,vS e.2.lf,eq gc.2.2.1.1,eq gc.2.2.2.1],ig jU.O gc.2.2.2 e.2.fair,mG aO.O a0.aa dY j,kG Value.string (λp:OV=>eq p.1) gb.2.2.2.2.2.2.2.2.2.1 qa.1 (aU a0.aa dY) (is++[j]),ar gb.1 102 [vS a0.av,eq gb.2.1.1,eq gb.2.2.1.1,eq gb.2.2.2.1.1,eq gb.2.2.2.2.1.1,eq gb.2.2.2.2.2.1.1,eq gb.2.2.2.2.2.2.1.1,eq gb.2.2.2.2.2.2.2.1.1,eq gb.2.2.2.2.2.2.2.2.1.1,eq gb.2.2.2.2.2.2.2.2.2.1],bI.O gb.2.1 a0.aG,bI.O gb.2.2.1 a0.aq,au.O gb.2.2.2.1 a0.fall.aK,dE.O gb.2.2.2.2.1 a0.fall.aA,bG.O gb.2.2.2.2.2.1 a0.fall.ax,bJ.O gb.2.2.2.2.2.2.1 a0.fall.an,bE.O gb.2.2.2.2.2.2.2.1 a0.fall.bQ,Seen.O gb.2.2.2.2.2.2.2.2.1 a0.aI]) (F:=F) [2,1,0,3,4,5,6,7,8,9,10,11,12,13,14] kr Q Q))) (λ_ _=>?_)
      refine WP.gh (l':=λ_:Unit=>[lQ aO.O a0.aa dY,kG Value.string (λp:OV=>eq p.1) gb.2.2.2.2.2.2.2.2.2.1 qa.1 (aU a0.aa dY) (is++[j]),ar gb.1 102 [vS a0.av,eq gb.2.1.1,eq gb.2.2.1.1,eq gb.2.2.2.1.1,eq gb.2.2.2.2.1.1,eq gb.2.2.2.2.2.1.1,eq gb.2.2.2.2.2.2.1.1,eq gb.2.2.2.2.2.2.2.1.1,eq gb.2.2.2.2.2.2.2.2.1.1,eq gb.2.2.2.2.2.2.2.2.2.1],bI.O gb.2.1 a0.aG,bI.O gb.2.2.1 a0.aq,au.O gb.2.2.2.1 a0.fall.aK,dE.O gb.2.2.2.2.1 a0.fall.aA,bG.O gb.2.2.2.2.2.1 a0.fall.ax,bJ.O gb.2.2.2.2.2.2.1 a0.fall.an,bE.O gb.2.2.2.2.2.2.2.1 a0.fall.bQ,Seen.O gb.2.2.2.2.2.2.2.2.1 a0.aI]++F) (bL (xL he hp (pm 12 [0,1,2,3,4,5,6,7,8,9,10,11]))) (λ_ _=>?_)
      refine WP.gh (l':=λ_:Unit=>[mp Value.string (λp:OV=>eq p.1) gb.2.2.2.2.2.2.2.2.2.1 (aU a0.aa dY),lQ aO.O a0.aa dY,ar gb.1 102 [vS a0.av,eq gb.2.1.1,eq gb.2.2.1.1,eq gb.2.2.2.1.1,eq gb.2.2.2.2.1.1,eq gb.2.2.2.2.2.1.1,eq gb.2.2.2.2.2.2.1.1,eq gb.2.2.2.2.2.2.2.1.1,eq gb.2.2.2.2.2.2.2.2.1.1,eq gb.2.2.2.2.2.2.2.2.2.1],bI.O gb.2.1 a0.aG,bI.O gb.2.2.1 a0.aq,au.O gb.2.2.2.1 a0.fall.aK,dE.O gb.2.2.2.2.1 a0.fall.aA,bG.O gb.2.2.2.2.2.1 a0.fall.ax,bJ.O gb.2.2.2.2.2.2.1 a0.fall.an,bE.O gb.2.2.2.2.2.2.2.1 a0.fall.bQ,Seen.O gb.2.2.2.2.2.2.2.2.1 a0.aI]++F) (bL (rB (pm 11 [1,0,2,3,4,5,6,7,8,9,10]))) (λ_ _=>?_)
      refine WP.gh (l':=λ_:Unit=>[iq Value.string aO.O gb.2.2.2.2.2.2.2.2.2.1 a0.aa,ar gb.1 102 [vS a0.av,eq gb.2.1.1,eq gb.2.2.1.1,eq gb.2.2.2.1.1,eq gb.2.2.2.2.1.1,eq gb.2.2.2.2.2.1.1,eq gb.2.2.2.2.2.2.1.1,eq gb.2.2.2.2.2.2.2.1.1,eq gb.2.2.2.2.2.2.2.2.1.1,eq gb.2.2.2.2.2.2.2.2.2.1],bI.O gb.2.1 a0.aG,bI.O gb.2.2.1 a0.aq,au.O gb.2.2.2.1 a0.fall.aK,dE.O gb.2.2.2.2.1 a0.fall.aA,bG.O gb.2.2.2.2.2.1 a0.fall.ax,bJ.O gb.2.2.2.2.2.2.1 a0.fall.an,bE.O gb.2.2.2.2.2.2.2.1 a0.fall.bQ,Seen.O gb.2.2.2.2.2.2.2.2.1 a0.aI]++F) (bL (eL hae Q (bN (L:=[mp Value.string (λp:OV=>eq p.1) gb.2.2.2.2.2.2.2.2.2.1 (aU a0.aa dY),lQ aO.O a0.aa dY,ar gb.1 102 [vS a0.av,eq gb.2.1.1,eq gb.2.2.1.1,eq gb.2.2.2.1.1,eq gb.2.2.2.2.1.1,eq gb.2.2.2.2.2.1.1,eq gb.2.2.2.2.2.2.1.1,eq gb.2.2.2.2.2.2.2.1.1,eq gb.2.2.2.2.2.2.2.2.1.1,eq gb.2.2.2.2.2.2.2.2.2.1],bI.O gb.2.1 a0.aG,bI.O gb.2.2.1 a0.aq,au.O gb.2.2.2.1 a0.fall.aK,dE.O gb.2.2.2.2.1 a0.fall.aA,bG.O gb.2.2.2.2.2.1 a0.fall.ax,bJ.O gb.2.2.2.2.2.2.1 a0.fall.an,bE.O gb.2.2.2.2.2.2.2.1 a0.fall.bQ,Seen.O gb.2.2.2.2.2.2.2.2.1 a0.aI]) (F:=F) [0,1,2,3,4,5,6,7,8,9,10] kr Q Q))) (λ_ _=>?_)
      refine WP.gh (l':=λ_:Unit=>[bY.O p0_ a0]++F) (bL (bY.shut (p:=p0_) (m:=a0) (r:=F) (gb.1,gb.2.1,gb.2.2.1,gb.2.2.2.1,gb.2.2.2.2.1,gb.2.2.2.2.2.1,gb.2.2.2.2.2.2.1,gb.2.2.2.2.2.2.2.1,gb.2.2.2.2.2.2.2.2.1,gb.2.2.2.2.2.2.2.2.2) had (bN (L:=[iq Value.string aO.O gb.2.2.2.2.2.2.2.2.2.1 a0.aa,ar gb.1 102 [vS a0.av,eq gb.2.1.1,eq gb.2.2.1.1,eq gb.2.2.2.1.1,eq gb.2.2.2.2.1.1,eq gb.2.2.2.2.2.1.1,eq gb.2.2.2.2.2.2.1.1,eq gb.2.2.2.2.2.2.2.1.1,eq gb.2.2.2.2.2.2.2.2.1.1,eq gb.2.2.2.2.2.2.2.2.2.1],bI.O gb.2.1 a0.aG,bI.O gb.2.2.1 a0.aq,au.O gb.2.2.2.1 a0.fall.aK,dE.O gb.2.2.2.2.1 a0.fall.aA,bG.O gb.2.2.2.2.2.1 a0.fall.ax,bJ.O gb.2.2.2.2.2.2.1 a0.fall.an,bE.O gb.2.2.2.2.2.2.2.1 a0.fall.bQ,Seen.O gb.2.2.2.2.2.2.2.2.1 a0.aI]) (F:=F) [1,2,3,4,5,6,7,8,9,0] kr Q Q))) (λ_ _=>?_)
      obtain rfl:=aW.out H
      exact WP.u7 (λ_ _ h=>h) Q () T (.cons (aQ Q) .nil) Q (oX (L:=[bY.O p0_ a0]) (F:=F) [0] 0 Q Q Q)
    · have H:=H.cf ca
      refine WP.skip ?_
      have e8:tc=true:=by simpa using ‹(!tc)=false›
      have hC:(is++[j]).length+(kk-1)=a0.aa.length/\∀ i∈is++[j],∀ e,a0.aa[i]? = some e->en.f e.2=some true:=⟨by rw [List.length_append,List.length_singleton];omega,λi hi e3 he3=>by
          rcases List.mem_append.1 hi with hi | hi
          · exact hI i hi e3 he3
          · rw [List.mem_singleton.1 hi,he] at he3;cases he3;rw [<- e8];assumption⟩
      refine Dn.gh (l':=λ_:Unit=>[cF.O gc.2.1 e.2.bC,ar gj 137 [vI e.2.fX.fn.fv,vI e.2.fX.bw],ar gc.1 161 [eq gc.2.1.1,vS e.2.av,vS e.2.lf,eq gc.2.2.1.1,eq gc.2.2.2.1],ig jU.O gc.2.2.2 e.2.fair,mG aO.O a0.aa dY j,kG Value.string (λp:OV=>eq p.1) gb.2.2.2.2.2.2.2.2.2.1 qa.1 (aU a0.aa dY) (is++[j]),ar gb.1 102 [vS a0.av,eq gb.2.1.1,eq gb.2.2.1.1,eq gb.2.2.2.1.1,eq gb.2.2.2.2.1.1,eq gb.2.2.2.2.2.1.1,eq gb.2.2.2.2.2.2.1.1,eq gb.2.2.2.2.2.2.2.1.1,eq gb.2.2.2.2.2.2.2.2.1.1,eq gb.2.2.2.2.2.2.2.2.2.1],bI.O gb.2.1 a0.aG,bI.O gb.2.2.1 a0.aq,au.O gb.2.2.2.1 a0.fall.aK,dE.O gb.2.2.2.2.1 a0.fall.aA,bG.O gb.2.2.2.2.2.1 a0.fall.ax,bJ.O gb.2.2.2.2.2.2.1 a0.fall.an,bE.O gb.2.2.2.2.2.2.2.1 a0.fall.bQ,Seen.O gb.2.2.2.2.2.2.2.2.1 a0.aI]++F) (bL (cF.shut (p:=gc.2.1) (m:=e.2.bC) (r:=[ar gj 137 [vI e.2.fX.fn.fv,vI e.2.fX.bw],ar gc.1 161 [eq gc.2.1.1,vS e.2.av,vS e.2.lf,eq gc.2.2.1.1,eq gc.2.2.2.1],ig jU.O gc.2.2.2 e.2.fair,mG aO.O a0.aa dY j,kG Value.string (λp:OV=>eq p.1) gb.2.2.2.2.2.2.2.2.2.1 qa.1 (aU a0.aa dY) (is++[j]),ar gb.1 102 [vS a0.av,eq gb.2.1.1,eq gb.2.2.1.1,eq gb.2.2.2.1.1,eq gb.2.2.2.2.1.1,eq gb.2.2.2.2.2.1.1,eq gb.2.2.2.2.2.2.1.1,eq gb.2.2.2.2.2.2.2.1.1,eq gb.2.2.2.2.2.2.2.2.1.1,eq gb.2.2.2.2.2.2.2.2.2.1],bI.O gb.2.1 a0.aG,bI.O gb.2.2.1 a0.aq,au.O gb.2.2.2.1 a0.fall.aK,dE.O gb.2.2.2.2.1 a0.fall.aA,bG.O gb.2.2.2.2.2.1 a0.fall.ax,bJ.O gb.2.2.2.2.2.2.1 a0.fall.an,bE.O gb.2.2.2.2.2.2.2.1 a0.fall.bQ,Seen.O gb.2.2.2.2.2.2.2.2.1 a0.aI]++F) (gi.1,gi.2.1,gi.2.2) hag (bN (L:=[ar gj 137 [vI e.2.fX.fn.fv,vI e.2.fX.bw],ar gi.1 211 [vI e.2.bC.bw,eq gi.2.1.1,eq gi.2.2.1,vI e.2.bC.da],own aZ.K gi.2.1.1 e.2.bC.bA,mp aZ.kv (λx:ak=>agg (ak.enc x)) gi.2.2.1 e.2.bC.dA,ar gc.1 161 [eq gc.2.1.1,vS e.2.av,vS e.2.lf,eq gc.2.2.1.1,eq gc.2.2.2.1],ig jU.O gc.2.2.2 e.2.fair,mG aO.O a0.aa dY j,kG Value.string (λp:OV=>eq p.1) gb.2.2.2.2.2.2.2.2.2.1 qa.1 (aU a0.aa dY) (is++[j]),ar gb.1 102 [vS a0.av,eq gb.2.1.1,eq gb.2.2.1.1,eq gb.2.2.2.1.1,eq gb.2.2.2.2.1.1,eq gb.2.2.2.2.2.1.1,eq gb.2.2.2.2.2.2.1.1,eq gb.2.2.2.2.2.2.2.1.1,eq gb.2.2.2.2.2.2.2.2.1.1,eq gb.2.2.2.2.2.2.2.2.2.1],bI.O gb.2.1 a0.aG,bI.O gb.2.2.1 a0.aq,au.O gb.2.2.2.1 a0.fall.aK,dE.O gb.2.2.2.2.1 a0.fall.aA,bG.O gb.2.2.2.2.2.1 a0.fall.ax,bJ.O gb.2.2.2.2.2.2.1 a0.fall.an,bE.O gb.2.2.2.2.2.2.2.1 a0.fall.bQ,Seen.O gb.2.2.2.2.2.2.2.2.1 a0.aI]) (F:=F) [1,2,3,0,4,5,6,7,8,9,10,11,12,13,14,15,16] kr Q Q))) (λ_ _=>?_)
      refine Dn.gh (l':=λ_:Unit=>[bI.O gc.2.2.1 e.2.fX,cF.O gc.2.1 e.2.bC,ar gc.1 161 [eq gc.2.1.1,vS e.2.av,vS e.2.lf,eq gc.2.2.1.1,eq gc.2.2.2.1],ig jU.O gc.2.2.2 e.2.fair,mG aO.O a0.aa dY j,kG Value.string (λp:OV=>eq p.1) gb.2.2.2.2.2.2.2.2.2.1 qa.1 (aU a0.aa dY) (is++[j]),ar gb.1 102 [vS a0.av,eq gb.2.1.1,eq gb.2.2.1.1,eq gb.2.2.2.1.1,eq gb.2.2.2.2.1.1,eq gb.2.2.2.2.2.1.1,eq gb.2.2.2.2.2.2.1.1,eq gb.2.2.2.2.2.2.2.1.1,eq gb.2.2.2.2.2.2.2.2.1.1,eq gb.2.2.2.2.2.2.2.2.2.1],bI.O gb.2.1 a0.aG,bI.O gb.2.2.1 a0.aq,au.O gb.2.2.2.1 a0.fall.aK,dE.O gb.2.2.2.2.1 a0.fall.aA,bG.O gb.2.2.2.2.2.1 a0.fall.ax,bJ.O gb.2.2.2.2.2.2.1 a0.fall.an,bE.O gb.2.2.2.2.2.2.2.1 a0.fall.bQ,Seen.O gb.2.2.2.2.2.2.2.2.1 a0.aI]++F) (bL (bI.shut (p:=gc.2.2.1) (m:=e.2.fX) (r:=[cF.O gc.2.1 e.2.bC,ar gc.1 161 [eq gc.2.1.1,vS e.2.av,vS e.2.lf,eq gc.2.2.1.1,eq gc.2.2.2.1],ig jU.O gc.2.2.2 e.2.fair,mG aO.O a0.aa dY j,kG Value.string (λp:OV=>eq p.1) gb.2.2.2.2.2.2.2.2.2.1 qa.1 (aU a0.aa dY) (is++[j]),ar gb.1 102 [vS a0.av,eq gb.2.1.1,eq gb.2.2.1.1,eq gb.2.2.2.1.1,eq gb.2.2.2.2.1.1,eq gb.2.2.2.2.2.1.1,eq gb.2.2.2.2.2.2.1.1,eq gb.2.2.2.2.2.2.2.1.1,eq gb.2.2.2.2.2.2.2.2.1.1,eq gb.2.2.2.2.2.2.2.2.2.1],bI.O gb.2.1 a0.aG,bI.O gb.2.2.1 a0.aq,au.O gb.2.2.2.1 a0.fall.aK,dE.O gb.2.2.2.2.1 a0.fall.aA,bG.O gb.2.2.2.2.2.1 a0.fall.ax,bJ.O gb.2.2.2.2.2.2.1 a0.fall.an,bE.O gb.2.2.2.2.2.2.2.1 a0.fall.bQ,Seen.O gb.2.2.2.2.2.2.2.2.1 a0.aI]++F) gj hah (bN (L:=[cF.O gc.2.1 e.2.bC,ar gj 137 [vI e.2.fX.fn.fv,vI e.2.fX.bw],ar gc.1 161 [eq gc.2.1.1,vS e.2.av,vS e.2.lf,eq gc.2.2.1.1,eq gc.2.2.2.1],ig jU.O gc.2.2.2 e.2.fair,mG aO.O a0.aa dY j,kG Value.string (λp:OV=>eq p.1) gb.2.2.2.2.2.2.2.2.2.1 qa.1 (aU a0.aa dY) (is++[j]),ar gb.1 102 [vS a0.av,eq gb.2.1.1,eq gb.2.2.1.1,eq gb.2.2.2.1.1,eq gb.2.2.2.2.1.1,eq gb.2.2.2.2.2.1.1,eq gb.2.2.2.2.2.2.1.1,eq gb.2.2.2.2.2.2.2.1.1,eq gb.2.2.2.2.2.2.2.2.1.1,eq gb.2.2.2.2.2.2.2.2.2.1],bI.O gb.2.1 a0.aG,bI.O gb.2.2.1 a0.aq,au.O gb.2.2.2.1 a0.fall.aK,dE.O gb.2.2.2.2.1 a0.fall.aA,bG.O gb.2.2.2.2.2.1 a0.fall.ax,bJ.O gb.2.2.2.2.2.2.1 a0.fall.an,bE.O gb.2.2.2.2.2.2.2.1 a0.fall.bQ,Seen.O gb.2.2.2.2.2.2.2.2.1 a0.aI]) (F:=F) [1,0,2,3,4,5,6,7,8,9,10,11,12,13,14] kr Q Q))) (λ_ _=>?_)
      refine Dn.gh (l':=λ_:Unit=>[aO.O p e.2,mG aO.O a0.aa dY j,kG Value.string (λp:OV=>eq p.1) gb.2.2.2.2.2.2.2.2.2.1 qa.1 (aU a0.aa dY) (is++[j]),ar gb.1 102 [vS a0.av,eq gb.2.1.1,eq gb.2.2.1.1,eq gb.2.2.2.1.1,eq gb.2.2.2.2.1.1,eq gb.2.2.2.2.2.1.1,eq gb.2.2.2.2.2.2.1.1,eq gb.2.2.2.2.2.2.2.1.1,eq gb.2.2.2.2.2.2.2.2.1.1,eq gb.2.2.2.2.2.2.2.2.2.1],bI.O gb.2.1 a0.aG,bI.O gb.2.2.1 a0.aq,au.O gb.2.2.2.1 a0.fall.aK,dE.O gb.2.2.2.2.1 a0.fall.aA,bG.O gb.2.2.2.2.2.1 a0.fall.ax,bJ.O gb.2.2.2.2.2.2.1 a0.fall.an,bE.O gb.2.2.2.2.2.2.2.1 a0.fall.bQ,Seen.O gb.2.2.2.2.2.2.2.2.1 a0.aI]++F) (bL (aO.shut (p:=p) (m:=e.2) (r:=[mG aO.O a0.aa dY j,kG Value.string (λp:OV=>eq p.1) gb.2.2.2.2.2.2.2.2.2.1 qa.1 (aU a0.aa dY) (is++[j]),ar gb.1 102 [vS a0.av,eq gb.2.1.1,eq gb.2.2.1.1,eq gb.2.2.2.1.1,eq gb.2.2.2.2.1.1,eq gb.2.2.2.2.2.1.1,eq gb.2.2.2.2.2.2.1.1,eq gb.2.2.2.2.2.2.2.1.1,eq gb.2.2.2.2.2.2.2.2.1.1,eq gb.2.2.2.2.2.2.2.2.2.1],bI.O gb.2.1 a0.aG,bI.O gb.2.2.1 a0.aq,au.O gb.2.2.2.1 a0.fall.aK,dE.O gb.2.2.2.2.1 a0.fall.aA,bG.O gb.2.2.2.2.2.1 a0.fall.ax,bJ.O gb.2.2.2.2.2.2.1 a0.fall.an,bE.O gb.2.2.2.2.2.2.2.1 a0.fall.bQ,Seen.O gb.2.2.2.2.2.2.2.2.1 a0.aI]++F) (gc.1,gc.2.1,gc.2.2.1,gc.2.2.2) haf (bN (L:=[bI.O gc.2.2.1 e.2.fX,cF.O gc.2.1 e.2.bC,ar gc.1 161 [eq gc.2.1.1,vS e.2.av,vS e.2.lf,eq gc.2.2.1.1,eq gc.2.2.2.1],ig jU.O gc.2.2.2 e.2.fair,mG aO.O a0.aa dY j,kG Value.string (λp:OV=>eq p.1) gb.2.2.2.2.2.2.2.2.2.1 qa.1 (aU a0.aa dY) (is++[j]),ar gb.1 102 [vS a0.av,eq gb.2.1.1,eq gb.2.2.1.1,eq gb.2.2.2.1.1,eq gb.2.2.2.2.1.1,eq gb.2.2.2.2.2.1.1,eq gb.2.2.2.2.2.2.1.1,eq gb.2.2.2.2.2.2.2.1.1,eq gb.2.2.2.2.2.2.2.2.1.1,eq gb.2.2.2.2.2.2.2.2.2.1],bI.O gb.2.1 a0.aG,bI.O gb.2.2.1 a0.aq,au.O gb.2.2.2.1 a0.fall.aK,dE.O gb.2.2.2.2.1 a0.fall.aA,bG.O gb.2.2.2.2.2.1 a0.fall.ax,bJ.O gb.2.2.2.2.2.2.1 a0.fall.an,bE.O gb.2.2.2.2.2.2.2.1 a0.fall.bQ,Seen.O gb.2.2.2.2.2.2.2.2.1 a0.aI]) (F:=F) [2,1,0,3,4,5,6,7,8,9,10,11,12,13,14] kr Q Q))) (λ_ _=>?_)
      refine Dn.gh (l':=λ_:Unit=>[lQ aO.O a0.aa dY,kG Value.string (λp:OV=>eq p.1) gb.2.2.2.2.2.2.2.2.2.1 qa.1 (aU a0.aa dY) (is++[j]),ar gb.1 102 [vS a0.av,eq gb.2.1.1,eq gb.2.2.1.1,eq gb.2.2.2.1.1,eq gb.2.2.2.2.1.1,eq gb.2.2.2.2.2.1.1,eq gb.2.2.2.2.2.2.1.1,eq gb.2.2.2.2.2.2.2.1.1,eq gb.2.2.2.2.2.2.2.2.1.1,eq gb.2.2.2.2.2.2.2.2.2.1],bI.O gb.2.1 a0.aG,bI.O gb.2.2.1 a0.aq,au.O gb.2.2.2.1 a0.fall.aK,dE.O gb.2.2.2.2.1 a0.fall.aA,bG.O gb.2.2.2.2.2.1 a0.fall.ax,bJ.O gb.2.2.2.2.2.2.1 a0.fall.an,bE.O gb.2.2.2.2.2.2.2.1 a0.fall.bQ,Seen.O gb.2.2.2.2.2.2.2.2.1 a0.aI]++F) (bL (xL he hp (pm 12 [0,1,2,3,4,5,6,7,8,9,10,11]))) (λ_ _=>?_)
      refine Dn.gh (l':=λ_:Unit=>[kG Value.string (λp:OV=>eq p.1) gb.2.2.2.2.2.2.2.2.2.1 qa.1 (aU a0.aa dY) (is++[j]),lQ aO.O a0.aa dY,ar gb.1 102 [vS a0.av,eq gb.2.1.1,eq gb.2.2.1.1,eq gb.2.2.2.1.1,eq gb.2.2.2.2.1.1,eq gb.2.2.2.2.2.1.1,eq gb.2.2.2.2.2.2.1.1,eq gb.2.2.2.2.2.2.2.1.1,eq gb.2.2.2.2.2.2.2.2.1.1,eq gb.2.2.2.2.2.2.2.2.2.1],bI.O gb.2.1 a0.aG,bI.O gb.2.2.1 a0.aq,au.O gb.2.2.2.1 a0.fall.aK,dE.O gb.2.2.2.2.1 a0.fall.aA,bG.O gb.2.2.2.2.2.1 a0.fall.ax,bJ.O gb.2.2.2.2.2.2.1 a0.fall.an,bE.O gb.2.2.2.2.2.2.2.1 a0.fall.bQ,Seen.O gb.2.2.2.2.2.2.2.2.1 a0.aI]++F) (bL (nX (L:=[lQ aO.O a0.aa dY,kG Value.string (λp:OV=>eq p.1) gb.2.2.2.2.2.2.2.2.2.1 qa.1 (aU a0.aa dY) (is++[j]),ar gb.1 102 [vS a0.av,eq gb.2.1.1,eq gb.2.2.1.1,eq gb.2.2.2.1.1,eq gb.2.2.2.2.1.1,eq gb.2.2.2.2.2.1.1,eq gb.2.2.2.2.2.2.1.1,eq gb.2.2.2.2.2.2.2.1.1,eq gb.2.2.2.2.2.2.2.2.1.1,eq gb.2.2.2.2.2.2.2.2.2.1],bI.O gb.2.1 a0.aG,bI.O gb.2.2.1 a0.aq,au.O gb.2.2.2.1 a0.fall.aK,dE.O gb.2.2.2.2.1 a0.fall.aA,bG.O gb.2.2.2.2.2.1 a0.fall.ax,bJ.O gb.2.2.2.2.2.2.1 a0.fall.an,bE.O gb.2.2.2.2.2.2.2.1 a0.fall.bQ,Seen.O gb.2.2.2.2.2.2.2.2.1 a0.aI]) (F:=F) [1,0,2,3,4,5,6,7,8,9,10] 0 kr Q Q)) (λ_ _=>?_)
      exact qt.mk (kk-1) (is++[j]) om hC (aH Q dD) (List.Perm.refl _)
theorem uI.c (h:uI.f a0=some r):Tr prog 150 [vS a0] [] (γ:=OV) (λ_=>True) (λg=>eq g.1) (λg=>[bM.O g r]):=by
 refine tf func150 h λR0 F H=>?_
 refine so<|wr 5 10<|go 1<|Dv.Gj Value.string (λp:OV=>eq p.1) Q T nofun (λva=>?_)
 refine vg (xW bp.O) λ_ _=>?_
 refine Dv.lD (qs:=[vS a0,eq va.1]) (css:=[[vS a0],[eq va.1]]) Q T IT pl274 z274 Q ⟨(cells_one (ai Q)),⟨(cells_one cS),T⟩⟩ Q Q<|Dv.box Q T Q cA nofun λba=>go 1<|wg (bM.shut (p:=(⟨.pointer (some ⟨ba,0,none⟩),Q⟩:OV)) (m:=(⟨a0,([]:List (BA×bp))⟩:bM)) (ba,va) Q (pm 2 [0,1])) λ_ _=>?_
 cases H.out;exact et (⟨.pointer (some ⟨ba,0,none⟩),Q⟩:OV) 1 [0] 0
theorem aV.r {a0:au} {a1:BA} {r:bM} (h:aV.f a0 a1=some r):∀ x,mget a0.b9 a1=some x->x=r:=λx e=>by
 unfold aV.f at h;rw [e] at h;exact Option.some.inj h
theorem aV.c {b0_:Nat} {v0_0:OV} {r:bM} (h:aV.f a0 a1=some r):Tr prog 92 [iT b0_,vS a1] [ar b0_ 150 [eq v0_0.1],iq Value.string bM.O v0_0.1 a0.b9] (γ:=OV) (λ_=>True) (λg=>eq g.1) (λg=>[ar b0_ 150 [eq v0_0.1],HP Value.string bM.O v0_0.1 a0.b9 a1 g,bM.O g r]):=by
 refine tf func92 h λR0 F H=>?_
 refine WP.seq<|WP.qB [(0,false)] kr<|go 1<|WP.seq<|WP.seq<|WP.qB [(0,false),(1,false),(2,false),(3,false),(4,false),(5,false),(6,false)] kr<|go 2<|Dv.fab Q T Q IW Q CT c148 dc<|Dv.ldb Q T Q CT Q (ab 0 Q) Q<|go 1<|vg (kn 1 Q) λz1 h1=>?_
 refine Dv.Be dK Q T Q (ab 0 Q) Q CT (dP U9) z212 (λ_=>Q)<|go 1<|WP.seq<|WP.qB [(0,false),(1,false)] kr<|go 1<|Dv.pm1 (xP h1 Q) Q T Q Q U212<|.fin<|WP.cond Q (λc1=>?_) (λc1=>?_)
 ·have e1:(mget a0.b9 a1).isSome=true:=by cases e:mget a0.b9 a1 with | none=>rw [e] at c1;cases c1 | some _=>rfl
  have H:=H.ct e1
  obtain rfl:=aW.out H
  refine WP.seq<|WP.qB [(0,false),(1,false)] kr<|go 2<|wg (Dh h1 Q e1 (pm 3 [0,1,2])) λ_ _=>?_
  exact et ((mget (aU a0.b9 z1) a1).getD dK) 3 [2,0,1] 0
 have e1:(mget a0.b9 a1).isSome=false:=by cases e:mget a0.b9 a1 with | none=>rfl | some _=>rw [e] at c1;cases c1
 have H:=H.cf e1
 refine WP.skip<|WP.seq<|WP.qB [(0,false),(1,true),(2,false)] kr<|go 1<|cx 0 [] (cL 150) (uI.c (by obtain⟨_,e,rfl⟩:=H;exact e)) nofun λg2 _=>?_
 refine go 1<|wg (E6 g2 h1 Q e1 (pm 4 [1,2,0,3])) λ_ _=>?_
 exact et g2 3 [2,0,1] 0
theorem iA.c (h:iA.f a0 a1=some r):Pt prog 283 [vS a0,vS a1] (vI r):=by
 refine pf func283 h λR0 F H=>?_
 refine so<|wr 3 0<|go 1<|Dv.lens Q T Q U9<|go 1<|WP.seq<|WP.block<|wr 8 0<|gp 3 ?_
 cases ca:((a1.size:Int)==0)
 rotate_left
 ·have H:=H.ct ca
  refine go 5<|WP.cond Q (λ_=>?_) nofun
  refine sp ?_
  cases H.out;exact ek 0
 have H:=H.cf ca
 refine go 5<|ce H ?_ ?_ <;> intro H
 ·refine sp ?_
  cases H.out;exact ek 0
 refine so<|ce H ?_ ?_ <;> intro H
 ·refine wr 5 0<|go 2<|gr H λgb H=>Dv.ru Q T Q Q U9 gb.1 gb.2<|el H λta haa H=>cl Q (cL 221) Q (dU.c haa)<|gq 1 ?_
  cases H.out;exact ek 0
 refine wr 5 0<|go 2<|Dv.lens Q T Q U9<|go 2<|cf H ?_ ?_ <;> intro H
 ·exact(aW.no H).elim
 refine sp ?_
 cases H.out;exact ek 0
theorem kI.c (h:kI.f a0 a1=some r):Pt prog 257 [vS a0,vS a1] (lg [vS r.1,vS r.2.1,vB r.2.2]):=by
 refine pf func257 h λR0 F H=>?_
 refine so<|WP.seq<|wr 4 0<|go 2<|el H λta haa H=>cl Q (cL 283) Q (iA.c haa)<|go 1<|so<|cf H ?_ ?_ <;> intro H
 ·refine WP.skip<|sp ?_
  cases H.out;exact ek 0
 refine wd mX 12 0<|go 2<|gr H λgb H=>Dv.Jj Q T Q U9 dQ (fg Q gb.1) gb.2.1 gb.2.2<|go 3<|Dv.lens Q T Q U9<|go 1<|gr H λgc H=>Dv.Jj Q T Q U9 (fg Q gc.1) dQ gc.2.1 gc.2.2<|gq 3 ?_
 cases H.out;exact ek 0
theorem gL.c (h:gL.f a0 a1=some r):Pt prog 204 [vS a0,vS a1] (lg [vS r.1,vS r.2.1,vB r.2.2]):=by
 refine pf func204 h λR0 F H=>?_
 refine so<|wr 9 0<|go 2<|el H λta haa H=>cl Q (cL 257) Q (kI.c haa)<|dZ Q T Q Q<|dZ Q T Q Q<|dZ Q T Q Q<|gq 3 ?_
 cases H.out;exact ek 0
theorem gS.c (h:gS.f a0 a1=some r):Pt prog 297 [vS a0,vS a1] (vB r):=by
 refine pf func297 h λR0 F H=>?_
 refine so<|wr 14 0<|go 1<|Dv.lens Q T Q U9<|go 1<|Dv.lens Q T Q U9<|gp 2 ?_
 cases ca:decide ((a1.size:Int)<=(a0.size:Int))
 ·have H:=H.cf ca
  refine gq 8 ?_
  cases H.out;exact ek 0
 have H:=H.ct ca
 refine go 2<|Dv.lens Q (gg Q) Q U9<|gr H λgb H=>Dv.Jj Q (gg Q) Q U9 dQ (fg Q gb.1) gb.2.1 gb.2.2<|gq 4 ?_
 cases H.out;exact ek 0
theorem gU.c (h:gU.f a0 a1=some r):Pt prog 289 [vS a0,vS a1] (lg [vS r.1,vB r.2]):=by
 refine pf func289 h λR0 F H=>?_
 refine so<|WP.seq<|wr 4 0<|go 2<|el H λta haa H=>cl Q (cL 297) Q (gS.c haa)<|go 1<|ce H ?_ ?_ <;> intro H
 ·refine sp ?_
  cases H.out;exact ek 0
 refine WP.skip<|wr 6 0<|go 2<|Dv.lens Q T Q U9<|gr H λgb H=>Dv.Jj Q T Q U9 (fg Q gb.1) dQ gb.2.1 gb.2.2<|gq 2 ?_
 cases H.out;exact ek 0
theorem fc.c (h:fc.f a0 a1=some r):Pt prog 274 [vS a0,vS a1] (lg [vS r.1,vB r.2]):=by
 refine pf func274 h λR0 F H=>?_
 refine so<|wr 7 0<|go 2<|el H λta haa H=>cl Q (cL 289) Q (gU.c haa)<|dZ Q T Q Q<|dZ Q T Q Q<|gq 2 ?_
 cases H.out;exact ek 0
theorem lB.c (h:lB.f k a0 a1=some r):Pt prog 256 [vS a0,vS a1] (lg [vS r.1,vS r.2.1,vB r.2.2]):=by
 refine pf func256 h λR0 F H=>?_
 refine so<|wr 8 0<|go 2<|el H λta haa H=>cl Q (cL 274) Q (fc.c haa)<|go 1<|dZ Q T Q Q<|dZ Q T Q Q<|go 2<|wr 9 0<|go 1<|el H λtc hac H=>cl Q (cL 204) Q (gL.c hac)<|go 1<|dZ Q T Q Q<|dZ Q T Q Q<|dZ Q T Q Q<|go 3<|wr 17 0<|gp 4 ?_
 cases ca:ta.2
 ·have H:=H.cf ca
  refine gq 13 ?_
  cases H.out;exact ek 0
 have H:=H.ct ca
 refine gp 3 ?_
 cases cb:tc.2.2
 ·have H:=H.cf cb
  refine gq 10 ?_
  cases H.out;exact ek 0
 have H:=H.ct cb
 refine go 1<|el H λte had H=>Dv.call Q (gg Q) (cL 55) Q (name_may.c had)<|gp 2 ?_
 cases cg:te
 ·have H:=H.cf cg
  refine gq 6 ?_
  cases H.out;exact ek 0
 have H:=H.ct cg
 refine go 1<|el H λtg hae H=>Dv.call Q (gg Q) (cL 26) Q (ew.c hae)<|gq 4 ?_
 cases H.out;exact ek 0
theorem lK.c (h:lK.f k a0=some r):Pt prog 202 [vS a0] (vB r):=by
 refine pf func202 h λR0 F H=>?_
 refine so<|wr 9 0<|go 1<|el H λta haa H=>cl Q (cL 256) Q (lB.c haa)<|go 1<|dZ Q T Q Q<|dZ Q T Q Q<|dZ Q T Q Q<|go 3<|sp ?_
 cases H.out;exact ek 0
theorem j5.c (h:j5.f k a0=some r):Pt prog 203 [vS a0] (vB r):=by
 refine pf func203 h λR0 F H=>?_
 refine so<|wr 9 0<|go 1<|el H λta haa H=>cl Q (cL 256) Q (lB.c haa)<|go 1<|dZ Q T Q Q<|dZ Q T Q Q<|dZ Q T Q Q<|go 3<|sp ?_
 cases H.out;exact ek 0
theorem eW.c (h:eW.f k a0=some r):Pt prog 222 [vS a0] (vB r):=by
 refine pf func222 h λR0 F H=>?_
 refine so<|wr 7 0<|go 1<|el H λta haa H=>cl Q (cL 274) Q (fc.c haa)<|go 1<|dZ Q T Q Q<|dZ Q T Q Q<|go 2<|wr 6 0<|gp 2 ?_
 cases ca:ta.2
 ·have H:=H.cf ca
  refine gq 4 ?_
  cases H.out;exact ek 0
 have H:=H.ct ca
 refine go 1<|el H λtc hac H=>Dv.call Q (gg Q) (cL 55) Q (name_may.c hac)<|gq 2 ?_
 cases H.out;exact ek 0
theorem eh.c (h:eh.f k a0=some r):Pt prog 151 [agg (Event.enc a0)] (vB r):=by
 refine pf func151 h λR0 F H=>?_
 refine wr 2 1<|Dv.box Q T Q cA nofun λba=>go 1<|WP.scope<|WP.seq<|wr 32 0<|gl 2 [0]<|el H λta haa H=>cl Q (cL 222) Q (eW.c haa)<|gp 2 ?_
 cases ca:!ta
 rotate_left
 ·have H:=H.ct ca
  refine go 27<|WP.cond Q (λ_=>?_) nofun
  refine sp ?_
  cases H.out;exact ek 1
 have H:=H.cf ca
 refine gl 2 [0]<|el H λtc hac H=>Dv.call Q (gg Q) (cL 203) Q (j5.c hac)<|gp 3 ?_
 cases cb:!tc
 rotate_left
 ·have H:=H.ct cb
  refine go 21<|WP.cond Q (λ_=>?_) nofun
  refine sp ?_
  cases H.out;exact ek 1
 have H:=H.cf cb
 refine gl 2 [0]<|el H λte had H=>Dv.call Q (gg Q) (cL 202) Q (lK.c had)<|gp 3 ?_
 cases cg:!te
 rotate_left
 ·have H:=H.ct cg
  refine go 15<|WP.cond Q (λ_=>?_) nofun
  refine sp ?_
  cases H.out;exact ek 1
 have H:=H.cf cg
 refine gl 2 [0]<|Dv.jw Q (gg Q) Q iu<|gp 3 ?_
 cases ci:decide (4<(a0.ag.length:Int))
 rotate_left
 ·have H:=H.ct ci
  refine go 9<|WP.cond Q (λ_=>?_) nofun
  refine sp ?_
  cases H.out;exact ek 1
 have H:=H.cf ci
 refine jf 5 [0] ?_
 cases cj:decide (a0.cW<0)
 rotate_left
 ·have H:=H.ct cj
  refine go 4<|WP.cond Q (λ_=>?_) nofun
  refine sp ?_
  cases H.out;exact ek 1
 have H:=H.cf cj
 refine gl 4 [0]<|ce H ?_ ?_ <;> intro H
 ·refine sp ?_
  cases H.out;exact ek 1
 refine WP.skip<|WP.seq<|wr 21 0<|jf 4 [0] ?_
 cases ck:!decide (a0.ah=eE)
 ·have H:=H.cf ck
  refine go 17<|WP.cond Q nofun (λ_=>?_)
  refine WP.skip<|so<|WP.seq<|WP.label<|sq H id [] (λpa=>[(3,vB pa.1)]) (λ_=>[]) (λpa H=>?_) (λH=>?_)
  ·refine sp ?_
   cases H.out;exact ek 1
  refine wr 4 0<|gl 2 [0]<|Dv.jw Q T Q iu<|go 1<|WP.block<|ws 1 [0] 0 ?_
  refine lq (λj_ (pc:Int)=>eh.l1 k a0 j_ pc) 0 H [1,3,60,61] (λpc=>[(62,vI pc)]) (λ_=>[]) ?_
  rintro j_ xa H
  rcases j_ with _ | ja
  ·exact(aW.no H).elim
  try dsimp only at H
  rw [eh.l1] at H
  refine so<|WP.seq<|cf H ?_ ?_ <;> intro H
  ·refine WP.exit ?_
   have H:=H.out
   exact jn (true,xa,decide (xa<(a0.ag.length:Int))) H
  refine WP.skip<|WP.seq<|WP.block<|wr 5 0<|go 1<|gr H λgb H=>Dv.lE Q T Q Q iu U9 c9 gb.1 gb.2<|nK Q T Q o6 Q<|go 2<|wr 23 0<|go 1<|el H λtg hae H=>cl Q (cL 222) Q (eW.c hae)<|gp 2 ?_
  cases cn:!tg
  rotate_left
  ·have H:=H.ct cn
   refine go 19<|WP.cond Q (λ_=>?_) nofun
   refine so<|WP.exit ?_
   have H:=H.out
   exact jn (false,xa,decide (xa<(a0.ag.length:Int))) H
  have H:=H.cf cn
  refine jf 6 [0] ?_
  cases co:decide ((az.at a0.ag xa)=a0.cC)
  rotate_left
  ·have H:=H.ct co
   refine go 13<|WP.cond Q (λ_=>?_) nofun
   refine so<|WP.exit ?_
   have H:=H.out
   exact jn (false,xa,decide (xa<(a0.ag.length:Int))) H
  have H:=H.cf co
  refine gp 3 ?_
  cases cp:decide (0<xa)
  ·have H:=H.cf cp
   refine go 10<|WP.cond Q nofun (λ_=>?_)
   exact WP.skip<|rg 2 0<|go 2<|bk ja (aE (xa+1)) H
  have H:=H.ct cp
  refine gl 5 [0]<|gr H λgc H=>Dv.lE Q (gg Q) Q Q iu U9 c9 gc.1 gc.2<|nK Q (gg Q) Q o6 Q<|go 3<|cf H ?_ ?_ <;> intro H
  ·exact WP.skip<|rg 2 0<|go 2<|bk ja (aE (xa+1)) H
  refine so<|WP.exit ?_
  have H:=H.out
  exact jn (false,xa,decide (xa<(a0.ag.length:Int))) H
 have H:=H.ct ck
 refine gl 2 [0]<|el H λtj haf H=>Dv.call Q (gg Q) (cL 222) Q (eW.c haf)<|gp 2 ?_
 cases cq:!tj
 rotate_left
 ·have H:=H.ct cq
  refine go 12<|WP.cond Q (λ_=>?_) nofun
  refine sp ?_
  cases H.out;exact ek 1
 have H:=H.cf cq
 refine jf 7 [0,0] ?_
 cases cr:decide (a0.ah=a0.cC)
 rotate_left
 ·have H:=H.ct cr
  refine go 5<|WP.cond Q (λ_=>?_) nofun
  refine sp ?_
  cases H.out;exact ek 1
 have H:=H.cf cr
 refine gl 5 [0]<|ce H ?_ ?_ <;> intro H
 ·refine sp ?_
  cases H.out;exact ek 1
 refine WP.skip<|so<|WP.seq<|WP.label<|sq H id [] (λpe=>[(3,vB pe.1)]) (λ_=>[]) (λpe H=>?_) (λH=>?_)
 ·refine sp ?_
  cases H.out;exact ek 1
 refine wr 4 0<|gl 2 [0]<|Dv.jw Q T Q iu<|go 1<|WP.block<|ws 1 [0] 0 ?_
 refine lq (λj_ (pg:Int)=>eh.l0 k a0 j_ pg) 0 H [1,3,60,61] (λpg=>[(62,vI pg)]) (λ_=>[]) ?_
 rintro j_ xb H
 rcases j_ with _ | jc
 ·exact(aW.no H).elim
 try dsimp only at H
 rw [eh.l0] at H
 refine so<|WP.seq<|cf H ?_ ?_ <;> intro H
 ·refine WP.exit ?_
  have H:=H.out
  exact jn (true,xb,decide (xb<(a0.ag.length:Int))) H
 refine WP.skip<|WP.seq<|WP.block<|wr 5 0<|go 1<|gr H λgi H=>Dv.lE Q T Q Q iu U9 c9 gi.1 gi.2<|nK Q T Q o6 Q<|go 2<|wr 23 0<|go 1<|el H λtm hag H=>cl Q (cL 222) Q (eW.c hag)<|gp 2 ?_
 cases Gq:!tm
 rotate_left
 ·have H:=H.ct Gq
  refine go 19<|WP.cond Q (λ_=>?_) nofun
  refine so<|WP.exit ?_
  have H:=H.out
  exact jn (false,xb,decide (xb<(a0.ag.length:Int))) H
 have H:=H.cf Gq
 refine jf 6 [0] ?_
 cases cu:decide ((az.at a0.ag xb)=a0.cC)
 rotate_left
 ·have H:=H.ct cu
  refine go 13<|WP.cond Q (λ_=>?_) nofun
  refine so<|WP.exit ?_
  have H:=H.out
  exact jn (false,xb,decide (xb<(a0.ag.length:Int))) H
 have H:=H.cf cu
 refine gp 3 ?_
 cases cw:decide (0<xb)
 ·have H:=H.cf cw
  refine go 10<|WP.cond Q nofun (λ_=>?_)
  exact WP.skip<|rg 2 0<|go 2<|bk jc (aE (xb+1)) H
 have H:=H.ct cw
 refine gl 5 [0]<|gr H λgj H=>Dv.lE Q (gg Q) Q Q iu U9 c9 gj.1 gj.2<|nK Q (gg Q) Q o6 Q<|go 3<|cf H ?_ ?_ <;> intro H
 ·exact WP.skip<|rg 2 0<|go 2<|bk jc (aE (xb+1)) H
 refine so<|WP.exit ?_
 have H:=H.out
 exact jn (false,xb,decide (xb<(a0.ag.length:Int))) H
theorem fa.c {v0_0:OV} {b0_:Nat} (h:fa.f a0 a1=some r):Tr prog 152 [iT b0_,vS a1] [ar b0_ 274 [vS a0.cP,eq v0_0.1],iq Value.string bp.O v0_0.1 a0.aw] (γ:=Unit) (λ_=>True) (λg=>vB r) (λg=>[ar b0_ 274 [vS a0.cP,eq v0_0.1],iq Value.string bp.O v0_0.1 a0.aw]):=by
 refine tf func152 h λR0 F H=>?_
 refine so<|wr 8 0<|gl 5 [0]<|vg (kn 1 Q) λza haa=>?_
 refine Dv.Be dK Q T Q (ab 0 Q) Q wy (dP U9) AU (λ_=>Q)<|Dv.pm1 (xP haa Q) Q T Q Q U276<|go 1<|wg (eL haa Q (pm 3 [0,1,2])) λ_ _=>?_
 cases H.out;exact et () 2 [1,0] 0
theorem bB.c {X1_:As} (h:bB.f k a0 a1=some r):Tr prog 187 [sl az a0,mV X1_ a1] [X1_] (γ:=Unit) (λ_=>True) (λg=>vI r) (λg=>[X1_]):=by
 refine tf func187 h λR0 F H=>?_
 refine so<|sr H id [] (λ_=>[]) (λ_=>[]) (λpa H=>?_) (λH=>?_)
 ·refine sp ?_
  cases H.out;exact et () 1 [0] 0
 refine wr 3 0<|go 1<|Dv.jw Q T Q iu<|go 1<|WP.block<|ws 1 [0] 0 ?_
 refine lq (λj_ (pc:Int)=>bB.l0 k a0 a1 j_ pc) 0 H [0,1,7] (λpc=>[(8,vI pc)]) (λ_=>[]) ?_
 rintro j_ xa H
 rcases j_ with _ | ja
 ·exact(aW.no H).elim
 try dsimp only at H
 rw [bB.l0] at H
 refine so<|WP.seq<|cf H ?_ ?_ <;> intro H
 ·refine WP.exit ?_
  have H:=H.out
  exact jn (xa,decide (xa<(a0.length:Int))) H
 refine WP.skip<|WP.seq<|WP.block<|so<|wr 6 0<|go 3<|gr H λgb H=>Dv.lE Q T Q Q iu U9 c9 gb.1 gb.2<|nK Q T Q o6 Q<|el H λta haa H=>Dv.qT (ret:=vB ta) (X:=X1_) (F:=F) Q T Q Q ⟨_,_,haa,Q,Q⟩ (bN (L:=[X1_]) (F:=F) [0] Q Q Q)<|.fin<|cf H ?_ ?_ <;> intro H
 ·exact WP.skip<|rg 2 0<|go 2<|bk ja (aE (xa+1)) H
 refine sp ?_
 have H:=H.cH
 cases H.out;exact et () 1 [0] 0
theorem aX.c {X1_:As} {p0_:OV} (h:aX.f k a0 a1=some r):Tr prog 187 [eq p0_.1,mV X1_ a1] [own az p0_.1 a0,X1_] (γ:=Unit) (λ_=>True) (λg=>vI r) (λg=>[own az p0_.1 a0,X1_]):=by
 refine tf func187 h λR0 F H=>?_
 refine so<|sr H id [] (λ_=>[]) (λ_=>[]) (λpa H=>?_) (λH=>?_)
 ·refine sp ?_
  cases H.out;exact et () 2 [0,1] 0
 refine wr 3 0<|go 1<|Dv.kl Q T Q (ab 0 Q) iu<|go 1<|WP.block<|ws 2 [0,1] 0 ?_
 refine lq (λj_ (pc:Int)=>aX.l0 k a0 a1 j_ pc) 0 H [0,1,7] (λpc=>[(8,vI pc)]) (λ_=>[]) ?_
 rintro j_ xa H
 rcases j_ with _ | ja
 ·exact(aW.no H).elim
 try dsimp only at H
 rw [aX.l0] at H
 refine so<|WP.seq<|cf H ?_ ?_ <;> intro H
 ·refine WP.exit ?_
  have H:=H.out
  exact jn (xa,decide (xa<(a0.length:Int))) H
 refine WP.skip<|WP.seq<|WP.block<|so<|wr 6 0<|go 3<|gr H λgb H=>?_
 have haa:xa.toNat<a0.length:=cQ gb
 refine Dv.na Q T Q (ab 0 Q) Q iu U9 c9 gb.1 gb.2<|Dv.D5 (j:=xa.toNat) (f:=0) (p:=vS (a0.getD xa.toNat default)) Q T Q (ab 0 Q) haa U9 Q Q<|el H λta hac H=>Dv.qT (ret:=vB ta) (X:=X1_) (F:=[own az p0_.1 a0]++F) Q T Q Q ⟨_,_,hac,Q,Q⟩ (bN (L:=[own az p0_.1 a0,X1_]) (F:=F) [1,0] Q Q Q)<|.fin<|cf H ?_ ?_ <;> intro H
 ·exact WP.skip<|rg 2 0<|go 2<|bk ja (aE (xa+1)) H
 refine sp ?_
 have H:=H.cH
 cases H.out;exact et () 2 [0,1] 0
theorem di.c {X1_:As} (h:di.f k a0 a1=some r):Tr prog 153 [sl az a0,mV X1_ a1] [X1_] (γ:=Unit) (λ_=>True) (λg=>vB r) (λg=>[X1_]):=by
 refine tf func153 h λR0 F H=>?_
 refine so<|wr 5 0<|go 2<|el H λta haa H=>mH 1 [0] (cL 187) (bB.c haa (X1_:=X1_)) ?_
 refine gq 2 ?_
 cases H.out;exact et () 1 [0] 0
theorem gA.c {cb0_ cd0_:Nat} {cq0_ cv0_0:OV} {ch0_:cq0_.1 = .pointer (some ⟨cd0_,0,none⟩)} {c0:bM} (h:gA.f a0 c0=some r):Tr prog 154 [vS a0,iT cb0_] [ar cb0_ 212 [eq cq0_.1],ar cd0_ 274 [vS c0.cP,eq cv0_0.1],iq Value.string bp.O cv0_0.1 c0.aw] (γ:=Unit) (λ_=>True) (λg=>vB r) (λg=>[ar cb0_ 212 [eq cq0_.1],ar cd0_ 274 [vS c0.cP,eq cv0_0.1],iq Value.string bp.O cv0_0.1 c0.aw]):=by
 refine tf func154 h λR0 F H=>?_
 refine so<|wr 5 0<|gl 2 [0]<|el H λta haa H=>mH 3 [1,2,0] (cL 152) (Tr.fG (fa.c haa (b0_:=cd0_) (v0_0:=cv0_0)) (.cons (eb ch0_) (.cons cG .nil))) ?_
 refine gq 2 ?_
 cases H.out;exact et () 3 [0,1,2] 0
theorem ey.c (h:ey.f a0=some r):Tr prog 223 [sl az a0] [] (γ:=OV) (λ_=>True) (λg=>eq g.1) (λg=>[own az g.1 r]):=by
 unfold ey.f at h
 obtain⟨h0,h5⟩:=(aW.of h).aF
 obtain rfl:=aW.out h5
 clear h h5
 refine(Tr.body func223 (c:=_) Q ntmps223 (Nat.le_of_ble_eq_true Q) λR0 F=>?_)
 refine WP.seq<|WP.qB [(0,false)] kr<|go 1<|WP.seq<|WP.seq<|WP.qB [(0,false),(1,true)] kr<|go 1<|Dv.snil Q T Q Q iu nofun (λb hb=>?_)
 refine .fin<|WP.cond Q (λc0=>?_) (λc0=>?_)
 ·obtain rfl:=hb c0
  refine WP.seq<|WP.qB [(0,false)] kr<|go 1<|wg (dX az none) λ_ _=>?_
  exact et iQ 1 [0] 0
 refine WP.skip<|WP.seq<|WP.qB [(0,true),(1,false),(2,true),(3,false)] kr<|Dv.lit0 az Q T iu U9 c9 z9 nofun (λv1=>?_)
 refine go 1<|Dv.uX (Kd:=az) (xs:=[]) (v:=v1.1) (jj:=0) (ys:=a0) (λv2:OV=>[own az v2.1 a0]++F) Q T Q Q Q dG iu (.inr ⟨_,iu⟩) wE Q dc (by simpa using h0) Q nofun (λv2=>?_)
 exact go 1<|rt i2 Q v2 1 [0] 0 (.cons (aQ Q) .nil)
theorem jF.c (h:jF.f a0=some r):Pt prog 155 [agg (Event.enc a0)] (agg (Event.enc r)):=by
 refine pf func155 h λR0 F H=>?_
 refine wr 2 3<|Dv.box Q T Q cA nofun λba=>al Q T yY nofun λbc=>.fin<|wr 5 20<|gl 2 [1]<|el H λta haa H=>cx 2 [0,1] (cL 223) (ey.c haa) nofun λgb _=>?_
 refine go 1<|sx 2 Q T Q Q (cells_one cS) G3 Q Q Q nofun ?_
 refine .fin<|wr 2 2<|gl 1 [2]<|sy 1 ?_
 refine .fin<|fz 0 [2] [1,1] ?_
 cases H.out;exact r2 i2 Q (.cons (aL Q nb Q px (ab 0 Q) Q) .nil)
theorem dag_Dag_Add.c {p0_:OV} (h:dag_Dag_Add.f k a0 a1=some r):Tr prog 93 [eq p0_.1,agg (Event.enc a1)] [bM.O p0_ a0] (γ:=Unit) (λ_=>True) (λg=>vI r.1) (λg=>[bM.O p0_ r.2]):=by
 refine tf func93 h λR0 F H=>?_
 refine wr 3 3<|Dv.box Q T Q (cells_one cS) nofun λba=>Dv.box Q T Q cA nofun λbc=>go 1<|WP.seq<|WP.block<|WP.seq<|wg (bM.eF 2 Q) λgb haa=>?_
 refine dg mX 13 0<|gl 1 [2]<|el H λta hac H=>cl Q (cL 151) Q (eh.c hac)<|gp 2 ?_
 cases ca:!ta
 rotate_left
 ·have H:=H.ct ca
  refine go 9<|WP.cond Q (λ_=>?_) nofun
  refine so<|wg (bM.shut (p:=p0_) (m:=a0) (gb.1,gb.2) haa (pm 4 [0,1,2,3])) λ_ _=>?_
  cases H.out;exact et () 3 [1,2,0] 2
 have H:=H.cf ca
 refine gl 3 [2,3]<|Dv.aJ haa Q (gg Q) Q<|fp haa Q (gg Q) Q GD<|gl 4 [0]<|ce H ?_ ?_ <;> intro H
 ·refine so<|wg (bM.shut (p:=p0_) (m:=a0) (gb.1,gb.2) haa (pm 4 [0,1,2,3])) λ_ _=>?_
  cases H.out;exact et () 3 [1,2,0] 2
 refine wr 5 0<|gl 3 [3,2]<|el H λtc had H=>mH 4 [0,1,2,3] (cL 152) (Tr.fG (fa.c had (b0_:=gb.1) (v0_0:=gb.2)) (.cons (eb haa) (.cons cG .nil))) ?_
 refine go 1<|ce H ?_ ?_ <;> intro H
 ·refine so<|wg (bM.shut (p:=p0_) (m:=a0) (gb.1,gb.2) haa (pm 4 [0,1,2,3])) λ_ _=>?_
  cases H.out;exact et () 3 [1,2,0] 2
 refine wr 5 0<|gl 2 [2]<|Dv.Im (Q:=kJ (λa0_=>gA.f a0_ a0)) (L:=[ar ba 212 [eq p0_.1],ar gb.1 274 [vS a0.cP,eq gb.2.1],iq Value.string bp.O gb.2.1 a0.aw]) (cL 154) (by rintro _ _ ⟨a0_,r_,h_,rfl,rfl⟩;exact gA.c h_ (cb0_:=ba) (cq0_:=p0_) (cd0_:=gb.1) (ch0_:=haa) (cv0_0:=gb.2)) Q T Q Q<|el H λte hae H=>mH 4 [3,0,1,2] (cL 153) (Tr.HO (A:=[]) (L:=[ar ba 212 [eq p0_.1],ar gb.1 274 [vS a0.cP,eq gb.2.1],iq Value.string bp.O gb.2.1 a0.aw]) (di.c hae (X1_:=(pk [ar ba 212 [eq p0_.1],ar gb.1 274 [vS a0.cP,eq gb.2.1],iq Value.string bp.O gb.2.1 a0.aw])))) ?_
 refine go 1<|ce H ?_ ?_ <;> intro H
 ·refine so<|wg (bM.shut (p:=p0_) (m:=a0) (gb.1,gb.2) haa (pm 4 [0,1,2,3])) λ_ _=>?_
  cases H.out;exact et () 3 [1,2,0] 2
 refine WP.skip<|WP.Gr H id (λpa=>[(2,iT ba),(3,iT bc)]) (λpa=>[ar bc 107 (Event.enc a1),ar ba 212 [eq p0_.1],bM.O p0_ a0]++F) (λpa H=>?_) (λH=>?_)
 rotate_left
 ·refine wu [2]<|cf H ?_ ?_ <;> intro H
  ·refine WP.skip ?_
   have H:=H.out
   refine ng (bM.shut (p:=p0_) (m:=a0) (gb.1,gb.2) haa (pm 4 [0,1,2,3])) λ_ _=>?_
   refine ns 3 [1,2,0] 0 ?_
   exact jn () H
  refine WP.seq<|wg (kn 1 Q) λza haf=>?_
  refine dg mX 8 0<|gl 1 [4]<|Dv.aJ haa Q T Q<|fp haa Q T Q uC<|gl 3 [2,3]<|Dv.Be dK Q T Q (ab 0 Q) Q wy (dP U9) AU (λ_=>Q)<|go 1<|WP.seq<|wr 2 0<|go 1<|Dv.pm0 (xP haf Q) Q T Q Q U276<|.fin<|ce H ?_ ?_ <;> intro H
  ·refine so<|wg (eL haf Q (pm 5 [0,1,2,3,4])) λ_ _=>?_
   refine wg (bM.shut (p:=p0_) (m:=a0) (gb.1,gb.2) haa (pm 4 [1,0,2,3])) λ_ _=>?_
   have H:=H.cH
   cases H.out;exact et () 3 [1,2,0] 2
  refine WP.skip<|wr 14 0<|go 1<|gr H λgc H=>vg (oi haf Q gc (pm 5 [1,0,2,3,4])) λ_ _=>?_
  refine Dv.mD bp.nn Q T Q (ab 0 Q)<|vg (bp.eF 0 Q) λgi hag=>?_
  refine fp hag Q T Q um<|jf 4 [0] ?_
  cases cb:!decide (((((mget a0.aw a1.ah).getD default).fe).ah)=eE)
  rotate_left
  ·have H:=H.ct cb
   refine go 7<|WP.cond Q (λ_=>?_) nofun
   refine so<|wg (bp.shut (p:=((mget (aU a0.aw za) a1.ah).getD dK)) (m:=(mget a0.aw a1.ah).getD default) gi hag (pm 6 [0,1,2,3,4,5])) λ_ _=>?_
   refine wg (po haf Q gc (pm 6 [0,1,2,3,4,5])) λ_ _=>?_
   refine wg (eL haf Q (pm 5 [1,0,2,3,4])) λ_ _=>?_
   refine wg (bM.shut (p:=p0_) (m:=a0) (gb.1,gb.2) haa (pm 4 [1,0,2,3])) λ_ _=>?_
   have H:=H.cH
   cases H.out;exact et () 3 [1,2,0] 2
  have H:=H.cf cb
  refine go 1<|Dv.aJ hag Q (gg Q) Q<|fp hag Q (gg Q) Q um<|gl 4 [0]<|cf H ?_ ?_ <;> intro H
  ·refine WP.skip ?_
   have H:=H.out
   refine ng (bp.shut (p:=((mget (aU a0.aw za) a1.ah).getD dK)) (m:=(mget a0.aw a1.ah).getD default) gi hag (pm 6 [0,1,2,3,4,5])) λ_ _=>?_
   refine ng (po haf Q gc (pm 6 [0,1,2,3,4,5])) λ_ _=>?_
   refine ng (eL haf Q (pm 5 [1,0,2,3,4])) λ_ _=>?_
   refine ng (bM.shut (p:=p0_) (m:=a0) (gb.1,gb.2) haa (pm 4 [1,0,2,3])) λ_ _=>?_
   refine ns 3 [1,2,0] 0 ?_
   exact jn () H
  refine so<|wg (bp.shut (p:=((mget (aU a0.aw za) a1.ah).getD dK)) (m:=(mget a0.aw a1.ah).getD default) gi hag (pm 6 [0,1,2,3,4,5])) λ_ _=>?_
  refine wg (po haf Q gc (pm 6 [0,1,2,3,4,5])) λ_ _=>?_
  refine wg (eL haf Q (pm 5 [1,0,2,3,4])) λ_ _=>?_
  refine wg (bM.shut (p:=p0_) (m:=a0) (gb.1,gb.2) haa (pm 4 [1,0,2,3])) λ_ _=>?_
  have H:=H.cH
  cases H.out;exact et () 3 [1,2,0] 2
 refine wr 5 8<|gl 1 [0]<|el H λtg hah H=>cl Q (cL 155) Q (jF.c hah)<|Dv.lD (qs:=[vS tg.cC,vS tg.aj,sl az tg.ag,vS tg.ah,vS tg.aC,vI tg.cW,vI 0,vB false]) (css:=[Event.enc tg]) Q T FY pl278 z278 Q ⟨(bx (Event.K.one _)),T⟩ Q Q<|Dv.box Q T Q cA nofun λbd=>go 1<|WP.kW H id (λpc=>[(2,iT ba),(3,iT bc),(6,iT bd)]) (λpc=>[ar bd 278 [vS tg.cC,vS tg.aj,sl az tg.ag,vS tg.ah,vS tg.aC,vI tg.cW,vI pc.2.2.1,vB false],ar bc 107 (Event.enc a1),ar ba 212 [eq p0_.1],bM.O p0_ pc.2.2.2]++F) (λpc H=>?_) (λH=>?_)
 ·refine WP.seq<|wg (bM.eF 3 Q) λgj hai=>?_
  refine wg (bp.shut (p:=(⟨.pointer (some ⟨bd,0,none⟩),Q⟩:OV)) (m:=(⟨tg,pc.2.2.1,false⟩:bp)) bd Q (pm 5 [2,0,1,3,4])) λ_ _=>?_
  refine wg (kn 2 Q) λzb haj=>?_
  refine dg mX 8 128<|gl 1 [5]<|Dv.aJ hai Q T Q<|fp hai Q T Q uC<|gl 4 [3,4]<|Dv.Js (vp:=λp:OV=>eq p.1) (jj:=0) (⟨.pointer (some ⟨bd,0,none⟩),Q⟩:OV) Q T Q Q Q Q wy (dP U9) (λ_=>ee kr)<|.fin<|so<|wg (xk bp.nn haj Q (pm 6 [0,1,2,3,4,5])) λ_ _=>?_
  refine wg (bM.shut (p:=p0_) (m:=(⟨pc.2.2.2.cP,mput pc.2.2.2.aw a1.cC (⟨tg,pc.2.2.1,false⟩:bp)⟩:bM)) (gj.1,gj.2) hai (pm 4 [1,0,2,3])) λ_ _=>?_
  cases H.out;exact et () 3 [1,2,0] 2
 refine wr 4 0<|gl 2 [1]<|Dv.jw Q T Q iu<|go 1<|WP.block<|ws 4 [0,1,2,3] 0 ?_
 refine lq (λj_ (pe:Int×Int×bM)=>dag_Dag_Add.l0 k a1 j_ pe.1 pe.2.1 pe.2.2) (0,0,a0) H [2,3,6,63,64] (λpe=>[(65,vI pe.1)]) (λpe=>[(0,ar bd 278 [vS tg.cC,vS tg.aj,sl az tg.ag,vS tg.ah,vS tg.aC,vI tg.cW,vI pe.2.1,vB false]),(3,bM.O p0_ pe.2.2)]) ?_
 rintro j_ ⟨xa,xb,xc⟩ H
 rcases j_ with _ | ja
 ·exact(aW.no H).elim
 try dsimp only at H
 rw [dag_Dag_Add.l0] at H
 refine so<|WP.seq<|cf H ?_ ?_ <;> intro H
 ·refine WP.exit ?_
  have H:=H.out
  exact jn (xa,decide (xa<(a1.ag.length:Int)),xb,xc) H
 refine WP.skip<|WP.seq<|WP.block<|wr 3 0<|gr H λgk H=>Dv.lE Q T Q Q iu U9 c9 gk.1 gk.2<|nK Q T Q o6 Q<|go 1<|WP.seq<|wg (bM.eF 3 Q) λgn hak=>?_
 refine wg (kn 1 Q) λzc ham=>?_
 refine gr H λgt H=>wg (oi ham Q gt (pm 6 [1,0,2,3,4,5])) λ_ _=>?_
 refine wg (bp.eF 0 Q) λgu han=>?_
 refine dg mX 19 262144<|gl 6 [4,6]<|Dv.aJ hak Q T Q<|fp hak Q T Q uC<|gl 2 [3]<|Dv.Be dK Q T Q (ab 2 Q) Q wy (dP U9) AU (λ_=>Q)<|Dv.aJ han Q T Q<|fp han Q T Q xH<|gl 2 [0]<|Dv.Ch Q T Q Q<|go 2<|sv 4 ?_
 refine .fin<|rg 9 256<|gl 1 [6]<|Dv.aJ hak Q T Q<|fp hak Q T Q uC<|gl 2 [3]<|Dv.Be dK Q T Q (ab 2 Q) Q wy (dP U9) AU (λ_=>Q)<|Dv.aJ han Q T Q<|fp han Q T Q Fj<|sy 0 ?_
 refine .fin<|rg 2 0<|go 2<|ng (bp.shut (p:=((mget (aU xc.aw zc) (az.at a1.ag xa)).getD dK)) (m:=(⟨((mget xc.aw (az.at a1.ag xa)).getD default).fe,((mget xc.aw (az.at a1.ag xa)).getD default).dx,true⟩:bp)) gu han (pm 7 [0,1,2,3,4,5,6])) λ_ _=>?_
 refine ng (n9 ham Q gt (pm 7 [0,1,2,3,4,5,6])) λ_ hao=>?_
 refine ng (eL hao (lM Q gt) (pm 6 [1,0,2,3,4,5])) λ_ _=>?_
 refine ng (bM.shut (p:=p0_) (m:=(⟨xc.cP,mput xc.aw (az.at a1.ag xa) (⟨((mget xc.aw (az.at a1.ag xa)).getD default).fe,((mget xc.aw (az.at a1.ag xa)).getD default).dx,true⟩:bp)⟩:bM)) (gn.1,gn.2) hak (pm 5 [1,0,2,3,4])) λ_ _=>?_
 refine ns 4 [1,2,3,0] 0 ?_
 exact bk ja (aE (xa+1),max xb (aE ((((mget xc.aw (az.at a1.ag xa)).getD default).dx)+1)),(⟨xc.cP,mput xc.aw (az.at a1.ag xa) (⟨((mget xc.aw (az.at a1.ag xa)).getD default).fe,((mget xc.aw (az.at a1.ag xa)).getD default).dx,true⟩:bp)⟩:bM)) H
theorem iU.c {p0_:OV} (h:iU.f k a0 a1=some r):Tr prog 63 [eq p0_.1,agg (Event.enc a1)] [au.O p0_ a0] (γ:=Unit) (λ_=>True) (λg=>vI r.1) (λg=>[au.O p0_ r.2]):=by
 refine tf func63 h λR0 F H=>?_
 refine wr 2 1<|Dv.box Q T Q cA nofun λba=>go 1<|wr 5 8<|gl 3 [0]<|vg (au.eF 1 Q) λgb haa=>?_
 refine el H λta hac H=>cx 3 [0,1,2] (cL 92) (Tr.fG (aV.c hac (b0_:=gb.1) (v0_0:=gb.2)) (.cons (eb haa) (.cons cG .nil))) nofun λva _=>?_
 refine go 1<|WP.seq<|wr 4 4<|gl 2 [3]<|el H λtc had H=>cx 4 [2,0,1,3] (cL 93) (dag_Dag_Add.c had (p0_:=va)) nofun λ_ _=>?_
 refine go 1<|so<|ce H ?_ ?_ <;> intro H
 ·refine so<|wg (zq (pm 4 [2,0,1,3])) λ_ _=>?_
  refine wg (au.shut (p:=p0_) (m:=(⟨wx a0.b9 a1.aj tc.2⟩:au)) (gb.1,gb.2) haa (pm 3 [1,0,2])) λ_ _=>?_
  cases H.out;exact et () 2 [1,0] 1
 refine WP.skip<|WP.seq<|wg (BW 2 Q) λza hae=>?_
 refine dg mX 8 128<|go 1<|Dv.aJ haa Q T Q<|fp haa Q T Q GL<|gl 4 [3,4]<|Dv.Js (vp:=λp:OV=>eq p.1) (jj:=0) va Q T Q Q Q Q CT (dP U9) (λ_=>ee kr)<|.fin<|so<|wg (GU bM.nn hae (pm 5 [0,1,2,3,4])) λ_ _=>?_
 refine wg (au.shut (p:=p0_) (m:=(⟨mput a0.b9 a1.aj tc.2⟩:au)) (gb.1,gb.2) haa (pm 3 [1,0,2])) λ_ _=>?_
 cases H.out;exact et () 2 [1,0] 1
theorem iZ.c {v0_0:OV} {b0_:Nat} (h:iZ.f a0 a1=some r):Tr prog 156 [iT b0_,vS a1] [ar b0_ 274 [vS a0.cP,eq v0_0.1],iq Value.string bp.O v0_0.1 a0.aw] (γ:=Unit) (λ_=>True) (λg=>lg [agg (Pos.enc r.1),vB r.2]) (λg=>[ar b0_ 274 [vS a0.cP,eq v0_0.1],iq Value.string bp.O v0_0.1 a0.aw]):=by
 refine tf func156 h λR0 F H=>?_
 refine wr 2 1<|al Q T nu nofun λba=>go 1<|WP.seq<|wr 4 0<|go 2<|el H λta haa H=>mH 3 [1,2,0] (cL 152) (fa.c haa (b0_:=b0_) (v0_0:=v0_0)) ?_
 refine go 1<|ce H ?_ ?_ <;> intro H
 ·refine wr 3 2<|Dv.lD (qs:=[vI 0,vS eE]) (css:=[]) Q T uA Ct z49 Q T Q Q<|sy 0 ?_
  refine gq 1 ?_
  cases H.out;exact rt i2 Q () 3 [0,1,2] 1 (.cons (aL Q uA Q yF (ab 0 Q) Q) (.cons (aQ Q) .nil))
 refine WP.skip<|wr 13 2048<|gl 5 [1]<|vg (kn 2 Q) λza hac=>?_
 refine Dv.Be dK Q T Q (ab 0 Q) Q wy (dP U9) AU (λ_=>Q)<|gr H λgb H=>vg (oi hac Q gb (pm 4 [1,0,2,3])) λ_ _=>?_
 refine Dv.mD bp.nn Q T Q (ab 0 Q)<|vg (bp.eF 0 Q) λgc had=>?_
 refine fp had Q T Q xH<|gl 2 [0]<|Dv.lD (qs:=[vI (((mget a0.aw a1).getD default).dx),vS a1]) (css:=[[vI (((mget a0.aw a1).getD default).dx)],[vS a1]]) Q T uA Ct z49 Q ⟨(cells_one (ai Q)),⟨(cells_one (ai Q)),T⟩⟩ Q Q<|sy 3 ?_
 refine go 1<|wg (bp.shut (p:=((mget (aU a0.aw za) a1).getD dK)) (m:=(mget a0.aw a1).getD default) gc had (pm 5 [0,1,2,3,4])) λ_ _=>?_
 refine wg (po hac Q gb (pm 5 [0,1,2,3,4])) λ_ _=>?_
 refine wg (eL hac Q (pm 4 [1,0,2,3])) λ_ _=>?_
 cases H.out;exact rt i2 Q () 3 [1,2,0] 1 (.cons (aL Q uA Q yF (ab 1 Q) Q) (.cons (aQ Q) .nil))
theorem dN.c {v0_0:OV} {b0_:Nat} (h:dN.f a0 a1 a2=some r):Tr prog 94 [iT b0_,vS a1,vS a2] [ar b0_ 150 [eq v0_0.1],iq Value.string bM.O v0_0.1 a0.b9] (γ:=Unit) (λ_=>True) (λg=>lg [agg (Pos.enc r.1),vB r.2]) (λg=>[ar b0_ 150 [eq v0_0.1],iq Value.string bM.O v0_0.1 a0.b9]):=by
 refine tf func94 h λR0 F H=>?_
 refine wr 2 1<|al Q T nu nofun λba=>go 1<|wr 9 132<|go 2<|el H λta haa H=>cx 3 [1,2,0] (cL 92) (aV.c haa (b0_:=b0_) (v0_0:=v0_0)) nofun λva _=>?_
 refine go 1<|vg (bM.eF 2 Q) λgb hac=>?_
 refine el H λtc had H=>mH 5 [0,1,2,3,4] (cL 156) (Tr.fG (iZ.c had (b0_:=gb.1) (v0_0:=gb.2)) (.cons (eb hac) (.cons cG .nil))) ?_
 refine dZ Q T Q Q<|dZ Q T Q Q<|sy 4 ?_
 refine go 1<|wg (bM.shut (p:=va) (m:=ta) (gb.1,gb.2) hac (pm 5 [0,1,2,3,4])) λ_ _=>?_
 refine wg (gI (aV.r haa) (pm 4 [2,0,1,3])) λ_ _=>?_
 cases H.out;exact rt i2 Q () 3 [2,1,0] 1 (.cons (aL Q uA Q yF (ab 2 Q) Q) (.cons (aQ Q) .nil))
theorem fi.c (h:fi.f a0=some r):Pt prog 98 [agg (ak.enc a0)] (agg (aM.enc r)):=by
 refine pf func98 h λR0 F H=>?_
 refine wr 2 3<|Dv.box Q T Q cA nofun λba=>al Q T Hj nofun λbc=>.fin<|wr 10 512<|gl 8 [1,1,1,1]<|Dv.lD (qs:=[vS a0.aj,vS a0.aC,vS a0.ah,vB a0.ay]) (css:=[[vS a0.aj],[vS a0.aC],[vS a0.ah],[vB a0.ay]]) Q T C9 pl47 z47 Q ⟨(cells_one (ai Q)),⟨(cells_one (ai Q)),⟨(cells_one (ai Q)),⟨(cells_one (ai Q)),T⟩⟩⟩⟩ Q Q<|sy 0 ?_
 refine .fin ?_
 cases H.out;exact r2 i2 Q (.cons (aL Q C9 Q Hp (ab 0 Q) Q) .nil)
theorem dp.c (h:dp.f a0 a1 a2=some r):Pt prog 250 [vI a0,vI a1,vI a2] (vB r):=by
 refine pf func250 h λR0 F H=>?_
 refine so<|wr 9 0<|gp 4 ?_
 cases ca:decide (a1<=a0)
 ·have H:=H.cf ca
  refine gq 5 ?_
  cases H.out;exact ek 0
 have H:=H.ct ca
 refine gq 5 ?_
 cases H.out;exact ek 0
theorem jS.c (h:jS.f a0=some r):Pt prog 251 [agg (ak.enc a0)] (vB r):=by
 refine pf func251 h λR0 F H=>?_
 refine wr 2 1<|Dv.box Q T Q cA nofun λba=>go 1<|sp ?_
 cases H.out;exact ek 1
theorem mh.c (h:mh.f k a0=some r):Pt prog 253 [vS a0] (vB r):=by
 refine pf func253 h λR0 F H=>?_
 refine so<|wr 11 0<|gp 3 ?_
 cases ca:decide (a0=eE)
 rotate_left
 ·have H:=H.ct ca
  refine gq 8 ?_
  cases H.out;exact ek 0
 have H:=H.cf ca
 refine gp 4 ?_
 cases cb:decide (a0=(⟨#[109,97,105,110]⟩:BA))
 rotate_left
 ·have H:=H.ct cb
  refine gq 4 ?_
  cases H.out;exact ek 0
 have H:=H.cf cb
 refine go 1<|el H λta haa H=>Dv.call Q (gg Q) (cL 222) Q (eW.c haa)<|gq 2 ?_
 cases H.out;exact ek 0
theorem iJ.c (h:iJ.f k a0=some r):Pt prog 252 [agg (ak.enc a0)] (vB r):=by
 refine pf func252 h λR0 F H=>?_
 refine wr 2 1<|Dv.box Q T Q cA nofun λba=>go 1<|wr 14 0<|gl 2 [0]<|el H λta haa H=>cl Q (cL 203) Q (j5.c haa)<|gp 1 ?_
 cases ca:ta
 ·have H:=H.cf ca
  refine gq 10 ?_
  cases H.out;exact ek 1
 have H:=H.ct ca
 refine gl 2 [0]<|el H λtc hac H=>Dv.call Q (gg Q) (cL 222) Q (eW.c hac)<|gp 2 ?_
 cases cb:tc
 ·have H:=H.cf cb
  refine gq 5 ?_
  cases H.out;exact ek 1
 have H:=H.ct cb
 refine gl 2 [0]<|el H λte had H=>Dv.call Q (gg Q) (cL 253) Q (mh.c had)<|gq 2 ?_
 cases H.out;exact ek 1
theorem gW.c {c0:Int->Int->Int->Option Bool} (h:gW.f k a0 c0=some r):Pt prog 254 [agg (ak.enc a0),rp [nU c0]] (vB r):=by
 refine pf func254 h λR0 F H=>?_
 refine wr 2 1<|Dv.box Q T Q cA nofun λba=>go 1<|wr 15 0<|gl 2 [0]<|el H λta haa H=>cl Q (cL 203) Q (j5.c haa)<|gp 1 ?_
 cases ca:ta
 ·have H:=H.cf ca
  refine gq 11 ?_
  cases H.out;exact ek 1
 have H:=H.ct ca
 refine jf 4 [0] ?_
 cases cb:!a0.lO
 rotate_left
 ·have H:=H.ct cb
  refine gq 7 ?_
  cases H.out;exact ek 1
 have H:=H.cf cb
 refine nK Q (gg Q) Q Hq Q<|gl 2 [0]<|el H λtc hac H=>Dv.ql (ret:=vB tc) Q (gg Q) Q Q ⟨_,_,_,_,hac,Q,Q⟩<|gq 3 ?_
 cases H.out;exact ek 1
theorem gZ.c {c0:Int->Int->Int->Option Bool} (h:gZ.f a0 c0=some r):Pt prog 255 [agg (ak.enc a0),rp [nU c0]] (vB r):=by
 refine pf func255 h λR0 F H=>?_
 refine wr 2 1<|Dv.box Q T Q cA nofun λba=>go 1<|wr 5 0<|nK Q T Q Hq Q<|gl 2 [0]<|el H λta haa H=>Dv.ql (ret:=vB ta) Q T Q Q ⟨_,_,_,_,haa,Q,Q⟩<|gq 1 ?_
 cases H.out;exact ek 1
theorem oJ.c (h:oJ.f k=some r):Pt prog 199 [] (sl jD r):=by
 refine pf func199 h λR0 F H=>?_
 refine so<|wr 2 3<|al Q T zc370 nofun λba=>sy 0 ?_
 refine .fin<|wr 4 0<|Dv.gh (nB (E':=[(0,jQ),(1,rp [eq (.func (.func 250) #[] #[])])]) (l':=F) 0 Q (ao Q aB (ao Q jx iG)) (fI .nil λ_=>bn)) (λ_ _=>?_)
 refine Dv.mkf (Q:=gV (λa0_=>gW.f k a0_ dp.f)) (cL 254) (by rintro _ _ ⟨a0_,r_,h_,rfl,rfl⟩;exact Pt.fG (gW.c h_) (.cons cG (.cons (HS (.cons (tA (cL 250) (by rintro _ _ ⟨a0_,a1_,a2_,r_,h_,rfl,rfl⟩;exact dp.c h_)) .nil)) .nil))) Q T Q Q<|Dv.mkf (Q:=gV (λa0_=>gZ.f a0_ dp.f)) (cL 255) (by rintro _ _ ⟨a0_,r_,h_,rfl,rfl⟩;exact Pt.fG (gZ.c h_) (.cons cG (.cons (HS (.cons (tA (cL 250) (by rintro _ _ ⟨a0_,a1_,a2_,r_,h_,rfl,rfl⟩;exact dp.c h_)) .nil)) .nil))) Q T Q Q<|Dv.lit jD ([jS.f,iJ.f k,λa0_=>gW.f k a0_ dp.f,λa0_=>gZ.f a0_ dp.f]:List (ak->Option Bool)) (css:=[[gJ jS.f],[gJ (iJ.f k)],[gJ (λa0_=>gW.f k a0_ dp.f)],[gJ (λa0_=>gZ.f a0_ dp.f)]]) Q T U327 U78 c78 z78 Q dc dc Q ⟨(zt (tA (cL 251) (by rintro _ _ ⟨a0_,r_,h_,rfl,rfl⟩;exact jS.c h_)) (ai Q)),⟨(zt (tA (cL 252) (by rintro _ _ ⟨a0_,r_,h_,rfl,rfl⟩;exact iJ.c h_)) (ai Q)),⟨(cells_one oQ),⟨(cells_one oQ),T⟩⟩⟩⟩ Q Q Q<|gq 1 ?_
 cases H.out;exact ek 0
theorem jO.c (h:jO.f a0=some r):Pt prog 200 [vI a0] (vB r):=by
 refine pf func200 h λR0 F H=>?_
 refine so<|wr 7 0<|gp 3 ?_
 cases ca:decide (0<=a0)
 ·have H:=H.cf ca
  refine gq 4 ?_
  cases H.out;exact ek 0
 have H:=H.ct ca
 refine gq 4 ?_
 cases H.out;exact ek 0
theorem ni.c (h:ni.f a0=some r):Pt prog 201 [agg (ak.enc a0)] (agg (ak.enc r)):=by
 refine pf func201 h λR0 F H=>?_
 refine wr 2 3<|Dv.box Q T Q cA nofun λba=>al Q T qP nofun λbc=>.fin<|wr 11 1536<|gl 8 [1,1,1,1]<|Dv.lD (qs:=[vI a0.bf,vS eE,vS a0.aC,vS eE,vS eE,vB false,vB false,vI 0,vI 0,vI a0.bK,vI a0.aS]) (css:=[[vI a0.bf],[vS a0.aC],[vI a0.bK],[vI a0.aS]]) Q T fO s5 z80 Q ⟨(cells_one (ai Q)),⟨(cells_one (ai Q)),⟨(cells_one (ai Q)),⟨(cells_one (ai Q)),T⟩⟩⟩⟩ Q Q<|al Q T qP nofun λbd=>sy 0 ?_
 refine .fin<|WP.seq<|wu [2]<|WP.block<|so<|ce H ?_ ?_ <;> intro H
 ·refine dg mX 16 43520<|gl 9 [2,2,2,2]<|sx 0 Q T Q Q cE sz9 Q Q Q pD ?_
  refine go 1<|sx 0 Q T Q Q cE sz9 Q Q Q pD ?_
  refine go 1<|sx 0 Q T Q Q cE sz9 Q Q Q pD ?_
  refine go 1<|sv 0 ?_
  refine .fin<|wr 2 2<|gl 1 [0]<|sy 1 ?_
  refine .fin ?_
  cases H.out;exact r3 i2 Q (.cons (aL Q fO Q ij (ab 1 Q) Q) .nil)
 refine so<|cf H ?_ ?_ <;> intro H
 ·refine so<|cf H ?_ ?_ <;> intro H
  ·refine WP.skip<|wr 2 2<|gl 1 [0]<|sy 1 ?_
   refine .fin ?_
   cases H.out;exact r3 i2 Q (.cons (aL Q fO Q ij (ab 1 Q) Q) .nil)
  refine rg 4 8<|gl 3 [2]<|sy 0 ?_
  refine .fin<|wr 2 2<|gl 1 [0]<|sy 1 ?_
  refine .fin ?_
  cases H.out;exact r3 i2 Q (.cons (aL Q fO Q ij (ab 1 Q) Q) .nil)
 refine wd mX 8 160<|gl 5 [2,2]<|sx 0 Q T Q Q cE sz9 Q Q Q pD ?_
 refine go 1<|sv 0 ?_
 refine .fin<|wu [2]<|cf H ?_ ?_ <;> intro H
 ·refine WP.skip<|wr 2 2<|gl 1 [0]<|sy 1 ?_
  refine .fin ?_
  cases H.out;exact r3 i2 Q (.cons (aL Q fO Q ij (ab 1 Q) Q) .nil)
 refine rg 4 8<|gl 3 [2]<|sy 0 ?_
 refine .fin<|wr 2 2<|gl 1 [0]<|sy 1 ?_
 refine .fin ?_
 cases H.out;exact r3 i2 Q (.cons (aL Q fO Q ij (ab 1 Q) Q) .nil)
theorem eG.c (h:eG.f k a0=some r):Pt prog 128 [agg (ak.enc a0)] (vB r):=by
 refine pf func128 h λR0 F H=>?_
 refine wr 2 1<|Dv.box Q T Q cA nofun λba=>go 1<|WP.seq<|wd mX 18 0<|jf 4 [0] ?_
 cases ca:decide (a0.bf<0)
 rotate_left
 ·have H:=H.ct ca
  refine go 14<|WP.cond Q (λ_=>?_) nofun
  refine sp ?_
  cases H.out;exact ek 1
 have H:=H.cf ca
 refine jf 5 [0] ?_
 cases cb:decide (3<a0.bf)
 rotate_left
 ·have H:=H.ct cb
  refine go 9<|WP.cond Q (λ_=>?_) nofun
  refine sp ?_
  cases H.out;exact ek 1
 have H:=H.cf cb
 refine el H λta haa H=>Dv.call Q (gg Q) (cL 199) Q (oJ.c haa)<|gl 2 [0]<|gr H λgb H=>Dv.lE Q (gg Q) Q Q U327 U78 c78 gb.1 gb.2<|nK Q (gg Q) Q sc78 Q<|gl 1 [0]<|el H λtc hac H=>Dv.ql (ret:=vB tc) Q (gg Q) Q Q ⟨_,_,hac,Q,Q⟩<|go 2<|ce H ?_ ?_ <;> intro H
 ·refine sp ?_
  cases H.out;exact ek 1
 refine WP.skip<|so<|wd mX 22 0<|gl 2 [0,0]<|el H λte had H=>cl Q (cL 201) Q (ni.c had)<|Dv.eqs [.int .i64 a0.bf,.string a0.aj,.string a0.aC,.string a0.bP,.string a0.ah,.bool a0.ay,.bool a0.lO,.int .i64 a0.cX,.int .i64 a0.bU,.int .i64 a0.bK,.int .i64 a0.aS] [.int .i64 te.bf,.string te.aj,.string te.aC,.string te.bP,.string te.ah,.bool te.ay,.bool te.lO,.int .i64 te.cX,.int .i64 te.bU,.int .i64 te.bK,.int .i64 te.aS] Q T Q Q Q Q Gl (λ_=>dJ 2 dc (λ_=>yL a0 te))<|gp 1 ?_
 cases cg:decide (a0=te)
 ·have H:=H.cf cg
  refine gq 17 ?_
  cases H.out;exact ek 1
 have H:=H.ct cg
 refine gl 2 [0]<|el H λtg hae H=>Dv.call Q (gg Q) (cL 202) Q (lK.c hae)<|gp 2 ?_
 cases ci:tg
 ·have H:=H.cf ci
  refine gq 12 ?_
  cases H.out;exact ek 1
 have H:=H.ct ci
 refine gl 3 [0]<|el H λtj haf H=>Dv.HC Q (gg Q) Q (cL 200) Q (jO.c haf)<|gp 2 ?_
 cases cj:tj
 ·have H:=H.cf cj
  refine gq 6 ?_
  cases H.out;exact ek 1
 have H:=H.ct cj
 refine gl 3 [0]<|el H λtm hag H=>Dv.HC Q (gg Q) Q (cL 200) Q (jO.c hag)<|gq 2 ?_
 cases H.out;exact ek 1
theorem lT.c {v0_0:OV} {b0_:Nat} (h:lT.f a0 a1=some r):Tr prog 224 [iT b0_,vS a1] [ar b0_ 274 [vS a0.cP,eq v0_0.1],iq Value.string bp.O v0_0.1 a0.aw] (γ:=Unit) (λ_=>True) (λg=>lg [agg (Event.enc r.1),vB r.2]) (λg=>[ar b0_ 274 [vS a0.cP,eq v0_0.1],iq Value.string bp.O v0_0.1 a0.aw]):=by
 refine tf func224 h λR0 F H=>?_
 refine wr 2 1<|al Q T yY nofun λba=>go 1<|WP.seq<|wr 4 0<|go 2<|el H λta haa H=>mH 3 [1,2,0] (cL 152) (fa.c haa (b0_:=b0_) (v0_0:=v0_0)) ?_
 refine go 1<|ce H ?_ ?_ <;> intro H
 ·refine wr 3 2<|Dv.lD (qs:=[vS eE,vS eE,jQ,vS eE,vS eE,vI 0]) (css:=[]) Q T nb BS z107 Q T Q Q<|sy 0 ?_
  refine gq 1 ?_
  cases H.out;exact rt i2 Q () 3 [0,1,2] 1 (.cons (sW (aL Q nb Q px (ab 0 Q) Q) (qR (.cons cG (.cons cG (.cons kT (.cons cG (.cons cG (.cons cG .nil)))))))) (.cons (aQ Q) .nil))
 refine WP.skip<|wr 12 1024<|gl 5 [1]<|vg (kn 2 Q) λza hac=>?_
 refine Dv.Be dK Q T Q (ab 0 Q) Q wy (dP U9) AU (λ_=>Q)<|gr H λgb H=>vg (oi hac Q gb (pm 4 [1,0,2,3])) λ_ _=>?_
 refine Dv.mD bp.nn Q T Q (ab 0 Q)<|vg (bp.eF 0 Q) λgc had=>?_
 refine fp had Q T Q um<|gl 1 [0]<|el H λtc hae H=>cl Q (cL 155) Q (jF.c hae)<|sy 3 ?_
 refine go 1<|wg (bp.shut (p:=((mget (aU a0.aw za) a1).getD dK)) (m:=(mget a0.aw a1).getD default) gc had (pm 5 [0,1,2,3,4])) λ_ _=>?_
 refine wg (po hac Q gb (pm 5 [0,1,2,3,4])) λ_ _=>?_
 refine wg (eL hac Q (pm 4 [1,0,2,3])) λ_ _=>?_
 cases H.out;exact rt i2 Q () 3 [1,2,0] 1 (.cons (aL Q nb Q px (ab 1 Q) Q) (.cons (aQ Q) .nil))
theorem eK.c {v0_0:OV} {b0_:Nat} (h:eK.f a0 a1 a2 a3=some r):Tr prog 157 [iT b0_,vS a1,vS a2,vS a3] [ar b0_ 150 [eq v0_0.1],iq Value.string bM.O v0_0.1 a0.b9] (γ:=Unit) (λ_=>True) (λg=>vI r) (λg=>[ar b0_ 150 [eq v0_0.1],iq Value.string bM.O v0_0.1 a0.b9]):=by
 refine tf func157 h λR0 F H=>?_
 refine so<|wr 5 4<|go 2<|el H λta haa H=>cx 2 [0,1] (cL 92) (aV.c haa (b0_:=b0_) (v0_0:=v0_0)) nofun λva _=>?_
 refine Dv.mkc (fst:=#[va.1]) Q T Q<|go 1<|wr 9 192<|go 2<|vg (bM.eF 2 Q) λgb hac=>?_
 refine el H λtc had H=>Dv.DH (fst:=#[va.1]) (B:=[ar gb.1 274 [vS ta.cP,eq gb.2.1],iq Value.string bp.O gb.2.1 ta.aw]) (F:=[ar b0_ 150 [eq v0_0.1],HP Value.string bM.O v0_0.1 a0.b9 a1 va]++F) Q T Q (cL 224) Q (Tr.fG (lT.c had (b0_:=gb.1) (v0_0:=gb.2)) (.cons (eb hac) (.cons cG .nil))) (bN (L:=[ar gb.1 274 [vS ta.cP,eq gb.2.1],iq Value.string bp.O gb.2.1 ta.aw,ar b0_ 150 [eq v0_0.1],HP Value.string bM.O v0_0.1 a0.b9 a1 va]) (F:=F) [0,1,2,3] Q Q Q)<|go 1<|dZ Q T Q Q<|dZ Q T Q Q<|al Q T yY nofun λba=>sy 0 ?_
 refine go 1<|WP.seq<|WP.block<|so<|ce H ?_ ?_ <;> intro H
 ·refine so<|wg (bM.shut (p:=va) (m:=ta) (gb.1,gb.2) hac (pm 5 [1,2,0,3,4])) λ_ _=>?_
  refine wg (gI (aV.r haa) (pm 4 [3,0,1,2])) λ_ _=>?_
  cases H.out;exact et () 3 [1,2,0] 1
 refine WP.seq<|so<|ce H ?_ ?_ <;> intro H
 ·refine WP.skip<|ce H ?_ ?_ <;> intro H
  ·refine so<|wg (bM.shut (p:=va) (m:=ta) (gb.1,gb.2) hac (pm 5 [1,2,0,3,4])) λ_ _=>?_
   refine wg (gI (aV.r haa) (pm 4 [3,0,1,2])) λ_ _=>?_
   cases H.out;exact et () 3 [1,2,0] 1
  refine WP.skip<|so<|wg (bM.shut (p:=va) (m:=ta) (gb.1,gb.2) hac (pm 5 [1,2,0,3,4])) λ_ _=>?_
  refine wg (gI (aV.r haa) (pm 4 [3,0,1,2])) λ_ _=>?_
  cases H.out;exact et () 3 [1,2,0] 1
 refine wr 8 0<|gp 3 ?_
 cases ca:decide (a3=(⟨#[109,97,105,110]⟩:BA))
 ·have H:=H.cf ca
  refine go 5<|WP.cond Q nofun (λ_=>?_)
  refine so<|ce H ?_ ?_ <;> intro H
  ·refine WP.skip<|ce H ?_ ?_ <;> intro H
   ·refine so<|wg (bM.shut (p:=va) (m:=ta) (gb.1,gb.2) hac (pm 5 [1,2,0,3,4])) λ_ _=>?_
    refine wg (gI (aV.r haa) (pm 4 [3,0,1,2])) λ_ _=>?_
    cases H.out;exact et () 3 [1,2,0] 1
   refine WP.skip<|so<|wg (bM.shut (p:=va) (m:=ta) (gb.1,gb.2) hac (pm 5 [1,2,0,3,4])) λ_ _=>?_
   refine wg (gI (aV.r haa) (pm 4 [3,0,1,2])) λ_ _=>?_
   cases H.out;exact et () 3 [1,2,0] 1
  refine rg 5 0<|gl 5 [0]<|ce H ?_ ?_ <;> intro H
  ·refine so<|wg (bM.shut (p:=va) (m:=ta) (gb.1,gb.2) hac (pm 5 [1,2,0,3,4])) λ_ _=>?_
   refine wg (gI (aV.r haa) (pm 4 [3,0,1,2])) λ_ _=>?_
   cases H.out;exact et () 3 [1,2,0] 1
  refine WP.skip<|so<|wg (bM.shut (p:=va) (m:=ta) (gb.1,gb.2) hac (pm 5 [1,2,0,3,4])) λ_ _=>?_
  refine wg (gI (aV.r haa) (pm 4 [3,0,1,2])) λ_ _=>?_
  cases H.out;exact et () 3 [1,2,0] 1
 have H:=H.ct ca
 refine gl 5 [0]<|ce H ?_ ?_ <;> intro H
 ·refine WP.skip<|ce H ?_ ?_ <;> intro H
  ·refine so<|wg (bM.shut (p:=va) (m:=ta) (gb.1,gb.2) hac (pm 5 [1,2,0,3,4])) λ_ _=>?_
   refine wg (gI (aV.r haa) (pm 4 [3,0,1,2])) λ_ _=>?_
   cases H.out;exact et () 3 [1,2,0] 1
  refine WP.skip<|so<|wg (bM.shut (p:=va) (m:=ta) (gb.1,gb.2) hac (pm 5 [1,2,0,3,4])) λ_ _=>?_
  refine wg (gI (aV.r haa) (pm 4 [3,0,1,2])) λ_ _=>?_
  cases H.out;exact et () 3 [1,2,0] 1
 refine so<|ce H ?_ ?_ <;> intro H
 ·refine WP.skip<|ce H ?_ ?_ <;> intro H
  ·refine so<|wg (bM.shut (p:=va) (m:=ta) (gb.1,gb.2) hac (pm 5 [1,2,0,3,4])) λ_ _=>?_
   refine wg (gI (aV.r haa) (pm 4 [3,0,1,2])) λ_ _=>?_
   cases H.out;exact et () 3 [1,2,0] 1
  refine WP.skip<|so<|wg (bM.shut (p:=va) (m:=ta) (gb.1,gb.2) hac (pm 5 [1,2,0,3,4])) λ_ _=>?_
  refine wg (gI (aV.r haa) (pm 4 [3,0,1,2])) λ_ _=>?_
  cases H.out;exact et () 3 [1,2,0] 1
 refine rg 5 0<|gl 5 [0]<|ce H ?_ ?_ <;> intro H
 ·refine so<|wg (bM.shut (p:=va) (m:=ta) (gb.1,gb.2) hac (pm 5 [1,2,0,3,4])) λ_ _=>?_
  refine wg (gI (aV.r haa) (pm 4 [3,0,1,2])) λ_ _=>?_
  cases H.out;exact et () 3 [1,2,0] 1
 refine WP.skip<|so<|wg (bM.shut (p:=va) (m:=ta) (gb.1,gb.2) hac (pm 5 [1,2,0,3,4])) λ_ _=>?_
 refine wg (gI (aV.r haa) (pm 4 [3,0,1,2])) λ_ _=>?_
 cases H.out;exact et () 3 [1,2,0] 1
theorem eQ.c (h:eQ.f k a0 a1=some r):Pt prog 275 [sl ak.K a0,agg (ak.enc a1)] (vI r):=by
 refine pf func275 h λR0 F H=>?_
 refine wr 2 1<|Dv.box Q T Q cA nofun λba=>go 1<|sr H id [] (λ_=>[]) (λ_=>[]) (λpa H=>?_) (λH=>?_)
 ·refine sp ?_
  cases H.out;exact ek 1
 refine wr 3 0<|go 1<|Dv.jw Q T Q fk<|go 1<|WP.block<|ws 1 [0] 0 ?_
 refine lq (λj_ (pc:Int)=>eQ.l0 k a0 a1 j_ pc) 0 H [0,3,7] (λpc=>[(8,vI pc)]) (λ_=>[]) ?_
 rintro j_ xa H
 rcases j_ with _ | ja
 ·exact(aW.no H).elim
 try dsimp only at H
 rw [eQ.l0] at H
 refine so<|WP.seq<|cf H ?_ ?_ <;> intro H
 ·refine WP.exit ?_
  have H:=H.out
  exact jn (xa,decide (xa<(a0.length:Int))) H
 refine WP.skip<|WP.seq<|WP.block<|so<|wd mX 6 0<|gl 3 [0]<|gr H λgb H=>Dv.lE Q T Q Q fk fO ij gb.1 gb.2<|mY Q T Q nP Q<|Dv.eqs [.int .i64 a1.bf,.string a1.aj,.string a1.aC,.string a1.bP,.string a1.ah,.bool a1.ay,.bool a1.lO,.int .i64 a1.cX,.int .i64 a1.bU,.int .i64 a1.bK,.int .i64 a1.aS] [.int .i64 ((ak.K.at a0 xa).bf),.string ((ak.K.at a0 xa).aj),.string ((ak.K.at a0 xa).aC),.string ((ak.K.at a0 xa).bP),.string ((ak.K.at a0 xa).ah),.bool ((ak.K.at a0 xa).ay),.bool ((ak.K.at a0 xa).lO),.int .i64 ((ak.K.at a0 xa).cX),.int .i64 ((ak.K.at a0 xa).bU),.int .i64 ((ak.K.at a0 xa).bK),.int .i64 ((ak.K.at a0 xa).aS)] Q T Q Q Q Q Gl (λ_=>dJ 2 dc (λ_=>yL a1 (ak.K.at a0 xa)))<|.fin<|cf H ?_ ?_ <;> intro H
 ·exact WP.skip<|rg 2 0<|go 2<|bk ja (aE (xa+1)) H
 refine sp ?_
 have H:=H.cH
 cases H.out;exact ek 1
theorem jZ.c (h:jZ.f k a0 a1=some r):Pt prog 225 [sl ak.K a0,agg (ak.enc a1)] (vB r):=by
 refine pf func225 h λR0 F H=>?_
 refine wr 2 1<|Dv.box Q T Q cA nofun λba=>go 1<|wr 5 0<|gl 2 [0]<|el H λta haa H=>cl Q (cL 275) Q (eQ.c haa)<|gq 2 ?_
 cases H.out;exact ek 1
theorem jL.c {a1 a2:Int} {p0_:OV} (h:jL.f a0 a1 a2=some r):Tr prog 226 [eq p0_.1,vI a1,vI a2] [own ak.K p0_.1 a0] (γ:=OV) (λ_=>True) (λg=>eq g.1) (λg=>[own ak.K g.1 r]):=by
  unfold jL.f at h
  obtain⟨⟨h1,h2,h3⟩,h5⟩:=(aW.of h).aF
  obtain rfl:=aW.out h5
  clear h h5
  obtain⟨i,rfl⟩:=Int.eq_ofNat_of_zero_le h1
  obtain⟨j,rfl⟩:=Int.eq_ofNat_of_zero_le (show(0:Int)<=a2 by omega)
  have hij:i<=j:=om
  have hj:j<=a0.length:=om
  obtain⟨v,hv⟩:=p0_
  rw [Int.toNat_natCast,Int.toNat_natCast]
  refine Tr.body func226 (c:=_) Q ntmps226 (Nat.le_of_ble_eq_true Q) λR0 F=>?_
  refine so<|wr 6 0<|go 4<|Dv.kl (Kd:=ak.K) (xs:=a0) (v:=v) Q T Q (ab 0 Q) fk<|Dv.sl3 (Kd:=ak.K) Q T Q (ab 0 Q) fk fO ij (fJ Q) (fJ Q) (fJ Q) hij hj<|.fin<|WP.seq<|so<|WP.cond Q (λc0=>?_) (λc0=>?_)
  · have e1:i=j:=by have:=beq_iff_eq.1 c0;omega
    subst e1
    rw [List.take_append_drop]
    refine sp ?_
    exact WP.u7 (λ_ _ h=>h) Q (⟨v,hv⟩:OV) T (.cons (aQ Q) .nil) Q (oX (L:=[own ak.K v a0]) (F:=F) [0] 0 Q Q Q)
  have hlt:i<j:=by
    have:¬ ((i:Int)=(j:Int)):=by simpa using c0
    omega
  have hzl:(a0.take i++a0.drop j++a0.drop (i+(a0.length-j))).length=a0.length:=by simp only [List.length_append,List.length_take,List.length_drop];omega
  have hpl:(i+(a0.length-j))<(a0.take i++a0.drop j++a0.drop (i+(a0.length-j))).length:=by rw [hzl];omega
  have hfin:((a0.take i++a0.drop j++a0.drop (i+(a0.length-j))).take (i+(a0.length-j))++List.replicate ((a0.take i++a0.drop j++a0.drop (i+(a0.length-j))).length-(i+(a0.length-j))) (⟨0,eE,eE,eE,eE,false,false,0,0,0,0⟩:ak)).take (i+(a0.length-j))=a0.take i++a0.drop j:=by
    have hl:(a0.take i++a0.drop j).length=(i+(a0.length-j)):=by rw [List.length_append,List.length_take,List.length_drop];omega
    rw [List.take_append,List.take_take,Nat.min_self,List.take_left' hl]
    have:(i+(a0.length-j))-(a0.take i++a0.drop j).length=0:=om
    rw [this,List.take_zero,List.append_nil]
  refine WP.skip<|wr 3 0<|go 1<|Dv.kl (Kd:=ak.K) (xs:=a0) (v:=v) Q T Q (ab 0 Q) fk<|go 1<|wd mX 8 64<|go 2<|Dv.slpf (Kd:=ak.K) Q T Q (ab 0 Q) fk fO ij (fJ Q) (Nat.le_trans hij hj)<|go 2<|Dv.slt (Kd:=ak.K) (p:=j) Q T Q (ab 0 Q) fk fO ij (fJ Q) hj<|Dv.apt (Kd:=ak.K) (jj:=0) Q T Q Q Q fk fk fO ij ⟨hlt,hj⟩ (λ_=>ee kr)<|gq 1 ?_
  refine wr 6 32<|go 2<|Dv.lenp (Kd:=ak.K) (xs:=(a0.take i++a0.drop j++a0.drop (i+(a0.length-j)))) Q T Q (ab 0 Q) fk<|go 1<|Dv.slpt (Kd:=ak.K) (xs:=(a0.take i++a0.drop j++a0.drop (i+(a0.length-j)))) (p:=(i+(a0.length-j))) (q:=a0.length) Q T Q (ab 0 Q) fk fO ij (fJ Q) (fJ Q) om (Nat.le_of_eq hzl.symm)<|Dv.clrt (Kd:=ak.K) (jj:=0) (⟨0,eE,eE,eE,eE,false,false,0,0,0,0⟩:ak) Q T ((show opv _ _=some (eq (tlv _ v a0.length (i+(a0.length-j)))) from Q).trans (congrArg (λz=>some (eq (tlv _ v z (i+(a0.length-j))))) hzl.symm)) fk z80 Q Q (λu hu=>List.all_eq_true.1 (show(Value.cells _).toList.all (λu=>u.oneCell')=true by kernel_rfl) u hu) hpl Q nofun<|.fin<|sp ?_
  refine WP.gh (l':=λ_:Unit=>[own ak.K (pfv v (i+(a0.length-j))) (a0.take i++a0.drop j)]++F) (bL (ok:=λ_=>True) (λR w h=>by obtain⟨_,_,h2⟩:=Ey (m:=(i+(a0.length-j))) 0 rfl (by rw [List.length_append,List.length_take,List.length_replicate];omega) R w h;rw [hfin] at h2;exact⟨(),T,h2⟩)) (λ_ _=>?_)
  exact WP.u7 (λ_ _ h=>h) Q (⟨pfv v (i+(a0.length-j)),A3 hv⟩:OV) T (.cons (aQ Q) .nil) Q (oX (L:=[own ak.K (pfv v (i+(a0.length-j))) (a0.take i++a0.drop j)]) (F:=F) [0] 0 Q Q Q)
theorem nC.c {p0_:OV} (h:nC.f k a0 a1=some r):Tr prog 158 [eq p0_.1,agg (ak.enc a1)] [iv.O p0_ a0] (γ:=Unit) (λ_=>True) (λg=>lg [agg (ak.enc r.1),vB r.2.1]) (λg=>[iv.O p0_ r.2.2]):=by
 refine tf func158 h λR0 F H=>?_
 refine wr 3 3<|Dv.box Q T Q cA nofun λba=>al Q T qP nofun λbc=>go 1<|WP.seq<|WP.seq<|wg (iv.eF 2 Q) λgb haa=>?_
 refine dg mX 6 0<|go 1<|Dv.aJ haa Q T Q<|fp haa Q T Q n5<|gl 2 [0,3]<|el H λta hac H=>mH (B:=[own ak.K gb.2.1 a0.fl]) 4 [1,0,2,3] (cL 225) (Pt.qz _ (jZ.c hac) (.cons (ln (ab 0 Q)) (.cons nV .nil)) cJ) ?_
 refine .fin<|ce H ?_ ?_ <;> intro H
 ·refine wr 3 2<|Dv.lD (qs:=[vI 0,vS eE,vS eE,vS eE,vS eE,vB false,vB false,vI 0,vI 0,vI 0,vI 0]) (css:=[]) Q T fO s5 z80 Q T Q Q<|sy 2 ?_
  refine go 1<|wg (iv.shut (p:=p0_) (m:=a0) (gb.1,gb.2) haa (pm 4 [0,1,2,3])) λ_ _=>?_
  cases H.out;exact rt i2 Q () 3 [1,2,0] 2 (.cons (aL Q fO Q ij (ab 1 Q) Q) (.cons (aQ Q) .nil))
 refine WP.skip<|wd mX 11 1152<|go 2<|Dv.aJ haa Q T Q<|fp haa Q T Q n5<|gl 2 [0,3]<|Dv.lit ak.K ([a1]:List ak) (css:=[ak.enc a1]) Q T fk fO ij z80 Q dc dc Q ⟨(bx (ak.K.one _)),T⟩ Q Q Q<|gr H λgc H=>Dv.uX (Kd:=ak.K) (jj:=1) (ys:=([a1]:List ak)) (λva:OV=>[ar gb.1 200 [vI a0.bw,eq gb.2.1,vI a0.da],own ak.K va.1 (a0.fl++([a1]:List ak)),ar bc 80 [vI 0,vS eE,vS eE,vS eE,vS eE,vB false,vB false,vI 0,vI 0,vI 0,vI 0],ar ba 80 (ak.enc a1)]++F) Q T Q Q Q dG fk (.inr ⟨_,fk⟩) qp Q dc gc Q pD (λva=>?_)
 refine Dv.aJ haa Q T Q<|fp haa Q T Q n5<|sx 0 Q T Q Q (cells_one cS) zZ Q Q Q pB ?_
 refine .fin<|WP.seq<|wd mX 10 0<|go 1<|Dv.aJ haa Q T Q<|fp haa Q T Q n5<|gl 1 [0]<|Dv.kl Q T Q (ab 1 Q) fk<|go 1<|Dv.aJ haa Q T Q<|fp haa Q T Q FV<|gl 2 [0]<|ce H ?_ ?_ <;> intro H
 ·refine wr 3 2<|Dv.lD (qs:=[vI 0,vS eE,vS eE,vS eE,vS eE,vB false,vB false,vI 0,vI 0,vI 0,vI 0]) (css:=[]) Q T fO s5 z80 Q T Q Q<|sy 2 ?_
  refine go 1<|wg (iv.shut (p:=p0_) (m:=(⟨a0.bw,a0.fl++([a1]:List ak),a0.da⟩:iv)) (gb.1,va) haa (pm 4 [0,1,2,3])) λ_ _=>?_
  cases H.out;exact rt i2 Q () 3 [1,2,0] 2 (.cons (aL Q fO Q ij (ab 1 Q) Q) (.cons (aQ Q) .nil))
 refine WP.skip<|wr 8 192<|go 1<|Dv.aJ haa Q T Q<|fp haa Q T Q n5<|gl 1 [0]<|gr H λgi H=>?_
 have had:(0:Int).toNat<(a0.fl++([a1]:List ak)).length:=cQ gi
 refine Dv.na Q T Q (ab 1 Q) Q fk fO ij gi.1 gi.2<|Dv.kX (j:=((0:Int).toNat)) (f:=0) Q T Q (ab 1 Q) had fO Q ij (Nat.le_of_ble_eq_true Q)<|al Q T qP nofun λbd=>sy 0 ?_
 refine .fin<|wr 9 288<|go 2<|Dv.aJ haa Q T Q<|fp haa Q T Q n5<|gl 1 [1]<|el H λtc hae H=>cx 5 [2,0,1,3,4] (cL 226) (jL.c hae (p0_:=va)) nofun λgj _=>?_
 refine Dv.aJ haa Q T Q<|fp haa Q T Q n5<|sx 2 Q T Q Q (cells_one cS) zZ Q Q Q nofun ?_
 refine .fin<|wr 8 128<|go 1<|Dv.aJ haa Q T Q<|fp haa Q T Q Ca<|gl 2 [2]<|Dv.aJ haa Q T Q<|fp haa Q T Q Ca<|sy 2 ?_
 refine .fin<|wr 3 2<|gl 1 [1]<|sy 3 ?_
 refine go 1<|wg (iv.shut (p:=p0_) (m:=(⟨a0.bw,tc,aE (a0.da+1)⟩:iv)) (gb.1,gj) haa (pm 5 [2,0,1,3,4])) λ_ _=>?_
 cases H.out;exact rt i2 Q () 4 [1,2,3,0] 3 (.cons (aL Q fO Q ij (ab 2 Q) Q) (.cons (aQ Q) .nil))
theorem b8.c (h:b8.f k a0=some r):Pt prog 195 [sl (aP .i64) a0] (vI r):=by
 refine pf func195 h λR0 F H=>?_
 refine so<|so<|sr H id [3] (λ_=>[]) (λ_=>[]) (λpa H=>?_) (λH=>?_)
 ·refine sp ?_
  cases H.out;exact ek 0
 refine wr 3 0<|go 1<|Dv.jw Q T Q yn<|go 1<|WP.block<|ws 0 [] 0 ?_
 refine lq (λj_ (pc:Int)=>b8.l0 k a0 j_ pc) 0 H [3,6,7] (λpc=>[(8,vI pc)]) (λ_=>[]) ?_
 rintro j_ xa H
 rcases j_ with _ | ja
 ·exact(aW.no H).elim
 try dsimp only at H
 rw [b8.l0] at H
 refine so<|WP.seq<|cf H ?_ ?_ <;> intro H
 ·refine WP.exit ?_
  have H:=H.out
  exact jn (xa,decide (xa<(a0.length:Int))) H
 refine WP.skip<|WP.seq<|WP.block<|wr 3 0<|gr H λgb H=>Dv.lE Q T Q Q yn U3 c3 gb.1 gb.2<|nK Q T Q Hu Q<|go 1<|so<|cf H ?_ ?_ <;> intro H
 ·exact WP.skip<|rg 2 0<|go 2<|bk ja (aE (xa+1)) H
 refine sp ?_
 have H:=H.cH
 cases H.out;exact ek 0
theorem cmp_isNaN_string.c (h:cmp_isNaN_string.f a0=some r):Pt prog 235 [vS a0] (vB r):=by
 refine pf func235 h λR0 F H=>?_
 refine so<|sp ?_
 cases H.out;exact ek 0
theorem bu.c (h:bu.f a0 a1=some r):Pt prog 196 [vS a0,vS a1] (vI r):=by
 refine pf func196 h λR0 F H=>?_
 refine so<|wr 3 0<|go 1<|el H λta haa H=>cl Q (cL 235) Q (cmp_isNaN_string.c haa)<|go 1<|wr 3 0<|go 1<|el H λtc hac H=>cl Q (cL 235) Q (cmp_isNaN_string.c hac)<|go 1<|WP.seq<|so<|ce H ?_ ?_ <;> intro H
 ·refine WP.seq<|so<|ce H ?_ ?_ <;> intro H
  ·refine sp ?_
   cases H.out;exact ek 0
  refine WP.skip<|sp ?_
  cases H.out;exact ek 0
 refine WP.skip<|WP.seq<|so<|ce H ?_ ?_ <;> intro H
 ·refine sp ?_
  cases H.out;exact ek 0
 refine WP.skip<|WP.seq<|so<|ce H ?_ ?_ <;> intro H
 ·refine sp ?_
  cases H.out;exact ek 0
 refine WP.skip<|WP.seq<|so<|ce H ?_ ?_ <;> intro H
 ·refine sp ?_
  cases H.out;exact ek 0
 refine WP.skip<|sp ?_
 cases H.out;exact ek 0
theorem cmp_isNaN_int.c (h:cmp_isNaN_int.f a0=some r):Pt prog 249 [vI a0] (vB r):=by
 refine pf func249 h λR0 F H=>?_
 refine so<|sp ?_
 cases H.out;exact ek 0
theorem dj.c (h:dj.f a0 a1=some r):Pt prog 197 [vI a0,vI a1] (vI r):=by
 refine pf func197 h λR0 F H=>?_
 refine so<|wr 3 0<|go 1<|el H λta haa H=>cl Q (cL 249) Q (cmp_isNaN_int.c haa)<|go 1<|wr 3 0<|go 1<|el H λtc hac H=>cl Q (cL 249) Q (cmp_isNaN_int.c hac)<|go 1<|WP.seq<|so<|ce H ?_ ?_ <;> intro H
 ·refine WP.seq<|so<|ce H ?_ ?_ <;> intro H
  ·refine sp ?_
   cases H.out;exact ek 0
  refine WP.skip<|sp ?_
  cases H.out;exact ek 0
 refine WP.skip<|WP.seq<|so<|ce H ?_ ?_ <;> intro H
 ·refine sp ?_
  cases H.out;exact ek 0
 refine WP.skip<|WP.seq<|so<|ce H ?_ ?_ <;> intro H
 ·refine sp ?_
  cases H.out;exact ek 0
 refine WP.skip<|WP.seq<|so<|ce H ?_ ?_ <;> intro H
 ·refine sp ?_
  cases H.out;exact ek 0
 refine WP.skip<|sp ?_
 cases H.out;exact ek 0
theorem jN.c (h:jN.f k a0 a1=some r):Pt prog 227 [agg (Pos.enc a0),agg (Pos.enc a1)] (vI r):=by
 refine pf func227 h λR0 F H=>?_
 refine wr 3 3<|Dv.box Q T Q cA nofun λba=>Dv.box Q T Q cA nofun λbc=>go 1<|wd mX 13 0<|gl 4 [1,0]<|el H λta haa H=>cl Q (cL 197) Q (dj.c haa)<|gl 4 [1,0]<|el H λtc hac H=>cl Q (cL 196) Q (bu.c hac)<|Dv.lit (aP .i64) ([ta,tc]:List Int) (css:=[[vI ta],[vI tc]]) Q T yn U3 c3 z3 Q dc dc Q ⟨(cells_one (ai Q)),⟨(cells_one (ai Q)),T⟩⟩ Q Q Q<|el H λte had H=>cl Q (cL 195) Q (b8.c had)<|gq 1 ?_
 cases H.out;exact ek 2
theorem cM.c {p0_:OV} (h:cM.f k a0 a1 a2=some r):Tr prog 159 [eq p0_.1,agg (aM.enc a1),agg (Pos.enc a2)] [gP.O p0_ a0] (γ:=Unit) (λ_=>True) (λg=>vB r.1) (λg=>[gP.O p0_ r.2]):=by
 refine tf func159 h λR0 F H=>?_
 refine wr 3 3<|Dv.box Q T Q cA nofun λba=>Dv.box Q T Q cA nofun λbc=>go 1<|WP.seq<|wg (gP.eF 2 Q) λgb haa=>?_
 refine dg mX 12 1536<|go 1<|Dv.aJ haa Q T Q<|fp haa Q T Q rX<|gl 2 [0,3]<|Dv.IQ (⟨0,eE⟩:Pos) Q T Q (ab 1 Q) Q (aM.kq a1) CO BD z49 (λ_=>⟨_,Q,Cs.Jo Q⟩)<|go 1<|dZ Q T Q Q<|dZ Q T Q Q<|al Q T nu pD λbd=>sx 0 Q T Q Q cA vZ Q Q Q pD ?_
 refine go 1<|WP.seq<|wr 7 0<|gp 2 ?_
 cases ca:(mget a0.dA a1).isSome
 ·have H:=H.cf ca
  refine go 5<|WP.cond Q nofun (λ_=>?_)
  refine WP.skip<|wd mX 7 64<|go 1<|Dv.aJ haa Q T Q<|fp haa Q T Q rX<|gl 3 [1,4,3]<|Dv.Fw (jj:=2) a2 Q T Q Q Q (aM.kq a1) Q CO BD (λ_=>ee kr)<|.fin<|so<|wg (gP.shut (p:=p0_) (m:=(⟨mput a0.dA a1 a2⟩:gP)) (gb.1,gb.2) haa (pm 5 [1,2,0,3,4])) λ_ _=>?_
  cases H.out;exact et () 4 [1,2,3,0] 3
 have H:=H.ct ca
 refine gl 2 [0,3]<|el H λta hac H=>Dv.call Q (gg Q) (cL 227) Q (jN.c hac)<|go 2<|ce H ?_ ?_ <;> intro H
 ·refine so<|wg (gP.shut (p:=p0_) (m:=a0) (gb.1,gb.2) haa (pm 5 [1,2,0,3,4])) λ_ _=>?_
  cases H.out;exact et () 4 [1,2,3,0] 3
 refine WP.skip<|wd mX 7 64<|go 1<|Dv.aJ haa Q T Q<|fp haa Q T Q rX<|gl 3 [1,4,3]<|Dv.Fw (jj:=2) a2 Q T Q Q Q (aM.kq a1) Q CO BD (λ_=>ee kr)<|.fin<|so<|wg (gP.shut (p:=p0_) (m:=(⟨mput a0.dA a1 a2⟩:gP)) (gb.1,gb.2) haa (pm 5 [1,2,0,3,4])) λ_ _=>?_
 cases H.out;exact et () 4 [1,2,3,0] 3
theorem iI.c {p0_ p1_:OV} (h:iI.f k a0 a1 a2=some r):Tr prog 95 [eq p0_.1,eq p1_.1,agg (ak.enc a2)] [dE.O p0_ a0,au.O p1_ a1] (γ:=Unit) (λ_=>True) (λg=>lg [vB r.1,vI r.2.1]) (λg=>[dE.O p0_ r.2.2,au.O p1_ a1]):=by
 refine tf func95 h λR0 F H=>?_
 refine wr 3 1<|Dv.box Q T Q cA nofun λba=>go 2<|WP.seq<|wr 8 0<|jf 4 [0] ?_
 cases ca:(a2.bf != 1)
 rotate_left
 ·have H:=H.ct ca
  refine go 4<|WP.cond Q (λ_=>?_) nofun
  refine sp ?_
  cases H.out;exact et () 3 [0,1,2] 1
 have H:=H.cf ca
 refine gl 1 [0]<|el H λta haa H=>Dv.call Q (gg Q) (cL 128) Q (eG.c haa)<|go 2<|ce H ?_ ?_ <;> intro H
 ·refine sp ?_
  cases H.out;exact et () 3 [0,1,2] 1
 refine WP.skip<|WP.seq<|wr 9 0<|gl 7 [0,0,0]<|vg (au.eF 2 Q) λgb hac=>?_
 refine el H λtc had H=>mH 4 [0,1,2,3] (cL 157) (Tr.fG (eK.c had (b0_:=gb.1) (v0_0:=gb.2)) (.cons (eb hac) (.cons cG (.cons cG (.cons cG .nil))))) ?_
 refine go 1<|so<|WP.block<|so<|ce H ?_ ?_ <;> intro H
 ·refine WP.seq<|wg (dE.eF 3 Q) λgc hae=>?_
  refine dg mX 6 32<|go 1<|Dv.aJ hae Q T Q<|fp hae Q T Q A4<|gl 2 [0,5]<|el H λte haf H=>cx 6 [2,0,1,3,4,5] (cL 158) (nC.c haf (p0_:=gc.2.2)) pC λ_ _=>?_
  refine .fin<|so<|wg (au.shut (p:=p1_) (m:=a1) (gb.1,gb.2) hac (pm 6 [3,4,0,1,2,5])) λ_ _=>?_
  refine wg (dE.shut (p:=p0_) (m:=(⟨a0.j2,te.2.2⟩:dE)) (gc.1,gc.2.1,gc.2.2) hae (pm 5 [2,3,1,0,4])) λ_ _=>?_
  cases H.out;exact et () 3 [2,0,1] 1
 refine so<|cf H ?_ ?_ <;> intro H
 ·refine so<|wg (au.shut (p:=p1_) (m:=a1) (gb.1,gb.2) hac (pm 4 [0,1,2,3])) λ_ _=>?_
  cases H.out;exact et () 3 [1,2,0] 1
 refine WP.skip<|wr 12 1536<|gl 5 [2,2]<|el H λtg hag H=>mH 4 [0,1,2,3] (cL 94) (Tr.fG (dN.c hag (b0_:=gb.1) (v0_0:=gb.2)) (.cons (eb hac) (.cons cG (.cons cG .nil)))) ?_
 refine go 1<|dZ Q T Q Q<|dZ Q T Q Q<|al Q T nu nofun λbc=>sy 0 ?_
 refine go 1<|WP.seq<|wg (dE.eF 4 Q) λgi hah=>?_
 refine dg mX 10 128<|go 1<|Dv.aJ hah Q T Q<|fp hah Q T Q xF<|gl 2 [0,6]<|el H λtj hai H=>cl Q (cL 98) Q (fi.c hai)<|gl 1 [3]<|el H λtm haj H=>cx 7 [1,0,2,3,4,5,6] (cL 159) (cM.c haj (p0_:=gi.2.1)) pC λ_ _=>?_
 refine go 2<|wg (au.shut (p:=p1_) (m:=a1) (gb.1,gb.2) hac (pm 7 [4,5,0,1,2,3,6])) λ_ _=>?_
 refine wg (dE.shut (p:=p0_) (m:=(⟨tm.2,a0.oG⟩:dE)) (gi.1,gi.2.1,gi.2.2) hah (pm 6 [2,1,3,0,4,5])) λ_ _=>?_
 cases H.out;exact et () 4 [2,3,0,1] 2
theorem park_apart_Edu.c (h:park_apart_Edu.f k a0 a1=some r):Tr prog 160 [sl ak.K a0,gJ a1] [] (γ:=OV×OV) (λ_=>True) (λg=>lg [eq g.1.1,eq g.2.1]) (λg=>[own ak.K g.1.1 r.1,own ak.K g.2.1 r.2]):=by
 refine tf func160 h λR0 F H=>?_
 refine so<|so<|WP.kW H (λqa:(Int×Bool×(List ak)×(List ak))×OV×OV=>qa.1) (λqa=>[(6,eq qa.2.1.1),(7,eq qa.2.2.1)]) (λqa=>[own ak.K qa.2.1.1 qa.1.2.2.1,own ak.K qa.2.2.1 qa.1.2.2.2]++F) (λqa H=>?_) (λH=>?_)
 ·obtain⟨pa,va,vb⟩:=qa
  refine sp ?_
  cases H.out;exact et (va,vb) 2 [0,1] 0
 refine wr 3 0<|go 1<|Dv.jw Q T Q fk<|go 1<|WP.block<|wg (dX ak.K none) λ_ _=>?_
 refine wg (dX ak.K none) λ_ _=>?_
 refine ws 2 [1,0] 0 ?_
 refine lq (λj_ (pc:Int×(List ak)×(List ak)×OV×OV)=>park_apart_Edu.l0 k a0 a1 j_ pc.1 pc.2.1 pc.2.2.1) (0,([]:List ak),([]:List ak),iQ,HT) H [1,10,11] (λpc=>[(6,eq pc.2.2.2.1.1),(7,eq pc.2.2.2.2.1),(12,vI pc.1)]) (λpc=>[(0,own ak.K pc.2.2.2.1.1 pc.2.1),(1,own ak.K pc.2.2.2.2.1 pc.2.2.1)]) ?_
 rintro j_ ⟨xa,xb,xc,vd,ve⟩ H
 rcases j_ with _ | ja
 ·exact(aW.no H).elim
 try dsimp only at H
 rw [park_apart_Edu.l0] at H
 refine so<|WP.seq<|cf H ?_ ?_ <;> intro H
 ·refine WP.exit ?_
  have H:=H.out
  exact jn ((xa,decide (xa<(a0.length:Int)),xb,xc),vd,ve) H
 refine WP.skip<|WP.seq<|WP.block<|wr 4 12<|gr H λgb H=>Dv.lE Q T Q Q fk fO ij gb.1 gb.2<|mY Q T Q nP Q<|al Q T qP nofun λba=>sy 0 ?_
 refine .fin<|wr 3 0<|gl 2 [0]<|el H λta haa H=>Dv.ql (ret:=vB ta) Q T Q Q ⟨_,_,haa,Q,Q⟩<|.fin<|ce H ?_ ?_ <;> intro H
 ·refine rg 5 8<|gl 2 [0]<|Dv.lit ak.K ([ak.K.at a0 xa]:List ak) (css:=[ak.enc (ak.K.at a0 xa)]) Q T fk fO ij z80 Q dc dc Q ⟨(bx (ak.K.one _)),T⟩ Q Q Q<|gr H λgc H=>ap ak.K 1 ([ak.K.at a0 xa]:List ak) dG fk (.inr ⟨_,fk⟩) qp gc nofun λvh=>?_
  refine go 1<|rg 2 0<|go 2<|ns 3 [0,1,2] 1 ?_
  exact bk ja (aE (xa+1),xb++([ak.K.at a0 xa]:List ak),xc,vh,ve) H
 refine rg 5 8<|gl 2 [0]<|Dv.lit ak.K ([ak.K.at a0 xa]:List ak) (css:=[ak.enc (ak.K.at a0 xa)]) Q T fk fO ij z80 Q dc dc Q ⟨(bx (ak.K.one _)),T⟩ Q Q Q<|gr H λgi H=>ap ak.K 2 ([ak.K.at a0 xa]:List ak) dG fk (.inr ⟨_,fk⟩) qp gi nofun λvi=>?_
 refine go 1<|rg 2 0<|go 2<|ns 3 [0,1,2] 1 ?_
 exact bk ja (aE (xa+1),xb,xc++([ak.K.at a0 xa]:List ak),vd,vi) H
theorem j4.c {c0:BA} {c1:BA} (h:j4.f a0 c0 c1=some r):Pt prog 161 [agg (ak.enc a0),rp [vS c0],rp [vS c1]] (vB r):=by
 refine pf func161 h λR0 F H=>?_
 refine wr 2 1<|Dv.box Q T Q cA nofun λba=>go 1<|wr 11 0<|gl 2 [0]<|nK Q T Q o6 Q<|gp 2 ?_
 cases ca:decide (a0.aj=c0)
 ·have H:=H.cf ca
  refine gq 6 ?_
  cases H.out;exact ek 1
 have H:=H.ct ca
 refine gl 2 [0]<|nK Q (gg Q) Q o6 Q<|gq 3 ?_
 cases H.out;exact ek 1
theorem mI.c {p0_:OV} (h:mI.f k a0 a1 a2=some r):Tr prog 96 [eq p0_.1,vS a1,vS a2] [iv.O p0_ a0] (γ:=OV) (λ_=>True) (λg=>eq g.1) (λg=>[iv.O p0_ r.2,own ak.K g.1 r.1]):=by
 refine tf func96 h λR0 F H=>?_
 refine wr 3 3<|Dv.box Q T Q cE nofun λba=>Dv.box Q T Q cE nofun λbc=>go 1<|wr 11 32<|go 1<|Dv.mD iv.nn Q T Q (ab 2 Q)<|vg (iv.eF 2 Q) λgb haa=>?_
 refine fp haa Q T Q n5<|gl 1 [0]<|Dv.gh (nB (E':=[(0,eq p0_.1),(1,vS a1),(2,vS a2),(4,rp [vS a1]),(5,iT bc),(6,jQ),(13,eq gb.2.1)]) (l':=[ar gb.1 200 [vI a0.bw,eq gb.2.1,vI a0.da],own ak.K gb.2.1 a0.fl,ar bc 9 [vS a2]]++F) 3 Q (ao Q aB (ao Q aB (ao Q aB (ao Q jx (ao Q aB (ao Q aB (ao Q aB iG))))))) (fI (.cons bn (.cons bn (.cons bn .nil))) λ_=>bn)) (λ_ _=>?_)
 refine Dv.gh (nB (E':=[(0,eq p0_.1),(1,vS a1),(2,vS a2),(4,rp [vS a1]),(5,rp [vS a2]),(6,jQ),(13,eq gb.2.1)]) (l':=[ar gb.1 200 [vI a0.bw,eq gb.2.1,vI a0.da],own ak.K gb.2.1 a0.fl]++F) 2 Q (ao Q aB (ao Q aB (ao Q aB (ao Q aB (ao Q jx (ao Q aB (ao Q aB iG))))))) (fI (.cons bn (.cons bn .nil)) λ_=>bn)) (λ_ _=>?_)
 refine Dv.mkf (Q:=gV (λa0_=>j4.f a0_ a1 a2)) (cL 161) (by rintro _ _ ⟨a0_,r_,h_,rfl,rfl⟩;exact j4.c h_) Q T Q Q<|el H λta hac H=>cx 2 [1,0] (cL 160) (Tr.qz [own ak.K gb.2.1 a0.fl] (park_apart_Edu.c hac) (.cons (ln (ab 0 Q)) (.cons nV .nil)) (λ_=>(vH (bH cJ (bH cJ jB)))) (λ_=>(qU (sR (λ_=>(bH cJ (bH cJ (bH cJ (bH cJ (bH cJ (bH cJ (bH cJ (bH cJ (bH cJ (bH cJ (bH cJ jB))))))))))))) (qU (sR (λ_=>(bH cJ (bH cJ (bH cJ (bH cJ (bH cJ (bH cJ (bH cJ (bH cJ (bH cJ (bH cJ (bH cJ jB))))))))))))) rC)))) nofun λgc _=>?_
 refine go 1<|dZ Q T Q Q<|dZ Q T Q Q<|go 2<|wr 5 16<|go 2<|Dv.aJ haa Q T Q<|fp haa Q T Q n5<|sx 3 Q T Q Q (cells_one cS) zZ Q Q Q nofun ?_
 refine .fin<|so<|wg (iv.shut (p:=p0_) (m:=(⟨a0.bw,ta.2,a0.da⟩:iv)) (gb.1,gc.2) haa (pm 4 [3,2,0,1])) λ_ _=>?_
 cases H.out;exact et gc.1 3 [1,0,2] 1
theorem eP.c (h:eP.f k a0 a1=some r):Pt prog 162 [sl aM.K a0,agg (aM.enc a1)] (vI r):=by
 refine pf func162 h λR0 F H=>?_
 refine wr 2 1<|Dv.box Q T Q cA nofun λba=>go 1<|sr H id [] (λ_=>[]) (λ_=>[]) (λpa H=>?_) (λH=>?_)
 ·refine sp ?_
  cases H.out;exact ek 1
 refine wr 3 0<|go 1<|Dv.jw Q T Q zW<|go 1<|WP.block<|ws 1 [0] 0 ?_
 refine lq (λj_ (pc:Int)=>eP.l0 k a0 a1 j_ pc) 0 H [0,3,7] (λpc=>[(8,vI pc)]) (λ_=>[]) ?_
 rintro j_ xa H
 rcases j_ with _ | ja
 ·exact(aW.no H).elim
 try dsimp only at H
 rw [eP.l0] at H
 refine so<|WP.seq<|cf H ?_ ?_ <;> intro H
 ·refine WP.exit ?_
  have H:=H.out
  exact jn (xa,decide (xa<(a0.length:Int))) H
 refine WP.skip<|WP.seq<|WP.block<|so<|wd mX 6 0<|gl 3 [0]<|gr H λgb H=>Dv.lE Q T Q Q zW C9 Hp gb.1 gb.2<|mY Q T Q sg47 Q<|Dv.eqs [.string a1.aj,.string a1.aC,.string a1.ah,.bool a1.ay] [.string ((aM.K.at a0 xa).aj),.string ((aM.K.at a0 xa).aC),.string ((aM.K.at a0 xa).ah),.bool ((aM.K.at a0 xa).ay)] Q T Q Q Q Q eg47 (λ_=>dJ 2 dc (λ_=>EJ a1 (aM.K.at a0 xa)))<|.fin<|cf H ?_ ?_ <;> intro H
 ·exact WP.skip<|rg 2 0<|go 2<|bk ja (aE (xa+1)) H
 refine sp ?_
 have H:=H.cH
 cases H.out;exact ek 1
theorem jY.c (h:jY.f k a0 a1=some r):Pt prog 97 [sl aM.K a0,agg (aM.enc a1)] (vB r):=by
 refine pf func97 h λR0 F H=>?_
 refine wr 2 1<|Dv.box Q T Q cA nofun λba=>go 1<|wr 5 0<|gl 2 [0]<|el H λta haa H=>cl Q (cL 162) Q (eP.c haa)<|gq 2 ?_
 cases H.out;exact ek 1
theorem marks_Marks_Arrive.c {p0_ p1_:OV} (h:marks_Marks_Arrive.f k a0 a1 a2 a3=some r):Tr prog 64 [eq p0_.1,eq p1_.1,vS a2,vS a3] [dE.O p0_ a0,au.O p1_ a1] (γ:=OV) (λ_=>True) (λg=>eq g.1) (λg=>[dE.O p0_ r.2,au.O p1_ a1,own aM.K g.1 r.1]):=by
 refine tf func64 h λR0 F H=>?_
 refine so<|WP.seq<|wr 10 384<|go 3<|vg (au.eF 1 Q) λgb haa=>?_
 refine el H λta hac H=>mH 3 [0,1,2] (cL 94) (Tr.fG (dN.c hac (b0_:=gb.1) (v0_0:=gb.2)) (.cons (eb haa) (.cons cG (.cons cG .nil)))) ?_
 refine go 1<|dZ Q T Q Q<|dZ Q T Q Q<|al Q T nu nofun λba=>sy 0 ?_
 refine go 1<|so<|ce H ?_ ?_ <;> intro H
 ·refine so<|wg (au.shut (p:=p1_) (m:=a1) (gb.1,gb.2) haa (pm 4 [1,2,0,3])) λ_ _=>?_
  refine wg (dX aM.K none) λ_ _=>?_
  cases H.out;exact et iQ 4 [2,3,1,0] 1
 refine WP.skip<|so<|so<|WP.kW H (λqa:(Int×Int×Bool×dE×(List aM)×(List ak))×OV×OV=>qa.1) (λqa=>[(12,eq qa.2.1.1)]) (λqa=>[ar ba 49 (Pos.enc ta.1),dE.O p0_ qa.1.2.2.2.1,au.O p1_ a1,own aM.K qa.2.1.1 qa.1.2.2.2.2.1,own ak.K qa.2.2.1 qa.1.2.2.2.2.2]++F) (λqa H=>?_) (λH=>?_)
 ·obtain⟨pa,va,vb⟩:=qa
  refine sp ?_
  cases H.out;exact et va 5 [0,4,1,2,3] 2
 refine wr 9 64<|go 1<|Dv.mD dE.nn Q T Q (ab 3 Q)<|vg (dE.eF 3 Q) λgc had=>?_
 refine fp had Q T Q A4<|gl 3 [0]<|el H λtc hae H=>cx 6 [2,0,1,3,4,5] (cL 96) (mI.c hae (p0_:=gc.2.2)) nofun λgi _=>?_
 refine Dv.kl Q T Q (ab 1 Q) fk<|go 1<|WP.block<|wg (au.shut (p:=p1_) (m:=a1) (gb.1,gb.2) haa (pm 7 [5,6,0,1,2,3,4])) λ_ _=>?_
 refine wg (dE.shut (p:=p0_) (m:=(⟨a0.j2,tc.2⟩:dE)) (gc.1,gc.2.1,gc.2.2) had (pm 6 [3,4,1,0,2,5])) λ_ _=>?_
 refine wg (dX aM.K none) λ_ _=>?_
 refine ws 5 [4,1,2,3,0] 0 ?_
 refine lq (λj_ (pc:Int×dE×(List aM)×OV)=>marks_Marks_Arrive.l0 k a1 tc j_ pc.1 pc.2.1 pc.2.2.1) (0,(⟨a0.j2,tc.2⟩:dE),([]:List aM),iQ) H [0,1,11,32,33] (λpc=>[(12,eq pc.2.2.2.1),(34,vI pc.1)]) (λpc=>[(1,dE.O p0_ pc.2.1),(4,own aM.K pc.2.2.2.1 pc.2.2.1)]) ?_
 rintro j_ ⟨xa,xb,xc,vd⟩ H
 rcases j_ with _ | ja
 ·exact(aW.no H).elim
 try dsimp only at H
 rw [marks_Marks_Arrive.l0] at H
 refine so<|WP.seq<|cf H ?_ ?_ <;> intro H
 ·refine WP.exit ?_
  have H:=H.out
  refine ns 5 [0,1,2,4,3] 0 ?_
  exact jn (((tc.1.length:Int),xa,decide (xa<(tc.1.length:Int)),xb,xc,tc.1),vd,gi) H
 refine WP.skip<|WP.seq<|WP.block<|wr 4 12<|gr H λgj H=>?_
 have haf:xa.toNat<tc.1.length:=cQ gj
 refine Dv.na Q T Q (ab 3 Q) Q fk fO ij gj.1 gj.2<|Dv.kX (j:=xa.toNat) (f:=0) Q T Q (ab 3 Q) haf fO Q ij (Nat.le_of_ble_eq_true Q)<|al Q T qP nofun λbc=>sy 0 ?_
 refine .fin<|wr 10 16<|gl 4 [0]<|el H λte hag H=>Dv.Ik (pre:=[dE.O p0_ xb,au.O p1_ a1]) (F:=[ar bc 80 (ak.enc (tc.1.getD xa.toNat default)),ar ba 49 (Pos.enc ta.1),own ak.K gi.1 tc.1,own aM.K vd.1 xc]++F) (λ_:Unit=>[dE.O p0_ te.2.2,au.O p1_ a1,ar bc 80 (ak.enc (tc.1.getD xa.toNat default)),ar ba 49 (Pos.enc ta.1),own ak.K gi.1 tc.1,own aM.K vd.1 xc]++F) Q T Q (cL 95) Q (iI.c hag (p0_:=p0_) (p1_:=p1_)) (bN (L:=[ar bc 80 (ak.enc (tc.1.getD xa.toNat default)),ar ba 49 (Pos.enc ta.1),dE.O p0_ xb,au.O p1_ a1,own ak.K gi.1 tc.1,own aM.K vd.1 xc]) (F:=F) [2,3,0,1,4,5] kr Q Q) Q nofun (λ_ _=>?_)
 refine go 1<|dZ Q T Q Q<|dZ Q T Q Q<|go 2<|wr 8 0<|gp 2 ?_
 cases ca:te.1
 ·have H:=H.cf ca
  refine go 6<|WP.cond Q nofun (λ_=>?_)
  refine WP.skip<|rg 2 0<|go 2<|ns 6 [2,3,0,1,4,5] 1 ?_
  exact bk ja (aE (xa+1),te.2.2,xc,vd) H
 have H:=H.ct ca
 refine gl 2 [2]<|el H λtg hah H=>Dv.call Q (gg Q) (cL 98) Q (fi.c hah)<|el H λtj hai H=>mH (B:=[own aM.K vd.1 xc]) 6 [5,0,1,2,3,4] (cL 97) (Pt.qz _ (jY.c hai) (.cons (ln (ab 0 Q)) (.cons nV .nil)) cJ) ?_
 refine go 2<|cf H ?_ ?_ <;> intro H
 ·refine WP.skip<|rg 2 0<|go 2<|ns 6 [2,3,0,1,4,5] 1 ?_
  exact bk ja (aE (xa+1),te.2.2,xc,vd) H
 refine rg 6 16<|gl 2 [2]<|el H λtm haj H=>cl Q (cL 98) Q (fi.c haj)<|Dv.lit aM.K ([tm]:List aM) (css:=[aM.enc tm]) Q T zW C9 Hp z47 Q dc dc Q ⟨(bx (aM.K.one _)),T⟩ Q Q Q<|gr H λgk H=>ap aM.K 5 ([tm]:List aM) dG zW (.inr ⟨_,zW⟩) inf47 gk nofun λve=>?_
 refine go 1<|rg 2 0<|go 2<|ns 6 [2,3,0,1,4,5] 1 ?_
 exact bk ja (aE (xa+1),te.2.2,xc++([tm]:List aM),ve) H
theorem kU.c {b off:Nat} {bT:TypeId} {qs:Cs} {n m:Int} (h0:qs[off]? = some (vI n)):Tr prog 208 [eq (.pointer (some ⟨b,off,none⟩)),vI n,vI m] [ar b bT qs] (γ:=Unit) (λ_=>True) (λ_=>vB true) (λ_=>[ar b bT (qs.set off (vI m))]):=by
 exact Tr.body func208 (c:=_) Q ntmps208 (Nat.le_of_ble_eq_true Q) λR0 F=>WP.seq<|WP.qB [(0,false)] kr<|go 1<|WP.seq<|WP.qB [(0,false),(1,false),(2,false),(3,false),(4,false),(5,true),(6,false)] kr<|go 5<|Dv.Hl (jj:=0) (qs:=qs) Q T Q (IU h0 func258 kr Q xf258 xg258) Q nofun<|go 1<|rt i2 Q () 1 [0] 0 (.cons (aQ Q) .nil)
theorem clock_Counter_Add.c {p0_:OV} (h:clock_Counter_Add.f k a0 a1=some r):Tr prog 134 [eq p0_.1,vI a1] [bI.O p0_ a0] (γ:=Unit) (λ_=>True) (λg=>lg [vI r.1,vI r.2.1]) (λg=>[bI.O p0_ r.2.2]):=by
 refine tf func134 h λR0 F H=>?_
 refine so<|WP.seq<|so<|ce H ?_ ?_ <;> intro H
 ·refine sp ?_
  cases H.out;exact et () 1 [0] 0
 refine WP.skip<|WP.block<|ws 1 [0] 0 ?_
 refine lq (λj_ (pa:Unit)=>clock_Counter_Add.l0 k a0 a1 j_) () H [0,1] (λ_=>[]) (λ_=>[]) ?_
 rintro j_ ⟨⟩ H
 rcases j_ with _ | ja
 ·exact(aW.no H).elim
 try dsimp only at H
 rw [clock_Counter_Add.l0] at H
 refine WP.block<|wr 5 0<|go 1<|Dv.mD bI.nn Q T Q (ab 0 Q)<|vg (bI.eF 0 Q) λgb haa=>?_
 refine fp haa Q T Q xr<|mH 1 [0] (cL 61) (oU.c (b:=gb) (off:=0) (bT:=137) (qs:=[vI a0.fn.fv,vI a0.bw]) (n:=a0.fn.fv) Q) ?_
 refine go 1<|WP.seq<|wr 10 0<|gp 3 ?_
 cases ca:decide (0<a1)
 ·have H:=H.cf ca
  refine go 7<|WP.cond Q nofun (λ_=>?_)
  refine WP.skip<|wr 5 0<|go 1<|Dv.aJ haa Q T Q<|fp haa Q T Q sG<|gl 2 [0]<|WP.kW H id (λpc=>[(0,eq p0_.1),(1,vI a1),(6,vI a0.fn.fv),(7,vI pc)]) (λpc=>[bI.O p0_ a0]++F) (λpc H=>?_) (λH=>?_)
  rotate_left
  ·refine wr 8 0<|go 2<|Dv.aJ haa Q T Q<|fp haa Q T Q sG<|gl 4 [0]<|cf H ?_ ?_ <;> intro H
   ·refine WP.skip ?_
    have H:=H.out
    refine ng (bI.shut (p:=p0_) (m:=a0) gb haa (pm 1 [0])) λ_ _=>?_
    exact jn a0.bw H
   refine rg 4 0<|gq 4 ?_
   have H:=H.out
   refine ng (bI.shut (p:=p0_) (m:=a0) gb haa (pm 1 [0])) λ_ _=>?_
   exact jn (aE (a0.fn.fv+a1)) H
  refine wr 10 256<|gp 3 ?_
  cases cb:(a1==0)
  rotate_left
  ·have H:=H.ct cb
   refine go 5<|Dv.su Q ⟨_,_,Q,Q,.inl Q⟩ nofun<|go 1<|WP.cond Q (λ_=>?_) nofun
   refine sp ?_
   cases H.out;exact et () 1 [0] 0
  have H:=H.cf cb
  refine go 1<|Dv.mD bI.nn Q (gg Q) Q (ab 0 Q)<|vg (bI.eF 0 Q) λgc hac=>?_
  refine fp hac Q (gg Q) Q xr<|go 2<|cx 1 [0] (cL 208) (kU.c (b:=gc) (off:=0) (bT:=137) (qs:=[vI a0.fn.fv,vI a0.bw]) (n:=a0.fn.fv) (m:=pc) Q) nofun λ_ _=>?_
  refine go 1<|WP.cond Q (λ_=>?_) nofun
  refine so<|wg (bI.shut (p:=p0_) (m:=(⟨(⟨pc⟩:Aa),a0.bw⟩:bI)) gc hac (pm 1 [0])) λ_ _=>?_
  cases H.out;exact et () 1 [0] 0
 have H:=H.ct ca
 refine go 2<|Dv.aJ haa Q (gg Q) Q<|fp haa Q (gg Q) Q sG<|gl 3 [0]<|ce H ?_ ?_ <;> intro H
 ·refine so<|wg (bI.shut (p:=p0_) (m:=a0) gb haa (pm 1 [0])) λ_ _=>?_
  cases H.out;exact et () 1 [0] 0
 refine WP.skip<|wr 5 0<|go 1<|Dv.aJ haa Q T Q<|fp haa Q T Q sG<|gl 2 [0]<|WP.kW H id (λpe=>[(0,eq p0_.1),(1,vI a1),(6,vI a0.fn.fv),(7,vI pe)]) (λpe=>[bI.O p0_ a0]++F) (λpe H=>?_) (λH=>?_)
 rotate_left
 ·refine wr 8 0<|go 2<|Dv.aJ haa Q T Q<|fp haa Q T Q sG<|gl 4 [0]<|cf H ?_ ?_ <;> intro H
  ·refine WP.skip ?_
   have H:=H.out
   refine ng (bI.shut (p:=p0_) (m:=a0) gb haa (pm 1 [0])) λ_ _=>?_
   exact jn a0.bw H
  refine rg 4 0<|gq 4 ?_
  have H:=H.out
  refine ng (bI.shut (p:=p0_) (m:=a0) gb haa (pm 1 [0])) λ_ _=>?_
  exact jn (aE (a0.fn.fv+a1)) H
 refine wr 10 256<|gp 3 ?_
 cases cg:(a1==0)
 rotate_left
 ·have H:=H.ct cg
  refine go 5<|Dv.su Q ⟨_,_,Q,Q,.inl Q⟩ nofun<|go 1<|WP.cond Q (λ_=>?_) nofun
  refine sp ?_
  cases H.out;exact et () 1 [0] 0
 have H:=H.cf cg
 refine go 1<|Dv.mD bI.nn Q (gg Q) Q (ab 0 Q)<|vg (bI.eF 0 Q) λgi had=>?_
 refine fp had Q (gg Q) Q xr<|go 2<|cx 1 [0] (cL 208) (kU.c (b:=gi) (off:=0) (bT:=137) (qs:=[vI a0.fn.fv,vI a0.bw]) (n:=a0.fn.fv) (m:=pe) Q) nofun λ_ _=>?_
 refine go 1<|WP.cond Q (λ_=>?_) nofun
 refine so<|wg (bI.shut (p:=p0_) (m:=(⟨(⟨pe⟩:Aa),a0.bw⟩:bI)) gi had (pm 1 [0])) λ_ _=>?_
 cases H.out;exact et () 1 [0] 0
theorem dy.c {p0_:OV} (h:dy.f k a0=some r):Tr prog 80 [eq p0_.1] [bI.O p0_ a0] (γ:=Unit) (λ_=>True) (λg=>lg [vI r.1,vI r.2.1]) (λg=>[bI.O p0_ r.2.2]):=by
 refine tf func80 h λR0 F H=>?_
 refine so<|wr 6 2<|go 1<|el H λta haa H=>cx 1 [0] (cL 134) (clock_Counter_Add.c haa (p0_:=p0_)) nofun λ_ _=>?_
 refine dZ Q T Q Q<|dZ Q T Q Q<|gq 2 ?_
 cases H.out;exact et () 1 [0] 0
theorem bR.c (h:bR.f k a0 a1=some r):Pt prog 163 [sl az a0,vS a1] (vI r):=by
 refine pf func163 h λR0 F H=>?_
 refine so<|sr H id [] (λ_=>[]) (λ_=>[]) (λpa H=>?_) (λH=>?_)
 ·refine sp ?_
  cases H.out;exact ek 0
 refine wr 3 0<|go 1<|Dv.jw Q T Q iu<|go 1<|WP.block<|ws 0 [] 0 ?_
 refine lq (λj_ (pc:Int)=>bR.l0 k a0 a1 j_ pc) 0 H [0,1,7] (λpc=>[(8,vI pc)]) (λ_=>[]) ?_
 rintro j_ xa H
 rcases j_ with _ | ja
 ·exact(aW.no H).elim
 try dsimp only at H
 rw [bR.l0] at H
 refine so<|WP.seq<|cf H ?_ ?_ <;> intro H
 ·refine WP.exit ?_
  have H:=H.out
  exact jn (xa,decide (xa<(a0.length:Int))) H
 refine WP.skip<|WP.seq<|WP.block<|so<|wr 6 0<|go 3<|gr H λgb H=>Dv.lE Q T Q Q iu U9 c9 gb.1 gb.2<|nK Q T Q o6 Q<|go 1<|cf H ?_ ?_ <;> intro H
 ·exact WP.skip<|rg 2 0<|go 2<|bk ja (aE (xa+1)) H
 refine sp ?_
 have H:=H.cH
 cases H.out;exact ek 0
theorem eI.c {a1 a2:Int} {p0_:OV} (h:eI.f a0 a1 a2=some r):Tr prog 164 [eq p0_.1,vI a1,vI a2] [own az p0_.1 a0] (γ:=OV) (λ_=>True) (λg=>eq g.1) (λg=>[own az g.1 r]):=by
  unfold eI.f at h
  obtain⟨⟨h1,h2,h3⟩,h5⟩:=(aW.of h).aF
  obtain rfl:=aW.out h5
  clear h h5
  obtain⟨i,rfl⟩:=Int.eq_ofNat_of_zero_le h1
  obtain⟨j,rfl⟩:=Int.eq_ofNat_of_zero_le (show(0:Int)<=a2 by omega)
  have hij:i<=j:=om
  have hj:j<=a0.length:=om
  obtain⟨v,hv⟩:=p0_
  rw [Int.toNat_natCast,Int.toNat_natCast]
  refine Tr.body func164 (c:=_) Q ntmps164 (Nat.le_of_ble_eq_true Q) λR0 F=>?_
  refine so<|wr 6 0<|go 4<|Dv.kl (Kd:=az) (xs:=a0) (v:=v) Q T Q (ab 0 Q) iu<|Dv.sl3 (Kd:=az) Q T Q (ab 0 Q) iu U9 c9 (fJ Q) (fJ Q) (fJ Q) hij hj<|.fin<|WP.seq<|so<|WP.cond Q (λc0=>?_) (λc0=>?_)
  · have e1:i=j:=by have:=beq_iff_eq.1 c0;omega
    subst e1
    rw [List.take_append_drop]
    refine sp ?_
    exact WP.u7 (λ_ _ h=>h) Q (⟨v,hv⟩:OV) T (.cons (aQ Q) .nil) Q (oX (L:=[own az v a0]) (F:=F) [0] 0 Q Q Q)
  have hlt:i<j:=by
    have:¬ ((i:Int)=(j:Int)):=by simpa using c0
    omega
  have hzl:(a0.take i++a0.drop j++a0.drop (i+(a0.length-j))).length=a0.length:=by simp only [List.length_append,List.length_take,List.length_drop];omega
  have hpl:(i+(a0.length-j))<(a0.take i++a0.drop j++a0.drop (i+(a0.length-j))).length:=by rw [hzl];omega
  have hfin:((a0.take i++a0.drop j++a0.drop (i+(a0.length-j))).take (i+(a0.length-j))++List.replicate ((a0.take i++a0.drop j++a0.drop (i+(a0.length-j))).length-(i+(a0.length-j))) eE).take (i+(a0.length-j))=a0.take i++a0.drop j:=by
    have hl:(a0.take i++a0.drop j).length=(i+(a0.length-j)):=by rw [List.length_append,List.length_take,List.length_drop];omega
    rw [List.take_append,List.take_take,Nat.min_self,List.take_left' hl]
    have:(i+(a0.length-j))-(a0.take i++a0.drop j).length=0:=om
    rw [this,List.take_zero,List.append_nil]
  refine WP.skip<|wr 3 0<|go 1<|Dv.kl (Kd:=az) (xs:=a0) (v:=v) Q T Q (ab 0 Q) iu<|go 1<|wd mX 8 64<|go 2<|Dv.slpf (Kd:=az) Q T Q (ab 0 Q) iu U9 c9 (fJ Q) (Nat.le_trans hij hj)<|go 2<|Dv.slt (Kd:=az) (p:=j) Q T Q (ab 0 Q) iu U9 c9 (fJ Q) hj<|Dv.apt (Kd:=az) (jj:=0) Q T Q Q Q iu iu U9 c9 ⟨hlt,hj⟩ (λ_=>ee kr)<|gq 1 ?_
  refine wr 6 32<|go 2<|Dv.lenp (Kd:=az) (xs:=(a0.take i++a0.drop j++a0.drop (i+(a0.length-j)))) Q T Q (ab 0 Q) iu<|go 1<|Dv.slpt (Kd:=az) (xs:=(a0.take i++a0.drop j++a0.drop (i+(a0.length-j)))) (p:=(i+(a0.length-j))) (q:=a0.length) Q T Q (ab 0 Q) iu U9 c9 (fJ Q) (fJ Q) om (Nat.le_of_eq hzl.symm)<|Dv.clrt (Kd:=az) (jj:=0) eE Q T ((show opv _ _=some (eq (tlv _ v a0.length (i+(a0.length-j)))) from Q).trans (congrArg (λz=>some (eq (tlv _ v z (i+(a0.length-j))))) hzl.symm)) iu z9 Q Q (λu hu=>by simp [Value.cells] at hu;subst hu;rfl) hpl Q nofun<|.fin<|sp ?_
  refine WP.gh (l':=λ_:Unit=>[own az (pfv v (i+(a0.length-j))) (a0.take i++a0.drop j)]++F) (bL (ok:=λ_=>True) (λR w h=>by obtain⟨_,_,h2⟩:=Ey (m:=(i+(a0.length-j))) 0 rfl (by rw [List.length_append,List.length_take,List.length_replicate];omega) R w h;rw [hfin] at h2;exact⟨(),T,h2⟩)) (λ_ _=>?_)
  exact WP.u7 (λ_ _ h=>h) Q (⟨pfv v (i+(a0.length-j)),A3 hv⟩:OV) T (.cons (aQ Q) .nil) Q (oX (L:=[own az (pfv v (i+(a0.length-j))) (a0.take i++a0.drop j)]) (F:=F) [0] 0 Q Q Q)
theorem jA.c {p0_:OV} (h:jA.f k a0 a1=some r):Tr prog 99 [eq p0_.1,vS a1] [bE.O p0_ a0] (γ:=Unit) (λ_=>True) (λg=>lg [vI r.1,vI r.2.1]) (λg=>[bE.O p0_ r.2.2]):=by
 refine tf func99 h λR0 F H=>?_
 refine so<|wr 10 16<|go 1<|Dv.mD bE.nn Q T Q (ab 0 Q)<|vg (bE.eF 0 Q) λgb haa=>?_
 refine fp haa Q T Q yf<|gl 1 [0]<|el H λta hac H=>cx 4 [1,0,2,3] (cL 80) (dy.c hac (p0_:=gb.2.1)) nofun λ_ _=>?_
 refine go 1<|dZ Q T Q Q<|dZ Q T Q Q<|go 2<|WP.seq<|so<|ce H ?_ ?_ <;> intro H
 ·refine so<|wg (bE.shut (p:=p0_) (m:=(⟨ta.2.2,a0.bA,a0.qw⟩:bE)) (gb.1,gb.2.1,gb.2.2.1,gb.2.2.2) haa (pm 4 [1,0,2,3])) λ_ _=>?_
  cases H.out;exact et () 1 [0] 0
 refine WP.skip<|WP.kW H id (λpa=>[(0,eq p0_.1),(1,vS a1),(6,vI ta.1)]) (λpa=>[bE.O p0_ pa]++F) (λpa H=>?_) (λH=>?_)
 ·refine wr 11 1152<|go 2<|Dv.mD bE.nn Q T Q (ab 0 Q)<|vg (bE.eF 0 Q) λgc had=>?_
  refine fp had Q T Q rT<|gl 2 [0]<|Dv.lit az ([a1]:List BA) (css:=[[vS a1]]) Q T iu U9 c9 z9 Q dc dc Q ⟨(cells_one (ai Q)),T⟩ Q Q Q<|gr H λgi H=>ap az 2 ([a1]:List BA) dG iu (.inr ⟨_,iu⟩) wE gi nofun λva=>?_
  refine Dv.aJ had Q T Q<|fp had Q T Q rT<|sx 0 Q T Q Q (cells_one cS) G3 Q Q Q nofun ?_
  refine .fin<|wr 7 64<|go 1<|Dv.aJ had Q T Q<|fp had Q T Q B7<|gl 3 [0]<|Dv.Js (jj:=3) ta.1 Q T Q Q Q Q uc (dP U9) nofun<|.fin<|so<|wg (bE.shut (p:=p0_) (m:=(⟨pa.dA,pa.bA++([a1]:List BA),mput pa.qw a1 ta.1⟩:bE)) (gc.1,gc.2.1,va,gc.2.2.2) had (pm 4 [0,1,2,3])) λ_ _=>?_
  cases H.out;exact et () 1 [0] 0
 refine wr 11 0<|go 1<|Dv.aJ haa Q T Q<|fp haa Q T Q B7<|gl 2 [1]<|Dv.mlk 0 Q T Q (ab 3 Q) Q uc (dP U9) z3 (λ_=>Q)<|go 1<|dZ Q T Q Q<|dZ Q T Q Q<|go 2<|so<|cf H ?_ ?_ <;> intro H
 ·refine WP.skip ?_
  have H:=H.out
  refine ng (bE.shut (p:=p0_) (m:=(⟨ta.2.2,a0.bA,a0.qw⟩:bE)) (gb.1,gb.2.1,gb.2.2.1,gb.2.2.2) haa (pm 4 [1,0,2,3])) λ_ _=>?_
  exact jn (⟨ta.2.2,a0.bA,a0.qw⟩:bE) H
 refine wr 7 0<|go 1<|Dv.aJ haa Q T Q<|fp haa Q T Q rT<|gl 2 [1]<|el H λtc hae H=>mH (B:=[own az gb.2.2.1.1 a0.bA]) 4 [2,0,1,3] (cL 163) (Pt.qz _ (bR.c hae) (.cons (ln (ab 0 Q)) (.cons nV .nil)) cJ) ?_
 refine go 1<|rg 12 2304<|go 2<|Dv.aJ haa Q T Q<|fp haa Q T Q rT<|gl 4 [1]<|el H λte haf H=>cx 4 [2,0,1,3] (cL 164) (eI.c haf (p0_:=gb.2.2.1)) nofun λgj _=>?_
 refine Dv.aJ haa Q T Q<|fp haa Q T Q rT<|sx 2 Q T Q Q (cells_one cS) G3 Q Q Q nofun ?_
 refine .fin ?_
 have H:=H.out
 refine ng (bE.shut (p:=p0_) (m:=(⟨ta.2.2,te,a0.qw⟩:bE)) (gb.1,gb.2.1,gj,gb.2.2.2) haa (pm 4 [2,1,0,3])) λ_ _=>?_
 exact jn (⟨ta.2.2,te,a0.qw⟩:bE) H
end Go.Proofs.YtelcbdmigiacpaaGreat
