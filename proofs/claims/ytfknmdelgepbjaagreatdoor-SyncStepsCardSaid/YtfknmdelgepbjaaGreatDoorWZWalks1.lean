import Derived.Test.YtfknmdelgepbjaaGreatDoorWZTab
import Derived.Test.YtfknmdelgepbjaaGreatDoorWZShelf
set_option linter.all false
set_option autoImplicit true
set_option maxRecDepth 10000
set_option maxHeartbeats 20000000
namespace Go.Proofs.YtfknmdelgepbjaaGreatDoor
open Go Go.Sp Tryz
theorem sA.c (h:sA.f a0=some r):Tr prog 84 [vI a0] [] (γ:=OV) (fun _=>True) (fun g=>kZ [eq g.1,vI r.2]) (fun g=>[DY jB.O g r.1]):=by
 refine tf func84 h fun R0 F H=>?_
 refine so<|WP.seq<|wr 6 0<|gp 3 ?_
 cases c1:decide (a0<1)
 rotate_left
 ·
  have H:=H.ct c1
  refine go 3<|WP.cond Q (fun _=>?_) nofun
  refine so<|wg (og (O:=jB.O)) fun _ _=>?_
  cases H.out; exact et jx 1 [0] 0
 have H:=H.cf c1
 refine go 3<|ce H ?_ ?_ <;> intro H
 ·
  refine so<|wg (og (O:=jB.O)) fun _ _=>?_
  cases H.out; exact et jx 1 [0] 0
 refine WP.skip<|wr 5 4<|go 1<|Dv.kJ (qs:=[vI a0,dH,vI 0]) (css:=[[vI a0]]) Q T It pl247 z247 Q ⟨(cells_one (ah Q)),T⟩ Q Q<|Dv.box Q T Q cA nofun fun b4=>go 2<|wg (dw ak.K none) fun _ _=>?_
 refine wg (jB.shut (p:=(⟨.pointer (some ⟨b4,0,none⟩),Q⟩:OV)) (m:=(⟨a0,([]:List ak),0⟩:jB)) (b4,jS) Q (pm 2 [1,0])) fun _ _=>?_
 cases H.out; exact et (⟨.pointer (some ⟨b4,0,none⟩),Q⟩:OV) 1 [0] 0
theorem oh.c (h:oh.f=some r):Tr prog 85 [] [] (γ:=OV) (fun _=>True) (fun g=>eq g.1) (fun g=>[j6.O g r]):=by
 refine tf func85 h fun R0 F H=>?_
 refine so<|wr 4 5<|Dv.LP bB.kv (fun x:Pos=>agg (Pos.enc x)) Q T nofun (fun v5=>?_)
 refine Dv.kJ (qs:=[eq v5.1]) (css:=[[eq v5.1]]) Q T U250 pl250 z250 Q ⟨(cells_one bH),T⟩ Q Q<|Dv.box Q T Q cA nofun fun b6=>go 1<|wg (j6.shut (p:=(⟨.pointer (some ⟨b6,0,none⟩),Q⟩:OV)) (m:=(⟨([]:List (bB×Pos))⟩:j6)) (b6,v5) Q (pm 2 [0,1])) fun _ _=>?_
 cases H.out; exact et (⟨.pointer (some ⟨b6,0,none⟩),Q⟩:OV) 1 [0] 0
theorem oB.c (h:oB.f a0=some r):Tr prog 30 [vI a0] [] (γ:=OV) (fun _=>True) (fun g=>kZ [eq g.1,vI r.2]) (fun g=>[DY jA.O g r.1]):=by
 refine tf func30 h fun R0 F H=>?_
 refine so<|wr 7 2<|go 1<|el H fun t7 h8 H=>cx 0 [] (cL 84) (sA.c h8) nofun fun g9 _=>?_
 refine go 1<|dV Q T Q Q<|dV Q T Q Q<|go 2<|WP.seq<|so<|ce H ?_ ?_ <;> intro H
 ·
  refine so<|wg (og (O:=jA.O)) fun _ _=>?_
  cases H.out; exact et jx 2 [1,0] 1
 refine WP.skip<|wr 6 9<|el H fun t11 h12 H=>cx 1 [0] (cL 85) (oh.c h12) nofun fun g13 _=>?_
 refine go 1<|gr H fun g14 H=>vg (sw 1 Q (isN g14)) fun _ _=>?_
 refine Dv.kJ (qs:=[eq g13.1,eq g9.1]) (css:=[[eq g13.1],[eq g9.1]]) Q T Le pl177 z177 Q ⟨(cells_one bH),⟨(cells_one bH),T⟩⟩ Q Q<|Dv.box Q T Q cA nofun fun b15=>go 2<|wg (jA.shut (p:=(⟨.pointer (some ⟨b15,0,none⟩),Q⟩:OV)) (m:=(⟨t11,t7.1.getD default⟩:jA)) (b15,g13,g9) Q (pm 3 [0,2,1])) fun _ _=>?_
 cases H.out; exact et (⟨.pointer (some ⟨b15,0,none⟩),Q⟩:OV) 1 [0] 0
theorem rH.c {b off:Nat} {bT:TypeId} {qs:Cs} {m:Int} (h0:off<qs.length):Tr prog 141 [eq (.pointer (some ⟨b,off,none⟩)),vI m] [aC b bT qs] (γ:=Unit) (fun _=>True) (fun _=>kZ []) (fun _=>[aC b bT (qs.set off (vI m))]):=by
 exact Tr.body func141 (c:=_) Q ntmps141 (Nat.le_of_ble_eq_true Q) fun R0 F=>WP.rm [(0,false),(1,false),(2,false),(3,false),(4,true)] kr<|go 4<|Dv.JZ (jj:=0) (qs:=qs) Q T Q (Fe h0 func210 kr Q xf210 xg210) Q nofun<|.fin<|re Q () 1 [0] 0 .nil
theorem oE.c (h:oE.f a0 a1=some r):Tr prog 86 [vI a0,vI a1] [] (γ:=OV) (fun _=>True) (fun g=>kZ [eq g.1,vI r.2]) (fun g=>[DY lv.O g r.1]):=by
 refine tf func86 h fun R0 F H=>?_
 refine so<|WP.seq<|wr 15 0<|gp 3 ?_
 cases c16:decide (a1<1)
 rotate_left
 ·
  have H:=H.ct c16
  refine go 12<|WP.cond Q (fun _=>?_) nofun
  refine so<|wg (og (O:=lv.O)) fun _ _=>?_
  cases H.out; exact et jx 1 [0] 0
 have H:=H.cf c16
 refine gp 4 ?_
 cases c18:decide (1099511627776<a1)
 rotate_left
 ·
  have H:=H.ct c18
  refine go 8<|WP.cond Q (fun _=>?_) nofun
  refine so<|wg (og (O:=lv.O)) fun _ _=>?_
  cases H.out; exact et jx 1 [0] 0
 have H:=H.cf c18
 refine gp 4 ?_
 cases c20:decide (a0<0)
 rotate_left
 ·
  have H:=H.ct c20
  refine go 4<|WP.cond Q (fun _=>?_) nofun
  refine so<|wg (og (O:=lv.O)) fun _ _=>?_
  cases H.out; exact et jx 1 [0] 0
 have H:=H.cf c20
 refine go 4<|ce H ?_ ?_ <;> intro H
 ·
  refine so<|wg (og (O:=lv.O)) fun _ _=>?_
  cases H.out; exact et jx 1 [0] 0
 refine WP.skip<|wr 4 4<|go 1<|Dv.kJ (qs:=[vI 0,vI a1]) (css:=[[vI a1]]) Q T Ky pl257 z257 Q ⟨(cells_one (ah Q)),T⟩ Q Q<|Dv.box Q T Q cA nofun fun b23=>go 1<|wr 5 16<|go 4<|cx 1 [0] (cL 141) (rH.c (b:=b23) (off:=0) (bT:=257) (qs:=[vI 0,vI a1]) (m:=a0) (Nat.le_of_ble_eq_true Q)) nofun fun _ _=>?_
 refine .fin<|so<|wg (lv.shut (p:=(⟨.pointer (some ⟨b23,0,none⟩),Q⟩:OV)) (m:=(⟨(⟨a0⟩:Cm),a1⟩:lv)) b23 Q (pm 1 [0])) fun _ _=>?_
 cases H.out; exact et (⟨.pointer (some ⟨b23,0,none⟩),Q⟩:OV) 1 [0] 0
theorem nC.c (h:nC.f a0 a1=some r):Tr prog 31 [vI a0,vI a1] [] (γ:=OV) (fun _=>True) (fun g=>kZ [eq g.1,vI r.2]) (fun g=>[DY b8.O g r.1]):=by
 refine tf func31 h fun R0 F H=>?_
 refine so<|wr 8 4<|go 2<|el H fun t24 h25 H=>cx 0 [] (cL 86) (oE.c h25) nofun fun g26 _=>?_
 refine go 1<|dV Q T Q Q<|dV Q T Q Q<|go 2<|WP.seq<|so<|ce H ?_ ?_ <;> intro H
 ·
  refine so<|wg (og (O:=b8.O)) fun _ _=>?_
  cases H.out; exact et jx 2 [1,0] 1
 refine WP.skip<|wr 6 10<|go 1<|Dv.LP Value.string (fun x:Int=>vI x) Q T nofun (fun v28=>?_)
 refine gr H fun g29 H=>vg (sw 1 Q (isN g29)) fun _ _=>?_
 refine Dv.kJ (qs:=[eq g26.1,dH,eq v28.1]) (css:=[[eq g26.1],[eq v28.1]]) Q T I6 pl183 z183 Q ⟨(cells_one bH),⟨(cells_one bH),T⟩⟩ Q Q<|Dv.box Q T Q cA nofun fun b30=>go 2<|wg (dw aw none) fun _ _=>?_
 refine wg (b8.shut (p:=(⟨.pointer (some ⟨b30,0,none⟩),Q⟩:OV)) (m:=(⟨t24.1.getD default,([]:List BA),([]:List (BA×Int))⟩:b8)) (b30,g26,jS,v28) Q (pm 4 [1,2,0,3])) fun _ _=>?_
 cases H.out; exact et (⟨.pointer (some ⟨b30,0,none⟩),Q⟩:OV) 1 [0] 0
theorem sC.c (h:sC.f=some r):Tr prog 32 [] [] (γ:=OV) (fun _=>True) (fun g=>eq g.1) (fun g=>[aJ.O g r]):=by
 refine tf func32 h fun R0 F H=>?_
 refine so<|wr 4 5<|Dv.LP Value.string (fun p:OV=>eq p.1) Q T nofun (fun v31=>?_)
 refine vg (CS bp.O) fun _ _=>?_
 refine Dv.kJ (qs:=[eq v31.1]) (css:=[[eq v31.1]]) Q T Lc pl186 z186 Q ⟨(cells_one bH),T⟩ Q Q<|Dv.box Q T Q cA nofun fun b32=>go 1<|wg (aJ.shut (p:=(⟨.pointer (some ⟨b32,0,none⟩),Q⟩:OV)) (m:=(⟨([]:List (BA×bp))⟩:aJ)) (b32,v31) Q (pm 2 [0,1])) fun _ _=>?_
 cases H.out; exact et (⟨.pointer (some ⟨b32,0,none⟩),Q⟩:OV) 1 [0] 0
theorem oS.c (h:oS.f=some r):Tr prog 87 [] [] (γ:=OV) (fun _=>True) (fun g=>eq g.1) (fun g=>[aQ.O g r]):=by
 refine tf func87 h fun R0 F H=>?_
 refine so<|wr 4 5<|Dv.LP Value.string (fun x:Int=>vI x) Q T nofun (fun v33=>?_)
 refine Dv.kJ (qs:=[dH,eq v33.1]) (css:=[[eq v33.1]]) Q T Lq pl261 z261 Q ⟨(cells_one bH),T⟩ Q Q<|Dv.box Q T Q cA nofun fun b34=>go 1<|wg (dw dq.K none) fun _ _=>?_
 refine wg (aQ.shut (p:=(⟨.pointer (some ⟨b34,0,none⟩),Q⟩:OV)) (m:=(⟨([]:List dq),([]:List (BA×Int))⟩:aQ)) (b34,jS,v33) Q (pm 3 [1,0,2])) fun _ _=>?_
 cases H.out; exact et (⟨.pointer (some ⟨b34,0,none⟩),Q⟩:OV) 1 [0] 0
theorem nE.c (h:nE.f=some r):Tr prog 33 [] [] (γ:=OV) (fun _=>True) (fun g=>eq g.1) (fun g=>[bS.O g r]):=by
 refine tf func33 h fun R0 F H=>?_
 refine so<|wr 4 5<|el H fun t35 h36 H=>cx 0 [] (cL 87) (oS.c h36) nofun fun g37 _=>?_
 refine Dv.kJ (qs:=[dH,eq g37.1]) (css:=[[eq g37.1]]) Q T Ld pl190 z190 Q ⟨(cells_one bH),T⟩ Q Q<|Dv.box Q T Q cA nofun fun b38=>go 1<|wg (dw ak.K none) fun _ _=>?_
 refine wg (bS.shut (p:=(⟨.pointer (some ⟨b38,0,none⟩),Q⟩:OV)) (m:=(⟨([]:List ak),t35⟩:bS)) (b38,jS,g37) Q (pm 3 [1,0,2])) fun _ _=>?_
 cases H.out; exact et (⟨.pointer (some ⟨b38,0,none⟩),Q⟩:OV) 1 [0] 0
theorem lP.c (h:lP.f=some r):Tr prog 34 [] [] (γ:=OV) (fun _=>True) (fun g=>eq g.1) (fun g=>[b7.O g r]):=by
 refine tf func34 h fun R0 F H=>?_
 refine so<|wr 4 5<|el H fun t39 h40 H=>cx 0 [] (cL 87) (oS.c h40) nofun fun g41 _=>?_
 refine Dv.kJ (qs:=[dH,eq g41.1]) (css:=[[eq g41.1]]) Q T Lv pl192 z192 Q ⟨(cells_one bH),T⟩ Q Q<|Dv.box Q T Q cA nofun fun b42=>go 1<|wg (dw ak.K none) fun _ _=>?_
 refine wg (b7.shut (p:=(⟨.pointer (some ⟨b42,0,none⟩),Q⟩:OV)) (m:=(⟨([]:List ak),t39⟩:b7)) (b42,jS,g41) Q (pm 3 [1,0,2])) fun _ _=>?_
 cases H.out; exact et (⟨.pointer (some ⟨b42,0,none⟩),Q⟩:OV) 1 [0] 0
theorem uD.c (h:uD.f a0=some r):Tr prog 142 [vS a0] [] (γ:=OV) (fun _=>True) (fun g=>eq g.1) (fun g=>[bp.O g r]):=by
 refine tf func142 h fun R0 F H=>?_
 refine so<|wr 5 10<|go 1<|Dv.LP Value.string (fun p:OV=>eq p.1) Q T nofun (fun v43=>?_)
 refine vg (CS aY.O) fun _ _=>?_
 refine Dv.kJ (qs:=[vS a0,eq v43.1]) (css:=[[vS a0],[eq v43.1]]) Q T LA pl265 z265 Q ⟨(cells_one (ah Q)),⟨(cells_one bH),T⟩⟩ Q Q<|Dv.box Q T Q cA nofun fun b44=>go 1<|wg (bp.shut (p:=(⟨.pointer (some ⟨b44,0,none⟩),Q⟩:OV)) (m:=(⟨a0,([]:List (BA×aY))⟩:bp)) (b44,v43) Q (pm 2 [0,1])) fun _ _=>?_
 cases H.out; exact et (⟨.pointer (some ⟨b44,0,none⟩),Q⟩:OV) 1 [0] 0
theorem aP.r {a0:aJ} {a1:BA} {r:bp} (h:aP.f a0 a1=some r):∀ x,mget a0.bC a1=some x→x=r:=fun x e=>by
 unfold aP.f at h; rw [e] at h; exact Option.some.inj h
theorem aP.c {b0_:Nat} {v0_0:OV} {r:bp} (h:aP.f a0 a1=some r):Tr prog 88 [dR b0_,vS a1] [aC b0_ 186 [eq v0_0.1],kU Value.string bp.O v0_0.1 a0.bC] (γ:=OV) (fun _=>True) (fun g=>eq g.1) (fun g=>[aC b0_ 186 [eq v0_0.1],Kh Value.string bp.O v0_0.1 a0.bC a1 g,bp.O g r]):=by
 refine tf func88 h fun R0 F H=>?_
 refine WP.seq<|WP.rm [(0,false)] kr<|go 1<|WP.seq<|WP.seq<|WP.rm [(0,false),(1,false),(2,false),(3,false),(4,false),(5,false),(6,false)] kr<|go 2<|Dv.fab Q T Q Lc Q Eg Hr dc<|Dv.ldb Q T Q Eg Q (aa 0 Q) Q<|go 1<|vg (mE 1 Q) fun z1 h1=>?_
 refine Dv.E8 jx Q T Q (aa 0 Q) Q Eg (dU U9) z193 (fun _=>Q)<|go 1<|WP.seq<|WP.rm [(0,false),(1,false)] kr<|go 1<|Dv.pm1 (Bu h1 Q) Q T Q Q U193<|.fin<|WP.cond Q (fun c1=>?_) (fun c1=>?_)
 ·
  have e1:(mget a0.bC a1).isSome=true:=by cases e:mget a0.bC a1 with | none=>rw [e] at c1; cases c1 | some _=>rfl
  have H:=H.ct e1
  obtain rfl:=aU.out H
  refine WP.seq<|WP.rm [(0,false),(1,false)] kr<|go 2<|wg (Fa h1 Q e1 (pm 3 [0,1,2])) fun _ _=>?_
  exact et ((mget (cX a0.bC z1) a1).getD jx) 3 [2,0,1] 0
 have e1:(mget a0.bC a1).isSome=false:=by cases e:mget a0.bC a1 with | none=>rfl | some _=>rw [e] at c1; cases c1
 have H:=H.cf e1
 refine WP.skip<|WP.seq<|WP.rm [(0,false),(1,true),(2,false)] kr<|go 1<|cx 0 [] (cL 142) (uD.c (by obtain ⟨_,e,rfl⟩:=H; exact e)) nofun fun g2 _=>?_
 refine go 1<|wg (Hw g2 h1 Q e1 (pm 4 [1,2,0,3])) fun _ _=>?_
 exact et g2 3 [2,0,1] 0
theorem aZ.c {X1_:As} (h:aZ.f k a0 a1=some r):Tr prog 137 [sl aw a0,kC X1_ a1] [X1_] (γ:=Unit) (fun _=>True) (fun g=>vI r) (fun g=>[X1_]):=by
 refine tf func137 h fun R0 F H=>?_
 refine so<|sr H id [] (fun _=>[]) (fun _=>[]) (fun p54 H=>?_) (fun H=>?_)
 ·
  refine sp ?_
  cases H.out; exact et () 1 [0] 0
 refine wr 3 0<|go 1<|Dv.fj Q T Q dj<|go 1<|WP.block<|ws 1 [0] 0 ?_
 refine lq (fun j_ (p62:Int)=>aZ.l0 k a0 a1 j_ p62) 0 H [0,1,7] (fun p62=>[(8,vI p62)]) (fun _=>[]) ?_
 rintro j_ x55 H
 rcases j_ with _ | j61
 ·
  exact (aU.no H).elim
 try dsimp only at H
 rw [aZ.l0] at H
 refine so<|WP.seq<|cf H ?_ ?_ <;> intro H
 ·
  refine WP.exit ?_
  have H:=H.out
  exact jn (x55,decide (x55<(a0.length:Int))) H
 refine WP.skip<|WP.seq<|WP.block<|so<|wr 6 0<|go 3<|gr H fun g57 H=>Dv.fR Q T Q Q dj U9 c9 g57.1 g57.2<|kI Q T Q oc Q<|el H fun t58 h59 H=>Dv.B1 (ret:=vB t58) (X:=X1_) (F:=F) Q T Q Q ⟨_,_,h59,Q,Q⟩ (lK (L:=[X1_]) (F:=F) [0] Q Q Q)<|.fin<|cf H ?_ ?_ <;> intro H
 ·
  exact WP.skip<|rg 2 0<|go 2<|bk j61 (av (x55+1)) H
 refine sp ?_
 have H:=H.eR
 cases H.out; exact et () 1 [0] 0
theorem aA.c {X1_:As} {p0_:OV} (h:aA.f k a0 a1=some r):Tr prog 137 [eq p0_.1,kC X1_ a1] [own aw p0_.1 a0,X1_] (γ:=Unit) (fun _=>True) (fun g=>vI r) (fun g=>[own aw p0_.1 a0,X1_]):=by
 refine tf func137 h fun R0 F H=>?_
 refine so<|sr H id [] (fun _=>[]) (fun _=>[]) (fun p63 H=>?_) (fun H=>?_)
 ·
  refine sp ?_
  cases H.out; exact et () 2 [0,1] 0
 refine wr 3 0<|go 1<|Dv.kl Q T Q (aa 0 Q) dj<|go 1<|WP.block<|ws 2 [0,1] 0 ?_
 refine lq (fun j_ (p72:Int)=>aA.l0 k a0 a1 j_ p72) 0 H [0,1,7] (fun p72=>[(8,vI p72)]) (fun _=>[]) ?_
 rintro j_ x64 H
 rcases j_ with _ | j71
 ·
  exact (aU.no H).elim
 try dsimp only at H
 rw [aA.l0] at H
 refine so<|WP.seq<|cf H ?_ ?_ <;> intro H
 ·
  refine WP.exit ?_
  have H:=H.out
  exact jn (x64,decide (x64<(a0.length:Int))) H
 refine WP.skip<|WP.seq<|WP.block<|so<|wr 6 0<|go 3<|gr H fun g66 H=>?_
 have h67:x64.toNat<a0.length:=bq g66
 refine Dv.jQ Q T Q (aa 0 Q) Q dj U9 c9 g66.1 g66.2<|Dv.na (j:=x64.toNat) (f:=0) (p:=vS (a0.getD x64.toNat default)) Q T Q (aa 0 Q) h67 U9 Q Q<|el H fun t68 h69 H=>Dv.B1 (ret:=vB t68) (X:=X1_) (F:=[own aw p0_.1 a0]++F) Q T Q Q ⟨_,_,h69,Q,Q⟩ (lK (L:=[own aw p0_.1 a0,X1_]) (F:=F) [1,0] Q Q Q)<|.fin<|cf H ?_ ?_ <;> intro H
 ·
  exact WP.skip<|rg 2 0<|go 2<|bk j71 (av (x64+1)) H
 refine sp ?_
 have H:=H.eR
 cases H.out; exact et () 2 [0,1] 0
theorem cF.c {X1_:As} (h:cF.f k a0 a1=some r):Tr prog 122 [sl aw a0,kC X1_ a1] [X1_] (γ:=Unit) (fun _=>True) (fun g=>vB r) (fun g=>[X1_]):=by
 refine tf func122 h fun R0 F H=>?_
 refine so<|wr 5 0<|go 2<|el H fun t75 h76 H=>pN 1 [0] (cL 137) (aZ.c h76 (X1_:=X1_)) ?_
 refine gq 2 ?_
 cases H.out; exact et () 1 [0] 0
theorem cN.c {X1_:As} {p0_:OV} (h:cN.f k a0 a1=some r):Tr prog 122 [eq p0_.1,kC X1_ a1] [own aw p0_.1 a0,X1_] (γ:=Unit) (fun _=>True) (fun g=>vB r) (fun g=>[own aw p0_.1 a0,X1_]):=by
 refine tf func122 h fun R0 F H=>?_
 refine so<|wr 5 0<|go 2<|el H fun t77 h78 H=>pN 2 [0,1] (cL 137) (aA.c h78 (p0_:=p0_) (X1_:=X1_)) ?_
 refine gq 2 ?_
 cases H.out; exact et () 2 [0,1] 0
theorem fm.c (h:fm.f a0 a1=some r):Pt prog 295 [vS a0,vS a1] (vB r):=by
 refine pf func295 h fun R0 F H=>?_
 refine so<|wr 14 0<|go 1<|Dv.lens Q T Q U9<|go 1<|Dv.lens Q T Q U9<|gp 2 ?_
 cases Ke:decide ((a1.size:Int)≤(a0.size:Int))
 ·
  have H:=H.cf Ke
  refine gq 8 ?_
  cases H.out; exact ek 0
 have H:=H.ct Ke
 refine go 2<|Dv.lens Q (gg Q) Q U9<|gr H fun g80 H=>Dv.I8 Q (gg Q) Q U9 dK (eY Q g80.1) g80.2.1 g80.2.2<|gq 4 ?_
 cases H.out; exact ek 0
theorem fu.c (h:fu.f a0 a1=some r):Pt prog 276 [vS a0,vS a1] (kZ [vS r.1,vB r.2]):=by
 refine pf func276 h fun R0 F H=>?_
 refine so<|WP.seq<|wr 4 0<|go 2<|el H fun t81 h82 H=>cl Q (cL 295) Q (fm.c h82)<|go 1<|ce H ?_ ?_ <;> intro H
 ·
  refine sp ?_
  cases H.out; exact ek 0
 refine WP.skip<|wr 6 0<|go 2<|Dv.lens Q T Q U9<|gr H fun g84 H=>Dv.I8 Q T Q U9 (eY Q g84.1) dK g84.2.1 g84.2.2<|gq 2 ?_
 cases H.out; exact ek 0
theorem eC.c (h:eC.f a0 a1=some r):Pt prog 254 [vS a0,vS a1] (kZ [vS r.1,vB r.2]):=by
 refine pf func254 h fun R0 F H=>?_
 refine so<|wr 7 0<|go 2<|el H fun t85 h86 H=>cl Q (cL 276) Q (fu.c h86)<|dV Q T Q Q<|dV Q T Q Q<|gq 2 ?_
 cases H.out; exact ek 0
theorem iX.c (h:iX.f a0=some r):Pt prog 279 [eq (.int .u8 a0)] (vB r):=by
 refine pf func279 h fun R0 F H=>?_
 refine so<|wr 15 0<|gp 3 ?_
 cases c87:decide (97≤a0)
 ·
  have H:=H.cf c87
  refine gp 7 ?_
  cases c90:decide (48≤a0)
  ·
   have H:=H.cf c90
   refine gq 5 ?_
   cases H.out; exact ek 0
  have H:=H.ct c90
  refine gq 5 ?_
  cases H.out; exact ek 0
 have H:=H.ct c87
 refine gp 4 ?_
 cases c88:decide (a0≤122)
 rotate_left
 ·
  have H:=H.ct c88
  refine gq 8 ?_
  cases H.out; exact ek 0
 have H:=H.cf c88
 refine gp 3 ?_
 cases LV:decide (48≤a0)
 ·
  have H:=H.cf LV
  refine gq 5 ?_
  cases H.out; exact ek 0
 have H:=H.ct LV
 refine gq 5 ?_
 cases H.out; exact ek 0
theorem dm.c (h:dm.f a0 a1=some r):Pt prog 281 [vS a0,eq (.int .u8 a1)] (vI r):=by
 refine pf func281 h fun R0 F H=>?_
 refine so<|wr 4 0<|go 2<|Dv.KS Q T Q (FG func298 kr Q xf298 xg298)<|gq 1 ?_
 cases H.out; exact ek 0
theorem iL.c (h:iL.f a0 a1=some r):Pt prog 297 [vS a0,eq (.int .u8 a1)] (vI r):=by
 refine pf func297 h fun R0 F H=>?_
 refine so<|wr 4 0<|go 2<|el H fun t91 h92 H=>cl Q (cL 281) Q (dm.c h92)<|gq 1 ?_
 cases H.out; exact ek 0
theorem ee.c {c0:BA} (h:ee.f a0 c0=some r):Pt prog 296 [eq (.int .u8 a0),rp [vS c0]] (vB r):=by
 refine pf func296 h fun R0 F H=>?_
 refine so<|wr 9 0<|go 1<|el H fun t93 h94 H=>cl Q (cL 279) Q (iX.c h94)<|gp 1 ?_
 cases c95:t93
 rotate_left
 ·
  have H:=H.ct c95
  refine gq 6 ?_
  cases H.out; exact ek 0
 have H:=H.cf c95
 refine kI Q (gg Q) Q oc Q<|go 1<|el H fun t96 h97 H=>Dv.call Q (gg Q) (cL 297) Q (iL.c h97)<|gq 3 ?_
 cases H.out; exact ek 0
theorem jP.c (h:jP.f a0=some r):Pt prog 277 [vS a0] (gX r):=by
 refine pf func277 h fun R0 F H=>?_
 refine wr 2 1<|Dv.box Q T Q cE nofun fun b98=>go 1<|wr 2 0<|Dv.gh (sE (E':=[(0,vS a0),(1,rp [vS a0]),(2,eq .nilFunc)]) (l':=F) 0 Q (ar Q az (ar Q kR (ar Q az jM))) (fW .nil fun _=>bU)) (fun _ _=>?_)
 refine Dv.mkf (Q:=pY (fun a0_=>ee.f a0_ a0)) (cL 296) (by rintro _ _ ⟨a0_,r_,h_,rfl,rfl⟩; exact ee.c h_) Q T Q Q<|gq 1 ?_
 cases H.out; exact ek 0
theorem en.c (h:en.f k a0 a1=some r):Pt prog 255 [vS a0,vI a1] (vB r):=by
 refine pf func255 h fun R0 F H=>?_
 refine so<|wr 7 0<|el H fun t99 haa H=>cl Q (cL 277) Q (jP.c haa)<|el H fun ta hac H=>cl Q (cL 277) Q (jP.c hac)<|el H fun tc had H=>cl Q (cL 277) Q (jP.c had)<|Dv.blda (qs:=[gX t99,gX ta,gX tc]) (css:=[[gX t99],[gX ta],[gX tc]]) Q T U382 U335 c335 z382 Q ⟨(cells_one n9),⟨(cells_one n9),⟨(cells_one n9),T⟩⟩⟩ Q Q<|go 1<|gr H fun ga H=>Dv.ixa (Kd:=oo) (xs:=([t99,ta,tc]:List (Int→Option Bool))) Q T Q Q Q U382 U335 Q c335 Q Q ga.1 ga.2 Q<|go 1<|sr H id [0] (fun _=>[]) (fun _=>[]) (fun pa H=>?_) (fun H=>?_)
 ·
  refine wr 8 0<|gp 3 ?_
  cases cc:!decide (a0=eE)
  ·
   have H:=H.cf cc
   refine gq 5 ?_
   cases H.out; exact ek 0
  have H:=H.ct cc
  refine go 1<|Dv.lens Q (gg Q) Q U9<|gq 3 ?_
  cases H.out; exact ek 0
 refine wr 3 0<|go 1<|Dv.lens Q T Q U9<|go 1<|WP.block<|ws 0 [] 0 ?_
 refine lq (fun j_ (pc:Int)=>en.l0 k a0 a1 t99 ta tc j_ pc) 0 H [0,5,14] (fun pc=>[(15,vI pc)]) (fun _=>[]) ?_
 rintro j_ xc H
 rcases j_ with _ | ja
 ·
  exact (aU.no H).elim
 try dsimp only at H
 rw [en.l0] at H
 refine so<|WP.seq<|cf H ?_ ?_ <;> intro H
 ·
  refine WP.exit ?_
  have H:=H.out
  exact jn (xc,decide (xc<(a0.size:Int))) H
 refine WP.skip<|WP.seq<|WP.block<|so<|wr 6 0<|go 3<|gr H fun gb H=>Dv.qV Q T Q Q U9 gb.1 gb.2<|el H fun te hae H=>Dv.tS (ret:=vB te) Q T Q Q ⟨_,_,hae,Q,Q⟩<|go 1<|cf H ?_ ?_ <;> intro H
 ·
  exact WP.skip<|rg 2 0<|go 2<|bk ja (av (xc+1)) H
 refine sp ?_
 have H:=H.eR
 cases H.out; exact ek 0
theorem eF.c (h:eF.f a0 a1=some r):Pt prog 269 [vS a0,vS a1] (vI r):=by
 refine pf func269 h fun R0 F H=>?_
 refine so<|wr 3 0<|go 1<|Dv.lens Q T Q U9<|go 1<|WP.seq<|WP.block<|wr 8 0<|gp 3 ?_
 cases xz:((a1.size:Int)==0)
 rotate_left
 ·
  have H:=H.ct xz
  refine go 5<|WP.cond Q (fun _=>?_) nofun
  refine sp ?_
  cases H.out; exact ek 0
 have H:=H.cf xz
 refine go 5<|ce H ?_ ?_ <;> intro H
 ·
  refine sp ?_
  cases H.out; exact ek 0
 refine so<|ce H ?_ ?_ <;> intro H
 ·
  refine wr 5 0<|go 2<|gr H fun ga H=>Dv.qV Q T Q Q U9 ga.1 ga.2<|el H fun ta haa H=>cl Q (cL 281) Q (dm.c haa)<|gq 1 ?_
  cases H.out; exact ek 0
 refine wr 5 0<|go 2<|Dv.lens Q T Q U9<|go 2<|cf H ?_ ?_ <;> intro H
 ·
  exact (aU.no H).elim
 refine sp ?_
 cases H.out; exact ek 0
theorem jT.c (h:jT.f a0 a1=some r):Pt prog 278 [vS a0,vS a1] (kZ [vS r.1,vS r.2.1,vB r.2.2]):=by
 refine pf func278 h fun R0 F H=>?_
 refine so<|WP.seq<|wr 4 0<|go 2<|el H fun ta haa H=>cl Q (cL 269) Q (eF.c haa)<|go 1<|so<|cf H ?_ ?_ <;> intro H
 ·
  refine WP.skip<|sp ?_
  cases H.out; exact ek 0
 refine wd mX 12 0<|go 2<|gr H fun ga H=>Dv.I8 Q T Q U9 dK (eY Q ga.1) ga.2.1 ga.2.2<|go 3<|Dv.lens Q T Q U9<|go 1<|gr H fun gb H=>Dv.I8 Q T Q U9 (eY Q gb.1) dK gb.2.1 gb.2.2<|gq 3 ?_
 cases H.out; exact ek 0
theorem ko.c (h:ko.f a0 a1=some r):Pt prog 256 [vS a0,vS a1] (kZ [vS r.1,vS r.2.1,vB r.2.2]):=by
 refine pf func256 h fun R0 F H=>?_
 refine so<|wr 9 0<|go 2<|el H fun ta haa H=>cl Q (cL 278) Q (jT.c haa)<|dV Q T Q Q<|dV Q T Q Q<|dV Q T Q Q<|gq 3 ?_
 cases H.out; exact ek 0
theorem lA.c (h:lA.f k a0=some r):Pt prog 257 [vS a0] (vB r):=by
 refine pf func257 h fun R0 F H=>?_
 refine so<|wr 16 0<|go 1<|el H fun ta haa H=>cl Q (cL 255) Q (en.c haa)<|gp 1 ?_
 cases cc:ta
 ·
  have H:=H.cf cc
  refine gq 13 ?_
  cases H.out; exact ek 0
 have H:=H.ct cc
 refine go 1<|gr H fun ga H=>Dv.qV Q (gg Q) Q Q U9 ga.1 ga.2<|el H fun tc hac H=>Dv.call Q (gg Q) (cL 279) Q (iX.c hac)<|gp 2 ?_
 cases cg:tc
 ·
  have H:=H.cf cg
  refine gq 8 ?_
  cases H.out; exact ek 0
 have H:=H.ct cg
 refine go 2<|Dv.lens Q (gg Q) Q U9<|go 1<|gr H fun gb H=>Dv.qV Q (gg Q) Q Q U9 gb.1 gb.2<|el H fun te had H=>Dv.call Q (gg Q) (cL 279) Q (iX.c had)<|gq 2 ?_
 cases H.out; exact ek 0
theorem kE.c (h:kE.f k a0 a1=some r):Pt prog 225 [vS a0,vS a1] (kZ [vS r.1,vS r.2.1,vB r.2.2]):=by
 refine pf func225 h fun R0 F H=>?_
 refine so<|wr 8 0<|go 2<|el H fun ta haa H=>cl Q (cL 254) Q (eC.c haa)<|go 1<|dV Q T Q Q<|dV Q T Q Q<|go 2<|wr 9 0<|go 1<|el H fun tc hac H=>cl Q (cL 256) Q (ko.c hac)<|go 1<|dV Q T Q Q<|dV Q T Q Q<|dV Q T Q Q<|go 3<|wr 17 0<|gp 4 ?_
 cases cc:ta.2
 ·
  have H:=H.cf cc
  refine gq 13 ?_
  cases H.out; exact ek 0
 have H:=H.ct cc
 refine gp 3 ?_
 cases cg:tc.2.2
 ·
  have H:=H.cf cg
  refine gq 10 ?_
  cases H.out; exact ek 0
 have H:=H.ct cg
 refine go 1<|el H fun te had H=>Dv.call Q (gg Q) (cL 255) Q (en.c had)<|gp 2 ?_
 cases ci:te
 ·
  have H:=H.cf ci
  refine gq 6 ?_
  cases H.out; exact ek 0
 have H:=H.ct ci
 refine go 1<|el H fun tg hae H=>Dv.call Q (gg Q) (cL 257) Q (lA.c hae)<|gq 4 ?_
 cases H.out; exact ek 0
theorem mq.c (h:mq.f k a0=some r):Pt prog 156 [vS a0] (vB r):=by
 refine pf func156 h fun R0 F H=>?_
 refine so<|wr 9 0<|go 1<|el H fun ta haa H=>cl Q (cL 225) Q (kE.c haa)<|go 1<|dV Q T Q Q<|dV Q T Q Q<|dV Q T Q Q<|go 3<|sp ?_
 cases H.out; exact ek 0
theorem eu.c (h:eu.f k a0=some r):Pt prog 211 [vS a0] (vB r):=by
 refine pf func211 h fun R0 F H=>?_
 refine so<|wr 7 0<|go 1<|el H fun ta haa H=>cl Q (cL 254) Q (eC.c haa)<|go 1<|dV Q T Q Q<|dV Q T Q Q<|go 2<|wr 6 0<|gp 2 ?_
 cases FO:ta.2
 ·
  have H:=H.cf FO
  refine gq 4 ?_
  cases H.out; exact ek 0
 have H:=H.ct FO
 refine go 1<|el H fun tc hac H=>Dv.call Q (gg Q) (cL 255) Q (en.c hac)<|gq 2 ?_
 cases H.out; exact ek 0
theorem kK.c (h:kK.f k a0=some r):Pt prog 212 [vS a0] (vB r):=by
 refine pf func212 h fun R0 F H=>?_
 refine so<|wr 9 0<|go 1<|el H fun ta haa H=>cl Q (cL 225) Q (kE.c haa)<|go 1<|dV Q T Q Q<|dV Q T Q Q<|dV Q T Q Q<|go 3<|sp ?_
 cases H.out; exact ek 0
theorem dE.c (h:dE.f k a0=some r):Pt prog 143 [agg (Event.enc a0)] (vB r):=by
 refine pf func143 h fun R0 F H=>?_
 refine wr 2 1<|Dv.box Q T Q cA nofun fun ba=>go 1<|WP.scope<|WP.seq<|wr 32 0<|gl 2 [0]<|el H fun ta haa H=>cl Q (cL 211) Q (eu.c haa)<|gp 2 ?_
 cases cc:!ta
 rotate_left
 ·
  have H:=H.ct cc
  refine go 27<|WP.cond Q (fun _=>?_) nofun
  refine sp ?_
  cases H.out; exact ek 1
 have H:=H.cf cc
 refine gl 2 [0]<|el H fun tc hac H=>Dv.call Q (gg Q) (cL 212) Q (kK.c hac)<|gp 3 ?_
 cases cg:!tc
 rotate_left
 ·
  have H:=H.ct cg
  refine go 21<|WP.cond Q (fun _=>?_) nofun
  refine sp ?_
  cases H.out; exact ek 1
 have H:=H.cf cg
 refine gl 2 [0]<|el H fun te had H=>Dv.call Q (gg Q) (cL 156) Q (mq.c had)<|gp 3 ?_
 cases ci:!te
 rotate_left
 ·
  have H:=H.ct ci
  refine go 15<|WP.cond Q (fun _=>?_) nofun
  refine sp ?_
  cases H.out; exact ek 1
 have H:=H.cf ci
 refine gl 2 [0]<|Dv.fj Q (gg Q) Q dj<|gp 3 ?_
 cases IT:decide (4<(a0.ag.length:Int))
 rotate_left
 ·
  have H:=H.ct IT
  refine go 9<|WP.cond Q (fun _=>?_) nofun
  refine sp ?_
  cases H.out; exact ek 1
 have H:=H.cf IT
 refine kX 5 [0] ?_
 cases cj:decide (a0.bR<0)
 rotate_left
 ·
  have H:=H.ct cj
  refine go 4<|WP.cond Q (fun _=>?_) nofun
  refine sp ?_
  cases H.out; exact ek 1
 have H:=H.cf cj
 refine gl 4 [0]<|ce H ?_ ?_ <;> intro H
 ·
  refine sp ?_
  cases H.out; exact ek 1
 refine WP.skip<|WP.seq<|wr 21 0<|kX 4 [0] ?_
 cases ck:!decide (a0.ae=eE)
 ·
  have H:=H.cf ck
  refine go 17<|WP.cond Q nofun (fun _=>?_)
  refine WP.skip<|so<|WP.seq<|WP.label<|sq H id [] (fun pa=>[(3,vB pa.1)]) (fun _=>[]) (fun pa H=>?_) (fun H=>?_)
  ·
   refine sp ?_
   cases H.out; exact ek 1
  refine wr 4 0<|gl 2 [0]<|Dv.fj Q T Q dj<|go 1<|WP.block<|ws 1 [0] 0 ?_
  refine lq (fun j_ (pc:Int)=>dE.l1 k a0 j_ pc) 0 H [1,3,60,61] (fun pc=>[(62,vI pc)]) (fun _=>[]) ?_
  rintro j_ xc H
  rcases j_ with _ | ja
  ·
   exact (aU.no H).elim
  try dsimp only at H
  rw [dE.l1] at H
  refine so<|WP.seq<|cf H ?_ ?_ <;> intro H
  ·
   refine WP.exit ?_
   have H:=H.out
   exact jn (true,xc,decide (xc<(a0.ag.length:Int))) H
  refine WP.skip<|WP.seq<|WP.block<|wr 5 0<|go 1<|gr H fun ga H=>Dv.fR Q T Q Q dj U9 c9 ga.1 ga.2<|kI Q T Q oc Q<|go 2<|wr 23 0<|go 1<|el H fun tg hae H=>cl Q (cL 211) Q (eu.c hae)<|gp 2 ?_
  cases cn:!tg
  rotate_left
  ·
   have H:=H.ct cn
   refine go 19<|WP.cond Q (fun _=>?_) nofun
   refine so<|WP.exit ?_
   have H:=H.out
   exact jn (false,xc,decide (xc<(a0.ag.length:Int))) H
  have H:=H.cf cn
  refine kX 6 [0] ?_
  cases co:decide ((aw.at a0.ag xc)=a0.bV)
  rotate_left
  ·
   have H:=H.ct co
   refine go 13<|WP.cond Q (fun _=>?_) nofun
   refine so<|WP.exit ?_
   have H:=H.out
   exact jn (false,xc,decide (xc<(a0.ag.length:Int))) H
  have H:=H.cf co
  refine gp 3 ?_
  cases cp:decide (0<xc)
  ·
   have H:=H.cf cp
   refine go 10<|WP.cond Q nofun (fun _=>?_)
   exact WP.skip<|rg 2 0<|go 2<|bk ja (av (xc+1)) H
  have H:=H.ct cp
  refine gl 5 [0]<|gr H fun gb H=>Dv.fR Q (gg Q) Q Q dj U9 c9 gb.1 gb.2<|kI Q (gg Q) Q oc Q<|go 3<|cf H ?_ ?_ <;> intro H
  ·
   exact WP.skip<|rg 2 0<|go 2<|bk ja (av (xc+1)) H
  refine so<|WP.exit ?_
  have H:=H.out
  exact jn (false,xc,decide (xc<(a0.ag.length:Int))) H
 have H:=H.ct ck
 refine gl 2 [0]<|el H fun tj haf H=>Dv.call Q (gg Q) (cL 211) Q (eu.c haf)<|gp 2 ?_
 cases cq:!tj
 rotate_left
 ·
  have H:=H.ct cq
  refine go 12<|WP.cond Q (fun _=>?_) nofun
  refine sp ?_
  cases H.out; exact ek 1
 have H:=H.cf cq
 refine kX 7 [0,0] ?_
 cases Hr:decide (a0.ae=a0.bV)
 rotate_left
 ·
  have H:=H.ct Hr
  refine go 5<|WP.cond Q (fun _=>?_) nofun
  refine sp ?_
  cases H.out; exact ek 1
 have H:=H.cf Hr
 refine gl 5 [0]<|ce H ?_ ?_ <;> intro H
 ·
  refine sp ?_
  cases H.out; exact ek 1
 refine WP.skip<|so<|WP.seq<|WP.label<|sq H id [] (fun pe=>[(3,vB pe.1)]) (fun _=>[]) (fun pe H=>?_) (fun H=>?_)
 ·
  refine sp ?_
  cases H.out; exact ek 1
 refine wr 4 0<|gl 2 [0]<|Dv.fj Q T Q dj<|go 1<|WP.block<|ws 1 [0] 0 ?_
 refine lq (fun j_ (pg:Int)=>dE.l0 k a0 j_ pg) 0 H [1,3,60,61] (fun pg=>[(62,vI pg)]) (fun _=>[]) ?_
 rintro j_ xd H
 rcases j_ with _ | jc
 ·
  exact (aU.no H).elim
 try dsimp only at H
 rw [dE.l0] at H
 refine so<|WP.seq<|cf H ?_ ?_ <;> intro H
 ·
  refine WP.exit ?_
  have H:=H.out
  exact jn (true,xd,decide (xd<(a0.ag.length:Int))) H
 refine WP.skip<|WP.seq<|WP.block<|wr 5 0<|go 1<|gr H fun gi H=>Dv.fR Q T Q Q dj U9 c9 gi.1 gi.2<|kI Q T Q oc Q<|go 2<|wr 23 0<|go 1<|el H fun tm hag H=>cl Q (cL 211) Q (eu.c hag)<|gp 2 ?_
 cases cr:!tm
 rotate_left
 ·
  have H:=H.ct cr
  refine go 19<|WP.cond Q (fun _=>?_) nofun
  refine so<|WP.exit ?_
  have H:=H.out
  exact jn (false,xd,decide (xd<(a0.ag.length:Int))) H
 have H:=H.cf cr
 refine kX 6 [0] ?_
 cases cu:decide ((aw.at a0.ag xd)=a0.bV)
 rotate_left
 ·
  have H:=H.ct cu
  refine go 13<|WP.cond Q (fun _=>?_) nofun
  refine so<|WP.exit ?_
  have H:=H.out
  exact jn (false,xd,decide (xd<(a0.ag.length:Int))) H
 have H:=H.cf cu
 refine gp 3 ?_
 cases cw:decide (0<xd)
 ·
  have H:=H.cf cw
  refine go 10<|WP.cond Q nofun (fun _=>?_)
  exact WP.skip<|rg 2 0<|go 2<|bk jc (av (xd+1)) H
 have H:=H.ct cw
 refine gl 5 [0]<|gr H fun gj H=>Dv.fR Q (gg Q) Q Q dj U9 c9 gj.1 gj.2<|kI Q (gg Q) Q oc Q<|go 3<|cf H ?_ ?_ <;> intro H
 ·
  exact WP.skip<|rg 2 0<|go 2<|bk jc (av (xd+1)) H
 refine so<|WP.exit ?_
 have H:=H.out
 exact jn (false,xd,decide (xd<(a0.ag.length:Int))) H
theorem eD.c {v0_0:OV} {b0_:Nat} (h:eD.f a0 a1=some r):Tr prog 144 [dR b0_,vS a1] [aC b0_ 265 [vS a0.cQ,eq v0_0.1],kU Value.string aY.O v0_0.1 a0.ao] (γ:=Unit) (fun _=>True) (fun g=>vB r) (fun g=>[aC b0_ 265 [vS a0.cQ,eq v0_0.1],kU Value.string aY.O v0_0.1 a0.ao]):=by
 refine tf func144 h fun R0 F H=>?_
 refine so<|wr 8 0<|gl 5 [0]<|vg (mE 1 Q) fun za haa=>?_
 refine Dv.E8 jx Q T Q (aa 0 Q) Q xv (dU U9) Bw (fun _=>Q)<|Dv.pm1 (Bu haa Q) Q T Q Q U266<|go 1<|wg (iH haa Q (pm 3 [0,1,2])) fun _ _=>?_
 cases H.out; exact et () 2 [1,0] 0
theorem eT.c {cb0_ cd0_:Nat} {cq0_ cv0_0:OV} {ch0_:cq0_.1 = .pointer (some ⟨cd0_,0,none⟩)} {c0:bp} (h:eT.f a0 c0=some r):Tr prog 145 [vS a0,dR cb0_] [aC cb0_ 193 [eq cq0_.1],aC cd0_ 265 [vS c0.cQ,eq cv0_0.1],kU Value.string aY.O cv0_0.1 c0.ao] (γ:=Unit) (fun _=>True) (fun g=>vB r) (fun g=>[aC cb0_ 193 [eq cq0_.1],aC cd0_ 265 [vS c0.cQ,eq cv0_0.1],kU Value.string aY.O cv0_0.1 c0.ao]):=by
 refine tf func145 h fun R0 F H=>?_
 refine so<|wr 5 0<|gl 2 [0]<|el H fun ta haa H=>pN 3 [1,2,0] (cL 144) (Tr.kj (eD.c haa (b0_:=cd0_) (v0_0:=cv0_0)) (.cons (iV ch0_) (.cons bQ .nil))) ?_
 refine gq 2 ?_
 cases H.out; exact et () 3 [0,1,2] 0
theorem dQ.c (h:dQ.f a0=some r):Tr prog 213 [sl aw a0] [] (γ:=OV) (fun _=>True) (fun g=>eq g.1) (fun g=>[own aw g.1 r]):=by
 unfold dQ.f at h
 obtain ⟨h0,h5⟩:=(aU.of h).an
 obtain rfl:=aU.out h5
 clear h h5
 refine (Tr.body func213 (c:=_) Q ntmps213 (Nat.le_of_ble_eq_true Q) fun R0 F=>?_)
 refine WP.seq<|WP.rm [(0,false)] kr<|go 1<|WP.seq<|WP.seq<|WP.rm [(0,false),(1,true)] kr<|go 1<|Dv.snil Q T Q Q dj nofun (fun b hb=>?_)
 refine .fin<|WP.cond Q (fun c0=>?_) (fun c0=>?_)
 ·
  obtain rfl:=hb c0
  refine WP.seq<|WP.rm [(0,false)] kr<|go 1<|wg (dw aw none) fun _ _=>?_
  exact et jS 1 [0] 0
 refine WP.skip<|WP.seq<|WP.rm [(0,true),(1,false),(2,true),(3,false)] kr<|Dv.lit0 aw Q T dj U9 c9 z9 nofun (fun v1=>?_)
 refine go 1<|Dv.Fv (Kd:=aw) (xs:=[]) (v:=v1.1) (jj:=0) (ys:=a0) (fun v2:OV=>[own aw v2.1 a0]++F) Q T Q Q Q bF dj (.inr ⟨_,dj⟩) rM Q dc (by simpa using h0) Q nofun (fun v2=>?_)
 exact go 1<|rt i2 Q v2 1 [0] 0 (.cons (aB Q) .nil)
theorem iJ.c (h:iJ.f a0=some r):Pt prog 146 [agg (Event.enc a0)] (agg (Event.enc r)):=by
 refine pf func146 h fun R0 F H=>?_
 refine wr 2 3<|Dv.box Q T Q cA nofun fun ba=>al Q T uP nofun fun bc=>.fin<|wr 5 20<|gl 2 [1]<|el H fun ta haa H=>cx 2 [0,1] (cL 213) (dQ.c haa) nofun fun ga _=>?_
 refine go 1<|sx 2 Q T Q Q (cells_one bH) IY Q Q Q nofun ?_
 refine .fin<|wr 2 2<|gl 1 [2]<|sy 1 ?_
 refine .fin<|fz 0 [2] [1,1] ?_
 cases H.out; exact r2 i2 Q (.cons (au Q kL Q mL (aa 0 Q) Q) .nil)
theorem dag_Dag_Add.c {p0_:OV} (h:dag_Dag_Add.f k a0 a1=some r):Tr prog 89 [eq p0_.1,agg (Event.enc a1)] [bp.O p0_ a0] (γ:=Unit) (fun _=>True) (fun g=>vI r.1) (fun g=>[bp.O p0_ r.2]):=by
 refine tf func89 h fun R0 F H=>?_
 refine wr 3 3<|Dv.box Q T Q (cells_one bH) nofun fun ba=>Dv.box Q T Q cA nofun fun bc=>go 1<|WP.seq<|WP.block<|WP.seq<|wg (bp.jf 2 Q) fun ga haa=>?_
 refine dg mX 13 0<|gl 1 [2]<|el H fun ta hac H=>cl Q (cL 143) Q (dE.c hac)<|gp 2 ?_
 cases cc:!ta
 rotate_left
 ·
  have H:=H.ct cc
  refine go 9<|WP.cond Q (fun _=>?_) nofun
  refine so<|wg (bp.shut (p:=p0_) (m:=a0) (ga.1,ga.2) haa (pm 4 [0,1,2,3])) fun _ _=>?_
  cases H.out; exact et () 3 [1,2,0] 2
 have H:=H.cf cc
 refine gl 3 [2,3]<|Dv.bY haa Q (gg Q) Q<|fp haa Q (gg Q) Q Je<|gl 4 [0]<|ce H ?_ ?_ <;> intro H
 ·
  refine so<|wg (bp.shut (p:=p0_) (m:=a0) (ga.1,ga.2) haa (pm 4 [0,1,2,3])) fun _ _=>?_
  cases H.out; exact et () 3 [1,2,0] 2
 refine wr 5 0<|gl 3 [3,2]<|el H fun tc had H=>pN 4 [0,1,2,3] (cL 144) (Tr.kj (eD.c had (b0_:=ga.1) (v0_0:=ga.2)) (.cons (iV haa) (.cons bQ .nil))) ?_
 refine go 1<|ce H ?_ ?_ <;> intro H
 ·
  refine so<|wg (bp.shut (p:=p0_) (m:=a0) (ga.1,ga.2) haa (pm 4 [0,1,2,3])) fun _ _=>?_
  cases H.out; exact et () 3 [1,2,0] 2
 refine wr 5 0<|gl 2 [2]<|Dv.mkx (Q:=jX (fun a0_=>eT.f a0_ a0)) (L:=[aC ba 193 [eq p0_.1],aC ga.1 265 [vS a0.cQ,eq ga.2.1],kU Value.string aY.O ga.2.1 a0.ao]) (cL 145) (by rintro _ _ ⟨a0_,r_,h_,rfl,rfl⟩; exact eT.c h_ (cb0_:=ba) (cq0_:=p0_) (cd0_:=ga.1) (ch0_:=haa) (cv0_0:=ga.2)) Q T Q Q<|el H fun te hae H=>pN 4 [3,0,1,2] (cL 122) (Tr.Kk (A:=[]) (L:=[aC ba 193 [eq p0_.1],aC ga.1 265 [vS a0.cQ,eq ga.2.1],kU Value.string aY.O ga.2.1 a0.ao]) (cF.c hae (X1_:=(pk [aC ba 193 [eq p0_.1],aC ga.1 265 [vS a0.cQ,eq ga.2.1],kU Value.string aY.O ga.2.1 a0.ao])))) ?_
 refine go 1<|ce H ?_ ?_ <;> intro H
 ·
  refine so<|wg (bp.shut (p:=p0_) (m:=a0) (ga.1,ga.2) haa (pm 4 [0,1,2,3])) fun _ _=>?_
  cases H.out; exact et () 3 [1,2,0] 2
 refine WP.skip<|WP.sT H id (fun pa=>[(2,dR ba),(3,dR bc)]) (fun pa=>[aC bc 110 (Event.enc a1),aC ba 193 [eq p0_.1],bp.O p0_ a0]++F) (fun pa H=>?_) (fun H=>?_)
 rotate_left
 ·
  refine sN [2]<|cf H ?_ ?_ <;> intro H
  ·
   refine WP.skip ?_
   have H:=H.out
   refine ng (bp.shut (p:=p0_) (m:=a0) (ga.1,ga.2) haa (pm 4 [0,1,2,3])) fun _ _=>?_
   refine ns 3 [1,2,0] 0 ?_
   exact jn () H
  refine WP.seq<|wg (mE 1 Q) fun za haf=>?_
  refine dg mX 8 0<|gl 1 [4]<|Dv.bY haa Q T Q<|fp haa Q T Q uv<|gl 3 [2,3]<|Dv.E8 jx Q T Q (aa 0 Q) Q xv (dU U9) Bw (fun _=>Q)<|go 1<|WP.seq<|wr 2 0<|go 1<|Dv.pm0 (Bu haf Q) Q T Q Q U266<|.fin<|ce H ?_ ?_ <;> intro H
  ·
   refine so<|wg (iH haf Q (pm 5 [0,1,2,3,4])) fun _ _=>?_
   refine wg (bp.shut (p:=p0_) (m:=a0) (ga.1,ga.2) haa (pm 4 [1,0,2,3])) fun _ _=>?_
   have H:=H.eR
   cases H.out; exact et () 3 [1,2,0] 2
  refine WP.skip<|wr 14 0<|go 1<|gr H fun gb H=>vg (qU haf Q gb (pm 5 [1,0,2,3,4])) fun _ _=>?_
  refine Dv.qw aY.nn Q T Q (aa 0 Q)<|vg (aY.jf 0 Q) fun gi hag=>?_
  refine fp hag Q T Q uA<|kX 4 [0] ?_
  cases cg:!decide (((((mget a0.ao a1.ae).getD default).fe).ae)=eE)
  rotate_left
  ·
   have H:=H.ct cg
   refine go 7<|WP.cond Q (fun _=>?_) nofun
   refine so<|wg (aY.shut (p:=((mget (cX a0.ao za) a1.ae).getD jx)) (m:=(mget a0.ao a1.ae).getD default) gi hag (pm 6 [0,1,2,3,4,5])) fun _ _=>?_
   refine wg (oX haf Q gb (pm 6 [0,1,2,3,4,5])) fun _ _=>?_
   refine wg (iH haf Q (pm 5 [1,0,2,3,4])) fun _ _=>?_
   refine wg (bp.shut (p:=p0_) (m:=a0) (ga.1,ga.2) haa (pm 4 [1,0,2,3])) fun _ _=>?_
   have H:=H.eR
   cases H.out; exact et () 3 [1,2,0] 2
  have H:=H.cf cg
  refine go 1<|Dv.bY hag Q (gg Q) Q<|fp hag Q (gg Q) Q uA<|gl 4 [0]<|cf H ?_ ?_ <;> intro H
  ·
   refine WP.skip ?_
   have H:=H.out
   refine ng (aY.shut (p:=((mget (cX a0.ao za) a1.ae).getD jx)) (m:=(mget a0.ao a1.ae).getD default) gi hag (pm 6 [0,1,2,3,4,5])) fun _ _=>?_
   refine ng (oX haf Q gb (pm 6 [0,1,2,3,4,5])) fun _ _=>?_
   refine ng (iH haf Q (pm 5 [1,0,2,3,4])) fun _ _=>?_
   refine ng (bp.shut (p:=p0_) (m:=a0) (ga.1,ga.2) haa (pm 4 [1,0,2,3])) fun _ _=>?_
   refine ns 3 [1,2,0] 0 ?_
   exact jn () H
  refine so<|wg (aY.shut (p:=((mget (cX a0.ao za) a1.ae).getD jx)) (m:=(mget a0.ao a1.ae).getD default) gi hag (pm 6 [0,1,2,3,4,5])) fun _ _=>?_
  refine wg (oX haf Q gb (pm 6 [0,1,2,3,4,5])) fun _ _=>?_
  refine wg (iH haf Q (pm 5 [1,0,2,3,4])) fun _ _=>?_
  refine wg (bp.shut (p:=p0_) (m:=a0) (ga.1,ga.2) haa (pm 4 [1,0,2,3])) fun _ _=>?_
  have H:=H.eR
  cases H.out; exact et () 3 [1,2,0] 2
 refine wr 5 8<|gl 1 [0]<|el H fun tg hah H=>cl Q (cL 146) Q (iJ.c hah)<|Dv.kJ (qs:=[vS tg.bV,vS tg.ab,sl aw tg.ag,vS tg.ae,vS tg.aj,vI tg.bR,vI 0,vB false]) (css:=[Event.enc tg]) Q T I9 pl268 z268 Q ⟨(aS (Event.K.one _)),T⟩ Q Q<|Dv.box Q T Q cA nofun fun bd=>go 1<|WP.jh H id (fun pc=>[(2,dR ba),(3,dR bc),(6,dR bd)]) (fun pc=>[aC bd 268 [vS tg.bV,vS tg.ab,sl aw tg.ag,vS tg.ae,vS tg.aj,vI tg.bR,vI pc.2.2.1,vB false],aC bc 110 (Event.enc a1),aC ba 193 [eq p0_.1],bp.O p0_ pc.2.2.2]++F) (fun pc H=>?_) (fun H=>?_)
 ·
  refine WP.seq<|wg (bp.jf 3 Q) fun gj hai=>?_
  refine wg (aY.shut (p:=(⟨.pointer (some ⟨bd,0,none⟩),Q⟩:OV)) (m:=(⟨tg,pc.2.2.1,false⟩:aY)) bd Q (pm 5 [2,0,1,3,4])) fun _ _=>?_
  refine wg (mE 2 Q) fun zb haj=>?_
  refine dg mX 8 128<|gl 1 [5]<|Dv.bY hai Q T Q<|fp hai Q T Q uv<|gl 4 [3,4]<|Dv.mup (vp:=fun p:OV=>eq p.1) (jj:=0) (⟨.pointer (some ⟨bd,0,none⟩),Q⟩:OV) Q T Q Q Q Q xv (dU U9) (fun _=>fG kr)<|.fin<|so<|wg (Dg aY.nn haj Q (pm 6 [0,1,2,3,4,5])) fun _ _=>?_
  refine wg (bp.shut (p:=p0_) (m:=(⟨pc.2.2.2.cQ,mput pc.2.2.2.ao a1.bV (⟨tg,pc.2.2.1,false⟩:aY)⟩:bp)) (gj.1,gj.2) hai (pm 4 [1,0,2,3])) fun _ _=>?_
  cases H.out; exact et () 3 [1,2,0] 2
 refine wr 4 0<|gl 2 [1]<|Dv.fj Q T Q dj<|go 1<|WP.block<|ws 4 [0,1,2,3] 0 ?_
 refine lq (fun j_ (pe:Int×Int×bp)=>dag_Dag_Add.l0 k a1 j_ pe.1 pe.2.1 pe.2.2) (0,0,a0) H [2,3,6,63,64] (fun pe=>[(65,vI pe.1)]) (fun pe=>[(0,aC bd 268 [vS tg.bV,vS tg.ab,sl aw tg.ag,vS tg.ae,vS tg.aj,vI tg.bR,vI pe.2.1,vB false]),(3,bp.O p0_ pe.2.2)]) ?_
 rintro j_ ⟨xc,xd,xe⟩ H
 rcases j_ with _ | ja
 ·
  exact (aU.no H).elim
 try dsimp only at H
 rw [dag_Dag_Add.l0] at H
 refine so<|WP.seq<|cf H ?_ ?_ <;> intro H
 ·
  refine WP.exit ?_
  have H:=H.out
  exact jn (xc,decide (xc<(a1.ag.length:Int)),xd,xe) H
 refine WP.skip<|WP.seq<|WP.block<|wr 3 0<|gr H fun gk H=>Dv.fR Q T Q Q dj U9 c9 gk.1 gk.2<|kI Q T Q oc Q<|go 1<|WP.seq<|wg (bp.jf 3 Q) fun gm hak=>?_
 refine wg (mE 1 Q) fun zc ham=>?_
 refine gr H fun gn H=>wg (qU ham Q gn (pm 6 [1,0,2,3,4,5])) fun _ _=>?_
 refine wg (aY.jf 0 Q) fun gu han=>?_
 refine dg mX 19 262144<|gl 6 [4,6]<|Dv.bY hak Q T Q<|fp hak Q T Q uv<|gl 2 [3]<|Dv.E8 jx Q T Q (aa 2 Q) Q xv (dU U9) Bw (fun _=>Q)<|Dv.bY han Q T Q<|fp han Q T Q zf<|gl 2 [0]<|Dv.EG Q T Q Q<|go 2<|sv 4 ?_
 refine .fin<|rg 9 256<|gl 1 [6]<|Dv.bY hak Q T Q<|fp hak Q T Q uv<|gl 2 [3]<|Dv.E8 jx Q T Q (aa 2 Q) Q xv (dU U9) Bw (fun _=>Q)<|Dv.bY han Q T Q<|fp han Q T Q H8<|sy 0 ?_
 refine .fin<|rg 2 0<|go 2<|ng (aY.shut (p:=((mget (cX xe.ao zc) (aw.at a1.ag xc)).getD jx)) (m:=(⟨((mget xe.ao (aw.at a1.ag xc)).getD default).fe,((mget xe.ao (aw.at a1.ag xc)).getD default).cK,true⟩:aY)) gu han (pm 7 [0,1,2,3,4,5,6])) fun _ _=>?_
 refine ng (zj ham Q gn (pm 7 [0,1,2,3,4,5,6])) fun _ hao=>?_
 refine ng (iH hao (sR Q gn) (pm 6 [1,0,2,3,4,5])) fun _ _=>?_
 refine ng (bp.shut (p:=p0_) (m:=(⟨xe.cQ,mput xe.ao (aw.at a1.ag xc) (⟨((mget xe.ao (aw.at a1.ag xc)).getD default).fe,((mget xe.ao (aw.at a1.ag xc)).getD default).cK,true⟩:aY)⟩:bp)) (gm.1,gm.2) hak (pm 5 [1,0,2,3,4])) fun _ _=>?_
 refine ns 4 [1,2,3,0] 0 ?_
 exact bk ja (av (xc+1),max xd (av ((((mget xe.ao (aw.at a1.ag xc)).getD default).cK)+1)),(⟨xe.cQ,mput xe.ao (aw.at a1.ag xc) (⟨((mget xe.ao (aw.at a1.ag xc)).getD default).fe,((mget xe.ao (aw.at a1.ag xc)).getD default).cK,true⟩:aY)⟩:bp)) H
theorem iW.c {p0_:OV} (h:iW.f k a0 a1=some r):Tr prog 35 [eq p0_.1,agg (Event.enc a1)] [aJ.O p0_ a0] (γ:=Unit) (fun _=>True) (fun g=>vI r.1) (fun g=>[aJ.O p0_ r.2]):=by
 refine tf func35 h fun R0 F H=>?_
 refine wr 2 1<|Dv.box Q T Q cA nofun fun ba=>go 1<|wr 5 8<|gl 3 [0]<|vg (aJ.jf 1 Q) fun ga haa=>?_
 refine el H fun ta hac H=>cx 3 [0,1,2] (cL 88) (Tr.kj (aP.c hac (b0_:=ga.1) (v0_0:=ga.2)) (.cons (iV haa) (.cons bQ .nil))) nofun fun va _=>?_
 refine go 1<|WP.seq<|wr 4 4<|gl 2 [3]<|el H fun tc had H=>cx 4 [2,0,1,3] (cL 89) (dag_Dag_Add.c had (p0_:=va)) nofun fun _ _=>?_
 refine go 1<|so<|ce H ?_ ?_ <;> intro H
 ·
  refine so<|wg (A2 (pm 4 [2,0,1,3])) fun _ _=>?_
  refine wg (aJ.shut (p:=p0_) (m:=(⟨wT a0.bC a1.ab tc.2⟩:aJ)) (ga.1,ga.2) haa (pm 3 [1,0,2])) fun _ _=>?_
  cases H.out; exact et () 2 [1,0] 1
 refine WP.skip<|WP.seq<|wg (CY 2 Q) fun za hae=>?_
 refine dg mX 8 128<|go 1<|Dv.bY haa Q T Q<|fp haa Q T Q Jy<|gl 4 [3,4]<|Dv.mup (vp:=fun p:OV=>eq p.1) (jj:=0) va Q T Q Q Q Q Eg (dU U9) (fun _=>fG kr)<|.fin<|so<|wg (Jd bp.nn hae (pm 5 [0,1,2,3,4])) fun _ _=>?_
 refine wg (aJ.shut (p:=p0_) (m:=(⟨mput a0.bC a1.ab tc.2⟩:aJ)) (ga.1,ga.2) haa (pm 3 [1,0,2])) fun _ _=>?_
 cases H.out; exact et () 2 [1,0] 1
theorem iz.c (h:iz.f k a0 a1=some r):Pt prog 77 [agg (bA.enc a0),vS a1] (agg (aK.enc r)):=by
 refine pf func77 h fun R0 F H=>?_
 refine wr 2 3<|Dv.box Q T Q cA nofun fun ba=>al Q T oK nofun fun bc=>.fin<|sr H id [1,4] (fun _=>[]) (fun _=>[]) (fun pa H=>?_) (fun H=>?_)
 ·
  refine wr 3 4<|go 1<|Dv.kJ (qs:=[vS a1,dH]) (css:=[[vS a1]]) Q T lO GD BI Q ⟨(cells_one (ah Q)),T⟩ Q Q<|sy 0 ?_
  refine .fin ?_
  cases H.out; exact r2 i2 Q (.cons (nW (au Q lO Q nV (aa 0 Q) Q) (mV (.cons bQ (.cons cR .nil)))) .nil)
 refine so<|WP.block<|ws 2 [0,1] 0 ?_
 refine lq (fun j_ (pc:Int)=>iz.l0 k a0 a1 j_ pc) 0 H [1,2,4] (fun pc=>[(5,vI pc)]) (fun _=>[]) ?_
 rintro j_ xc H
 rcases j_ with _ | ja
 ·
  exact (aU.no H).elim
 try dsimp only at H
 rw [iz.l0] at H
 refine WP.seq<|wr 5 0<|gl 3 [1]<|Dv.fj Q T Q yE<|go 1<|cf H ?_ ?_ <;> intro H
 ·
  refine WP.exit ?_
  have H:=H.out
  exact jn (xc,decide (xc<(a0.fD.length:Int))) H
 refine WP.skip<|WP.seq<|WP.block<|wr 8 0<|gl 3 [1]<|gr H fun ga H=>Dv.fR Q T Q Q yE lO nV ga.1 ga.2<|fr Q T Q uL Q<|kI Q T Q oc Q<|go 2<|cf H ?_ ?_ <;> intro H
 ·
  exact WP.skip<|rg 3 0<|go 3<|bk ja (av (xc+1)) H
 refine wr 6 32<|gl 3 [1]<|gr H fun gb H=>Dv.fR Q T Q Q yE lO nV gb.1 gb.2<|iv Q T Q Hl Q<|sy 0 ?_
 refine .fin ?_
 have H:=H.eR
 cases H.out; exact r2 i2 Q (.cons (au Q lO Q nV (aa 0 Q) Q) .nil)
theorem eL.c (h:eL.f k a0=some r):Pt prog 214 [vS a0] (vI r):=by
 refine pf func214 h fun R0 F H=>?_
 refine so<|sr H id [] (fun _=>[]) (fun _=>[]) (fun pa H=>?_) (fun H=>?_)
 ·
  refine sp ?_
  cases H.out; exact ek 0
 refine so<|WP.block<|ws 0 [] 0 ?_
 refine lq (fun j_ (pc:Int)=>eL.l0 k a0 j_ pc) 0 H [0] (fun pc=>[(3,vI pc)]) (fun _=>[]) ?_
 rintro j_ xc H
 rcases j_ with _ | ja
 ·
  exact (aU.no H).elim
 try dsimp only at H
 rw [eL.l0] at H
 refine WP.seq<|wr 4 0<|go 2<|Dv.lens Q T Q U9<|go 1<|cf H ?_ ?_ <;> intro H
 ·
  refine WP.exit ?_
  have H:=H.out
  exact jn (xc,decide (xc<(a0.size:Int))) H
 refine WP.skip<|WP.seq<|WP.block<|wr 4 0<|go 2<|gr H fun ga H=>Dv.qV Q T Q Q U9 ga.1 ga.2<|go 1<|cf H ?_ ?_ <;> intro H
 ·
  exact WP.skip<|rg 3 0<|go 3<|bk ja (av (xc+1)) H
 refine sp ?_
 have H:=H.eR
 cases H.out; exact ek 0
theorem mv.c (h:mv.f a0=some r):Pt prog 217 [eq (.int .u8 a0)] (vB r):=by
 refine pf func217 h fun R0 F H=>?_
 refine so<|wr 15 0<|gp 3 ?_
 cases cc:decide (97≤a0)
 ·
  have H:=H.cf cc
  refine gp 7 ?_
  cases cg:decide (48≤a0)
  ·
   have H:=H.cf cg
   refine gq 5 ?_
   cases H.out; exact ek 0
  have H:=H.ct cg
  refine gq 5 ?_
  cases H.out; exact ek 0
 have H:=H.ct cc
 refine gp 4 ?_
 cases ci:decide (a0≤122)
 rotate_left
 ·
  have H:=H.ct ci
  refine gq 8 ?_
  cases H.out; exact ek 0
 have H:=H.cf ci
 refine gp 3 ?_
 cases cj:decide (48≤a0)
 ·
  have H:=H.cf cj
  refine gq 5 ?_
  cases H.out; exact ek 0
 have H:=H.ct cj
 refine gq 5 ?_
 cases H.out; exact ek 0
theorem fg.c (h:fg.f k a0=some r):Pt prog 215 [vS a0] (vB r):=by
 refine pf func215 h fun R0 F H=>?_
 refine so<|sr H id [0] (fun _=>[]) (fun _=>[]) (fun pa H=>?_) (fun H=>?_)
 ·
  refine wr 9 0<|go 1<|Dv.lens Q T Q U9<|gp 2 ?_
  cases cc:decide (0<(a0.size:Int))
  ·
   have H:=H.cf cc
   refine gq 5 ?_
   cases H.out; exact ek 0
  have H:=H.ct cc
  refine go 1<|Dv.lens Q (gg Q) Q U9<|gq 3 ?_
  cases H.out; exact ek 0
 refine so<|WP.block<|ws 0 [] 0 ?_
 refine lq (fun j_ (pc:Int)=>fg.l0 k a0 j_ pc) 0 H [0] (fun pc=>[(3,vI pc)]) (fun _=>[]) ?_
 rintro j_ xc H
 rcases j_ with _ | ja
 ·
  exact (aU.no H).elim
 try dsimp only at H
 rw [fg.l0] at H
 refine WP.seq<|wr 4 0<|go 2<|Dv.lens Q T Q U9<|go 1<|cf H ?_ ?_ <;> intro H
 ·
  refine WP.exit ?_
  have H:=H.out
  exact jn (xc,decide (xc<(a0.size:Int))) H
 refine WP.skip<|WP.seq<|WP.block<|wr 5 0<|go 2<|gr H fun ga H=>Dv.qV Q T Q Q U9 ga.1 ga.2<|el H fun ta haa H=>cl Q (cL 217) Q (mv.c haa)<|go 1<|wr 20 0<|gp 3 ?_
 cases cg:!ta
 ·
  have H:=H.cf cg
  refine go 17<|WP.cond Q nofun (fun _=>?_)
  exact WP.skip<|rg 3 0<|go 3<|bk ja (av (xc+1)) H
 have H:=H.ct cg
 refine go 2<|gr H fun gb H=>Dv.qV Q (gg Q) Q Q U9 gb.1 gb.2<|gp 3 ?_
 cases ci:((bt a0 xc) != 46)
 ·
  have H:=H.cf ci
  refine go 11<|WP.cond Q nofun (fun _=>?_)
  exact WP.skip<|rg 3 0<|go 3<|bk ja (av (xc+1)) H
 have H:=H.ct ci
 refine go 2<|gr H fun gi H=>Dv.qV Q (gg Q) Q Q U9 gi.1 gi.2<|gp 3 ?_
 cases cj:((bt a0 xc) != 45)
 ·
  have H:=H.cf cj
  refine go 5<|WP.cond Q nofun (fun _=>?_)
  exact WP.skip<|rg 3 0<|go 3<|bk ja (av (xc+1)) H
 have H:=H.ct cj
 refine go 2<|gr H fun gj H=>Dv.qV Q (gg Q) Q Q U9 gj.1 gj.2<|go 2<|cf H ?_ ?_ <;> intro H
 ·
  exact WP.skip<|rg 3 0<|go 3<|bk ja (av (xc+1)) H
 refine sp ?_
 have H:=H.eR
 cases H.out; exact ek 0
theorem db.c (h:db.f k a0=some r):Pt prog 216 [vS a0] (vB r):=by
 refine pf func216 h fun R0 F H=>?_
 refine so<|sr H id [0] (fun _=>[]) (fun _=>[]) (fun pa H=>?_) (fun H=>?_)
 ·
  refine wr 9 0<|go 1<|Dv.lens Q T Q U9<|gp 2 ?_
  cases cc:decide (0<(a0.size:Int))
  ·
   have H:=H.cf cc
   refine gq 5 ?_
   cases H.out; exact ek 0
  have H:=H.ct cc
  refine go 1<|Dv.lens Q (gg Q) Q U9<|gq 3 ?_
  cases H.out; exact ek 0
 refine so<|WP.block<|ws 0 [] 0 ?_
 refine lq (fun j_ (pc:Int)=>db.l0 k a0 j_ pc) 0 H [0] (fun pc=>[(3,vI pc)]) (fun _=>[]) ?_
 rintro j_ xc H
 rcases j_ with _ | ja
 ·
  exact (aU.no H).elim
 try dsimp only at H
 rw [db.l0] at H
 refine WP.seq<|wr 4 0<|go 2<|Dv.lens Q T Q U9<|go 1<|cf H ?_ ?_ <;> intro H
 ·
  refine WP.exit ?_
  have H:=H.out
  exact jn (xc,decide (xc<(a0.size:Int))) H
 refine WP.skip<|WP.seq<|WP.block<|wr 5 0<|go 2<|gr H fun ga H=>Dv.qV Q T Q Q U9 ga.1 ga.2<|el H fun ta haa H=>cl Q (cL 217) Q (mv.c haa)<|go 1<|wr 22 0<|gp 3 ?_
 cases cg:decide (0<xc)
 ·
  have H:=H.cf cg
  refine go 19<|wr 6 0<|gp 3 ?_
  cases ci:!ta
  ·
   have H:=H.cf ci
   refine go 3<|WP.cond Q nofun (fun _=>?_)
   exact WP.skip<|rg 3 0<|go 3<|bk ja (av (xc+1)) H
  have H:=H.ct ci
  refine go 3<|WP.cond Q (fun _=>?_) nofun
  refine sp ?_
  have H:=H.eR
  cases H.out; exact ek 0
 have H:=H.ct cg
 refine go 2<|Dv.lens Q (gg Q) Q U9<|gp 4 ?_
 cases cj:decide (xc<(av ((a0.size:Int)-1)))
 ·
  have H:=H.cf cj
  refine go 12<|wr 6 0<|gp 3 ?_
  cases ck:!ta
  ·
   have H:=H.cf ck
   refine go 3<|WP.cond Q nofun (fun _=>?_)
   exact WP.skip<|rg 3 0<|go 3<|bk ja (av (xc+1)) H
  have H:=H.ct ck
  refine go 3<|WP.cond Q (fun _=>?_) nofun
  refine sp ?_
  have H:=H.eR
  cases H.out; exact ek 0
 have H:=H.ct cj
 refine go 2<|gr H fun gb H=>Dv.qV Q (gg Q) Q Q U9 gb.1 gb.2<|gp 2 ?_
 cases cn:((bt a0 xc)==46)
 rotate_left
 ·
  have H:=H.ct cn
  refine go 7<|wr 6 0<|gp 3 ?_
  cases co:!ta
  ·
   have H:=H.cf co
   refine go 3<|WP.cond Q nofun (fun _=>?_)
   exact WP.skip<|rg 3 0<|go 3<|bk ja (av (xc+1)) H
  have H:=H.ct co
  refine go 3<|WP.cond Q nofun (fun _=>?_)
  exact WP.skip<|rg 3 0<|go 3<|bk ja (av (xc+1)) H
 have H:=H.cf cn
 refine go 2<|gr H fun gi H=>Dv.qV Q (gg Q) Q Q U9 gi.1 gi.2<|go 4<|wr 6 0<|gp 3 ?_
 cases cp:!ta
 ·
  have H:=H.cf cp
  refine go 3<|WP.cond Q nofun (fun _=>?_)
  exact WP.skip<|rg 3 0<|go 3<|bk ja (av (xc+1)) H
 have H:=H.ct cp
 refine go 3<|cf H ?_ ?_ <;> intro H
 ·
  exact WP.skip<|rg 3 0<|go 3<|bk ja (av (xc+1)) H
 refine sp ?_
 have H:=H.eR
 cases H.out; exact ek 0
theorem iA.c (h:iA.f k a0 a1=some r):Pt prog 149 [vS a0,eq (.int .u8 a1)] (vB r):=by
 refine pf func149 h fun R0 F H=>?_
 refine so<|wr 3 0<|go 1<|el H fun ta haa H=>cl Q (cL 214) Q (eL.c haa)<|go 1<|WP.seq<|wr 8 0<|gp 3 ?_
 cases cc:decide (ta<1)
 rotate_left
 ·
  have H:=H.ct cc
  refine go 5<|WP.cond Q (fun _=>?_) nofun
  refine sp ?_
  cases H.out; exact ek 0
 have H:=H.cf cc
 refine go 1<|gr H fun ga H=>Dv.qV Q (gg Q) Q Q U9 ga.1 ga.2<|go 3<|ce H ?_ ?_ <;> intro H
 ·
  refine sp ?_
  cases H.out; exact ek 0
 refine WP.skip<|wr 5 0<|go 2<|gr H fun gb H=>Dv.I8 Q T Q U9 (eY Q gb.1) (eY Q gb.2.1) gb.2.2.1 gb.2.2.2<|el H fun tc hac H=>cl Q (cL 215) Q (fg.c hac)<|go 1<|wr 6 0<|go 3<|gr H fun gi H=>Dv.I8 Q T Q U9 (eY Q gi.1) dK gi.2.1 gi.2.2<|el H fun te had H=>cl Q (cL 216) Q (db.c had)<|go 1<|wr 5 0<|gp 2 ?_
 cases cg:tc
 ·
  have H:=H.cf cg
  refine gq 3 ?_
  cases H.out; exact ek 0
 have H:=H.ct cg
 refine gq 3 ?_
 cases H.out; exact ek 0
theorem bW.c (h:bW.f k a0=some r):Pt prog 150 [vS a0] (vB r):=by
 refine pf func150 h fun R0 F H=>?_
 refine so<|WP.seq<|wr 13 0<|go 1<|Dv.lens Q T Q U9<|gp 2 ?_
 cases cc:decide ((a0.size:Int)<2)
 rotate_left
 ·
  have H:=H.ct cc
  refine go 9<|WP.cond Q (fun _=>?_) nofun
  refine sp ?_
  cases H.out; exact ek 0
 have H:=H.cf cc
 refine go 1<|Dv.lens Q (gg Q) Q U9<|gp 3 ?_
 cases cg:decide (17<(a0.size:Int))
 rotate_left
 ·
  have H:=H.ct cg
  refine go 4<|WP.cond Q (fun _=>?_) nofun
  refine sp ?_
  cases H.out; exact ek 0
 have H:=H.cf cg
 refine go 1<|gr H fun ga H=>Dv.qV Q (gg Q) Q Q U9 ga.1 ga.2<|go 2<|ce H ?_ ?_ <;> intro H
 ·
  refine sp ?_
  cases H.out; exact ek 0
 refine WP.skip<|sr H id [] (fun _=>[]) (fun _=>[]) (fun pa H=>?_) (fun H=>?_)
 ·
  refine sp ?_
  cases H.out; exact ek 0
 refine so<|WP.block<|ws 0 [] 0 ?_
 refine lq (fun j_ (pc:Int)=>bW.l0 k a0 j_ pc) 1 H [0] (fun pc=>[(3,vI pc)]) (fun _=>[]) ?_
 rintro j_ xc H
 rcases j_ with _ | ja
 ·
  exact (aU.no H).elim
 try dsimp only at H
 rw [bW.l0] at H
 refine WP.seq<|wr 4 0<|go 2<|Dv.lens Q T Q U9<|go 1<|cf H ?_ ?_ <;> intro H
 ·
  refine WP.exit ?_
  have H:=H.out
  exact jn (xc,decide (xc<(a0.size:Int))) H
 refine WP.skip<|WP.seq<|WP.block<|wr 5 0<|go 2<|gr H fun gb H=>Dv.qV Q T Q Q U9 gb.1 gb.2<|el H fun ta haa H=>cl Q (cL 217) Q (mv.c haa)<|go 1<|wr 11 0<|go 2<|gr H fun gi H=>Dv.qV Q T Q Q U9 gi.1 gi.2<|gp 2 ?_
 cases ci:decide (65≤(bt a0 xc))
 ·
  have H:=H.cf ci
  refine go 6<|wr 18 0<|gp 3 ?_
  cases cj:!ta
  ·
   have H:=H.cf cj
   refine go 15<|WP.cond Q nofun (fun _=>?_)
   exact WP.skip<|rg 3 0<|go 3<|bk ja (av (xc+1)) H
  have H:=H.ct cj
  refine go 6<|gr H fun gj H=>Dv.qV Q (gg Q) Q Q U9 gj.1 gj.2<|gp 3 ?_
  cases ck:((bt a0 xc) != 45)
  ·
   have H:=H.cf ck
   refine go 5<|WP.cond Q nofun (fun _=>?_)
   exact WP.skip<|rg 3 0<|go 3<|bk ja (av (xc+1)) H
  have H:=H.ct ck
  refine go 2<|gr H fun gk H=>Dv.qV Q (gg Q) Q Q U9 gk.1 gk.2<|go 2<|cf H ?_ ?_ <;> intro H
  ·
   exact WP.skip<|rg 3 0<|go 3<|bk ja (av (xc+1)) H
  refine sp ?_
  have H:=H.eR
  cases H.out; exact ek 0
 have H:=H.ct ci
 refine go 2<|gr H fun gm H=>Dv.qV Q (gg Q) Q Q U9 gm.1 gm.2<|go 3<|wr 18 0<|gp 3 ?_
 cases cn:!ta
 ·
  have H:=H.cf cn
  refine go 15<|WP.cond Q nofun (fun _=>?_)
  exact WP.skip<|rg 3 0<|go 3<|bk ja (av (xc+1)) H
 have H:=H.ct cn
 refine gp 4 ?_
 cases co:!(decide ((bt a0 xc)≤90))
 ·
  have H:=H.cf co
  refine go 11<|WP.cond Q nofun (fun _=>?_)
  exact WP.skip<|rg 3 0<|go 3<|bk ja (av (xc+1)) H
 have H:=H.ct co
 refine go 2<|gr H fun gn H=>Dv.qV Q (gg Q) Q Q U9 gn.1 gn.2<|gp 3 ?_
 cases cp:((bt a0 xc) != 45)
 ·
  have H:=H.cf cp
  refine go 5<|WP.cond Q nofun (fun _=>?_)
  exact WP.skip<|rg 3 0<|go 3<|bk ja (av (xc+1)) H
 have H:=H.ct cp
 refine go 2<|gr H fun gu H=>Dv.qV Q (gg Q) Q Q U9 gu.1 gu.2<|go 2<|cf H ?_ ?_ <;> intro H
 ·
  exact WP.skip<|rg 3 0<|go 3<|bk ja (av (xc+1)) H
 refine sp ?_
 have H:=H.eR
 cases H.out; exact ek 0
theorem gR.c (h:gR.f k a0=some r):Pt prog 147 [agg (Event.enc a0)] (vB r):=by
 refine pf func147 h fun R0 F H=>?_
 refine wr 2 1<|Dv.box Q T Q cA nofun fun ba=>go 1<|wr 4 0<|gl 2 [0]<|el H fun ta haa H=>cl Q (cL 150) Q (bW.c haa)<|go 1<|wr 4 0<|gl 2 [0]<|el H fun tc hac H=>cl Q (cL 149) Q (iA.c hac)<|go 1<|wr 4 0<|gl 2 [0]<|el H fun te had H=>cl Q (cL 149) Q (iA.c had)<|go 1<|WP.seq<|wr 26 0<|gp 3 ?_
 cases cc:!ta
 rotate_left
 ·
  have H:=H.ct cc
  refine go 23<|WP.cond Q (fun _=>?_) nofun
  refine sp ?_
  cases H.out; exact ek 1
 have H:=H.cf cc
 refine gp 4 ?_
 cases cg:!tc
 rotate_left
 ·
  have H:=H.ct cg
  refine go 19<|WP.cond Q (fun _=>?_) nofun
  refine sp ?_
  cases H.out; exact ek 1
 have H:=H.cf cg
 refine gp 4 ?_
 cases ci:!te
 rotate_left
 ·
  have H:=H.ct ci
  refine go 15<|WP.cond Q (fun _=>?_) nofun
  refine sp ?_
  cases H.out; exact ek 1
 have H:=H.cf ci
 refine gl 2 [0]<|Dv.fj Q (gg Q) Q dj<|gp 3 ?_
 cases cj:decide (4<(a0.ag.length:Int))
 rotate_left
 ·
  have H:=H.ct cj
  refine go 9<|WP.cond Q (fun _=>?_) nofun
  refine sp ?_
  cases H.out; exact ek 1
 have H:=H.cf cj
 refine kX 5 [0] ?_
 cases ck:decide (a0.bR<0)
 rotate_left
 ·
  have H:=H.ct ck
  refine go 4<|WP.cond Q (fun _=>?_) nofun
  refine sp ?_
  cases H.out; exact ek 1
 have H:=H.cf ck
 refine gl 4 [0]<|ce H ?_ ?_ <;> intro H
 ·
  refine sp ?_
  cases H.out; exact ek 1
 refine WP.skip<|sr H id [1] (fun _=>[]) (fun _=>[]) (fun pa H=>?_) (fun H=>?_)
 rotate_left
 ·
  refine sN [0]<|cf H ?_ ?_ <;> intro H
  ·
   refine WP.skip ?_
   have H:=H.out
   exact jn () H
  refine wr 4 0<|gl 2 [0]<|el H fun tg hae H=>cl Q (cL 150) Q (bW.c hae)<|go 1<|wr 14 0<|gp 3 ?_
  cases cn:!tg
  rotate_left
  ·
   have H:=H.ct cn
   refine go 11<|WP.cond Q (fun _=>?_) nofun
   refine sp ?_
   have H:=H.eR
   cases H.out; exact ek 1
  have H:=H.cf cn
  refine kX 7 [0,0] ?_
  cases co:decide (a0.ae=a0.bV)
  rotate_left
  ·
   have H:=H.ct co
   refine go 4<|WP.cond Q (fun _=>?_) nofun
   refine sp ?_
   have H:=H.eR
   cases H.out; exact ek 1
  have H:=H.cf co
  refine gl 4 [0]<|cf H ?_ ?_ <;> intro H
  ·
   refine WP.skip ?_
   have H:=H.out
   exact jn () H
  refine sp ?_
  have H:=H.eR
  cases H.out; exact ek 1
 refine sr H id [] (fun _=>[]) (fun _=>[]) (fun pc H=>?_) (fun H=>?_)
 ·
  refine sp ?_
  cases H.out; exact ek 1
 refine so<|WP.block<|ws 1 [0] 0 ?_
 refine lq (fun j_ (pe:Int)=>gR.l0 k a0 j_ pe) 0 H [1] (fun pe=>[(7,vI pe)]) (fun _=>[]) ?_
 rintro j_ xc H
 rcases j_ with _ | ja
 ·
  exact (aU.no H).elim
 try dsimp only at H
 rw [gR.l0] at H
 refine WP.seq<|wr 5 0<|gl 3 [0]<|Dv.fj Q T Q dj<|go 1<|cf H ?_ ?_ <;> intro H
 ·
  refine WP.exit ?_
  have H:=H.out
  exact jn (xc,decide (xc<(a0.ag.length:Int))) H
 refine WP.skip<|WP.seq<|WP.block<|wr 7 0<|gl 3 [0]<|gr H fun ga H=>Dv.fR Q T Q Q dj U9 c9 ga.1 ga.2<|kI Q T Q oc Q<|el H fun tj haf H=>cl Q (cL 150) Q (bW.c haf)<|go 1<|WP.seq<|wd mX 12 0<|gp 3 ?_
 cases cp:!tj
 rotate_left
 ·
  have H:=H.ct cp
  refine go 9<|WP.cond Q (fun _=>?_) nofun
  refine sp ?_
  have H:=H.eR
  cases H.out; exact ek 1
 have H:=H.cf cp
 refine gl 3 [0]<|gr H fun gb H=>Dv.fR Q (gg Q) Q Q dj U9 c9 gb.1 gb.2<|kI Q (gg Q) Q oc Q<|gl 4 [0]<|ce H ?_ ?_ <;> intro H
 ·
  refine sp ?_
  have H:=H.eR
  cases H.out; exact ek 1
 refine WP.skip<|wd mX 17 0<|gp 3 ?_
 cases cq:decide (0<xc)
 ·
  have H:=H.cf cq
  refine go 14<|WP.cond Q nofun (fun _=>?_)
  exact WP.skip<|rg 3 0<|go 3<|bk ja (av (xc+1)) H
 have H:=H.ct cq
 refine gl 4 [0]<|Dv.EG Q (gg Q) Q Q<|gr H fun gi H=>Dv.fR Q (gg Q) Q Q dj U9 c9 gi.1 gi.2<|kI Q (gg Q) Q oc Q<|gl 3 [0]<|gr H fun gj H=>Dv.fR Q (gg Q) Q Q dj U9 c9 gj.1 gj.2<|kI Q (gg Q) Q oc Q<|go 2<|cf H ?_ ?_ <;> intro H
 ·
  exact WP.skip<|rg 3 0<|go 3<|bk ja (av (xc+1)) H
 refine sp ?_
 have H:=H.eR
 cases H.out; exact ek 1
theorem eG.c (h:eG.f k a0 a1=some r):Pt prog 148 [agg (aK.enc a0),vS a1] (vI r):=by
 refine pf func148 h fun R0 F H=>?_
 refine wr 2 1<|Dv.box Q T Q cA nofun fun ba=>go 1<|sr H id [] (fun _=>[]) (fun _=>[]) (fun pa H=>?_) (fun H=>?_)
 ·
  refine sp ?_
  cases H.out; exact ek 1
 refine so<|WP.block<|ws 1 [0] 0 ?_
 refine lq (fun j_ (pc:Int)=>eG.l0 k a0 a1 j_ pc) 0 H [1,2] (fun pc=>[(5,vI pc)]) (fun _=>[]) ?_
 rintro j_ xc H
 rcases j_ with _ | ja
 ·
  exact (aU.no H).elim
 try dsimp only at H
 rw [eG.l0] at H
 refine WP.seq<|wr 5 0<|gl 3 [0]<|Dv.fj Q T Q qI<|go 1<|cf H ?_ ?_ <;> intro H
 ·
  refine WP.exit ?_
  have H:=H.out
  exact jn (xc,decide (xc<(a0.fL.length:Int))) H
 refine WP.skip<|WP.seq<|WP.block<|wr 8 0<|gl 3 [0]<|gr H fun ga H=>Dv.fR Q T Q Q qI kL mL ga.1 ga.2<|fr Q T Q zO Q<|kI Q T Q oc Q<|go 2<|cf H ?_ ?_ <;> intro H
 ·
  exact WP.skip<|rg 3 0<|go 3<|bk ja (av (xc+1)) H
 refine sp ?_
 have H:=H.eR
 cases H.out; exact ek 1
theorem dS.c (h:dS.f k a0 a1=some r):Pt prog 91 [agg (aK.enc a0),agg (Event.enc a1)] (kZ [agg (aK.enc r.1),vI r.2]):=by
 refine pf func91 h fun R0 F H=>?_
 refine wr 4 7<|Dv.box Q T Q cA nofun fun ba=>Dv.box Q T Q cA nofun fun bc=>al Q T oK nofun fun bd=>go 1<|wr 3 0<|gl 1 [1]<|el H fun ta haa H=>cl Q (cL 147) Q (gR.c haa)<|go 1<|WP.seq<|wr 9 0<|gp 3 ?_
 cases cc:!ta
 rotate_left
 ·
  have H:=H.ct cc
  refine go 6<|WP.cond Q (fun _=>?_) nofun
  refine wr 3 2<|gl 1 [2]<|sy 0 ?_
  refine gq 1 ?_
  cases H.out; exact r3 i2 Q (.cons (au Q lO Q nV (aa 0 Q) Q) (.cons (aB Q) .nil))
 have H:=H.cf cc
 refine gl 6 [1,2]<|ce H ?_ ?_ <;> intro H
 ·
  refine wr 3 2<|gl 1 [2]<|sy 0 ?_
  refine gq 1 ?_
  cases H.out; exact r3 i2 Q (.cons (au Q lO Q nV (aa 0 Q) Q) (.cons (aB Q) .nil))
 refine WP.skip<|WP.seq<|wr 5 0<|gl 3 [2,1]<|el H fun tc hac H=>cl Q (cL 148) Q (eG.c hac)<|go 1<|ce H ?_ ?_ <;> intro H
 ·
  refine wr 3 2<|gl 1 [2]<|sy 0 ?_
  refine gq 1 ?_
  cases H.out; exact r3 i2 Q (.cons (au Q lO Q nV (aa 0 Q) Q) (.cons (aB Q) .nil))
 refine WP.skip<|sr H id [2,3,4] (fun _=>[]) (fun _=>[]) (fun pa H=>?_) (fun H=>?_)
 rotate_left
 ·
  refine so<|WP.block<|ws 3 [0,1,2] 0 ?_
  refine lq (fun j_ (pc:Int)=>dS.l0 k a0 a1 j_ pc) 0 H [2,3,4] (fun pc=>[(7,vI pc)]) (fun _=>[]) ?_
  rintro j_ xc H
  rcases j_ with _ | ja
  ·
   exact (aU.no H).elim
  try dsimp only at H
  rw [dS.l0] at H
  refine WP.seq<|wr 5 0<|gl 3 [1]<|Dv.fj Q T Q dj<|go 1<|cf H ?_ ?_ <;> intro H
  ·
   refine WP.exit ?_
   have H:=H.out
   exact jn (xc,decide (xc<(a1.ag.length:Int))) H
  refine WP.skip<|WP.seq<|WP.block<|wd mX 8 0<|gl 4 [2,1]<|gr H fun ga H=>Dv.fR Q T Q Q dj U9 c9 ga.1 ga.2<|kI Q T Q oc Q<|el H fun te had H=>cl Q (cL 148) Q (eG.c had)<|go 1<|cf H ?_ ?_ <;> intro H
  ·
   exact WP.skip<|rg 3 0<|go 3<|bk ja (av (xc+1)) H
  refine wr 3 2<|gl 1 [2]<|sy 0 ?_
  refine gq 1 ?_
  have H:=H.eR
  cases H.out; exact r3 i2 Q (.cons (au Q lO Q nV (aa 0 Q) Q) (.cons (aB Q) .nil))
 refine sr H id [2,3,4] (fun _=>[]) (fun _=>[]) (fun pe H=>?_) (fun H=>?_)
 ·
  refine so<|wr 5 8<|gl 3 [2]<|vg (dw Event.K none) fun _ _=>?_
  refine gr H fun gb H=>ap Event.K 0 a0.fL bF qI (.inr ⟨_,qI⟩) wB gb nofun fun va=>?_
  refine go 1<|wd mX 9 160<|gl 4 [3,2]<|Dv.lit Event.K ([a1]:List Event) (css:=[Event.enc a1]) Q T qI kL mL EP Q dc dc Q ⟨(aS (Event.K.one _)),T⟩ Q Q Q<|gr H fun gi H=>Dv.Fv (Kd:=Event.K) (jj:=0) (ys:=([a1]:List Event)) (fun vb:OV=>[own Event.K vb.1 ((([]:List Event)++a0.fL)++([a1]:List Event)),aC bd 113 [vS eE,dH],aC bc 110 (Event.enc a1),aC ba 113 (aK.enc a0)]++F) Q T Q Q Q bF qI (.inr ⟨_,qI⟩) wB Q dc gi Q pD (fun vb=>?_)
  refine Dv.kJ (qs:=[vS a0.ab,eq vb.1]) (css:=[[vS a0.ab],[eq vb.1]]) Q T lO GD BI Q ⟨(cells_one (ah Q)),⟨(cells_one bH),T⟩⟩ Q Q<|sv 1 ?_
  refine go 1<|fz 0 [4,5] [1] ?_
  cases H.out; exact r3 i2 Q (.cons (au Q lO Q nV (aa 0 Q) Q) (.cons (aB Q) .nil))
 refine sN [1]<|cf H ?_ ?_ <;> intro H
 ·
  refine WP.skip ?_
  have H:=H.out
  exact jn () H
 refine wr 5 0<|gl 3 [2,1]<|el H fun tg hae H=>cl Q (cL 148) Q (eG.c hae)<|go 1<|WP.seq<|so<|ce H ?_ ?_ <;> intro H
 ·
  refine wr 3 2<|gl 1 [2]<|sy 0 ?_
  refine gq 1 ?_
  have H:=H.eR
  cases H.out; exact r3 i2 Q (.cons (au Q lO Q nV (aa 0 Q) Q) (.cons (aB Q) .nil))
 refine WP.skip<|wr 16 0<|gl 3 [2]<|gr H fun gj H=>Dv.fR Q T Q Q qI kL mL gj.1 gj.2<|fr Q T Q yY Q<|kI Q T Q oc Q<|gp 2 ?_
 cases cg:!decide (((Event.K.at a0.fL tg).ae)=eE)
 rotate_left
 ·
  have H:=H.ct cg
  refine go 8<|WP.cond Q (fun _=>?_) nofun
  refine wr 3 2<|gl 1 [2]<|sy 0 ?_
  refine gq 1 ?_
  have H:=H.eR
  cases H.out; exact r3 i2 Q (.cons (au Q lO Q nV (aa 0 Q) Q) (.cons (aB Q) .nil))
 have H:=H.cf cg
 refine gl 3 [2]<|gr H fun gk H=>Dv.fR Q (gg Q) Q Q qI kL mL gk.1 gk.2<|fr Q (gg Q) Q zN Q<|kI Q (gg Q) Q Dj Q<|go 2<|cf H ?_ ?_ <;> intro H
 ·
  refine WP.skip ?_
  have H:=H.out
  exact jn () H
 refine wr 3 2<|gl 1 [2]<|sy 0 ?_
 refine gq 1 ?_
 have H:=H.eR
 cases H.out; exact r3 i2 Q (.cons (au Q lO Q nV (aa 0 Q) Q) (.cons (aB Q) .nil))
theorem eB.c (h:eB.f k a0 a1=some r):Pt prog 90 [agg (bA.enc a0),agg (Event.enc a1)] (kZ [agg (bA.enc r.1),vI r.2]):=by
 refine pf func90 h fun R0 F H=>?_
 refine wr 4 7<|Dv.box Q T Q cA nofun fun ba=>Dv.box Q T Q cA nofun fun bc=>al Q T JJ nofun fun bd=>go 1<|wd mX 12 1536<|gl 3 [2,1]<|el H fun ta haa H=>cl Q (cL 77) Q (iz.c haa)<|gl 1 [1]<|el H fun tc hac H=>cl Q (cL 91) Q (dS.c hac)<|go 1<|dV Q T Q Q<|dV Q T Q Q<|al Q T oK pD fun be=>sx 0 Q T Q Q cA sz113 Q Q Q pD ?_
 refine go 1<|WP.seq<|so<|ce H ?_ ?_ <;> intro H
 ·
  refine wr 4 4<|gl 2 [3]<|sy 1 ?_
  refine gq 1 ?_
  cases H.out; exact r4 i2 Q (.cons (au Q LG Q c33 (aa 1 Q) Q) (.cons (aB Q) .nil))
 refine WP.skip<|so<|so<|WP.jh H (fun qh:(Bool×Int×Bool×(List aK))×OV=>qh.1) (fun qh=>[(4,dR bd),(6,dR be),(8,eq qh.2.1),(9,vB qh.1.1)]) (fun qh=>[aC be 113 (aK.enc tc.1),aC bd 33 [dH],aC bc 110 (Event.enc a1),aC ba 33 (bA.enc a0),own aK.K qh.2.1 qh.1.2.2.2]++F) (fun qh H=>?_) (fun H=>?_)
 ·
  obtain ⟨pa,va⟩:=qh
  refine WP.seq<|so<|cf H ?_ ?_ <;> intro H
  ·
   refine WP.skip<|wr 4 4<|go 1<|Dv.kJ (qs:=[eq va.1]) (css:=[[eq va.1]]) Q T LG pl33 z33 Q ⟨(cells_one bH),T⟩ Q Q<|sy 1 ?_
   refine go 1<|fz 4 [4,5] [0,1] ?_
   cases H.out; exact r4 i2 Q (.cons (au Q LG Q c33 (aa 1 Q) Q) (.cons (aB Q) .nil))
  refine rg 5 8<|gl 2 [0]<|Dv.lit aK.K ([tc.1]:List aK) (css:=[aK.enc tc.1]) Q T yE lO nV BI Q dc dc Q ⟨(aS (aK.K.one _)),T⟩ Q Q Q<|gr H fun ga H=>ap aK.K 4 ([tc.1]:List aK) bF yE (.inr ⟨_,yE⟩) BB ga nofun fun vb=>?_
  refine go 1<|wr 4 4<|go 1<|Dv.kJ (qs:=[eq vb.1]) (css:=[[eq vb.1]]) Q T LG pl33 z33 Q ⟨(cells_one bH),T⟩ Q Q<|sy 1 ?_
  refine go 1<|fz 4 [4,5] [0,1] ?_
  cases H.out; exact r4 i2 Q (.cons (au Q LG Q c33 (aa 1 Q) Q) (.cons (aB Q) .nil))
 refine so<|WP.block<|wg (dw aK.K none) fun _ _=>?_
 refine ws 5 [1,2,3,4,0] 0 ?_
 refine lq (fun j_ (pc:Bool×Int×(List aK)×OV)=>eB.l0 k a0 a1 tc j_ pc.1 pc.2.1 pc.2.2.1) (false,0,([]:List aK),jS) H [2,3,4,6] (fun pc=>[(8,eq pc.2.2.2.1),(9,vB pc.1),(10,vI pc.2.1)]) (fun pc=>[(4,own aK.K pc.2.2.2.1 pc.2.2.1)]) ?_
 rintro j_ ⟨xc,xd,xe,vd⟩ H
 rcases j_ with _ | ja
 ·
  exact (aU.no H).elim
 try dsimp only at H
 rw [eB.l0] at H
 refine WP.seq<|wr 5 0<|gl 3 [3]<|Dv.fj Q T Q yE<|go 1<|cf H ?_ ?_ <;> intro H
 ·
  refine WP.exit ?_
  have H:=H.out
  exact jn ((xc,xd,decide (xd<(a0.fD.length:Int)),xe),vd) H
 refine WP.skip<|WP.seq<|WP.block<|WP.jh H (fun qi:(Bool×Bool×(List aK))×OV=>qi.1) (fun qi=>[(2,dR ba),(3,dR bc),(4,dR bd),(6,dR be),(8,eq qi.2.1),(9,vB qi.1.1),(10,vI xd)]) (fun qi=>[aC be 113 (aK.enc tc.1),aC bd 33 [dH],aC bc 110 (Event.enc a1),aC ba 33 (bA.enc a0),own aK.K qi.2.1 qi.1.2.2]++F) (fun qi H=>?_) (fun H=>?_)
 ·
  obtain ⟨pe,ve⟩:=qi
  refine wd mX 9 0<|gl 3 [3]<|gr H fun gb H=>Dv.fR Q T Q Q yE lO nV gb.1 gb.2<|fr Q T Q uL Q<|kI Q T Q oc Q<|gl 3 [2]<|cf H ?_ ?_ <;> intro H
  ·
   exact WP.skip<|rg 3 0<|go 3<|bk ja (pe.1,av (xd+1),pe.2.2,ve) H
  refine rg 9 128<|gl 4 [3]<|gr H fun gi H=>Dv.fR Q T Q Q yE lO nV gi.1 gi.2<|iv Q T Q Hl Q<|Dv.lit aK.K ([aK.K.at a0.fD xd]:List aK) (css:=[aK.enc (aK.K.at a0.fD xd)]) Q T yE lO nV BI Q dc dc Q ⟨(aS (aK.K.one _)),T⟩ Q Q Q<|gr H fun gj H=>ap aK.K 4 ([aK.K.at a0.fD xd]:List aK) bF yE (.inr ⟨_,yE⟩) BB gj nofun fun vh=>?_
  exact go 1<|rg 3 0<|go 3<|bk ja (pe.1,av (xd+1),pe.2.2++([aK.K.at a0.fD xd]:List aK),vh) H
 refine wd mX 13 0<|gp 3 ?_
 cases cc:!xc
 ·
  have H:=H.cf cc
  refine go 10<|WP.cond Q nofun (fun _=>?_)
  refine WP.skip ?_
  have H:=H.out
  exact jn ((xc,false,xe),vd) H
 have H:=H.ct cc
 refine gl 5 [2,3]<|gr H fun gk H=>Dv.fR Q (gg Q) Q Q yE lO nV gk.1 gk.2<|fr Q (gg Q) Q uL Q<|kI Q (gg Q) Q oc Q<|go 2<|cf H ?_ ?_ <;> intro H
 ·
  refine WP.skip ?_
  have H:=H.out
  exact jn ((xc,!dJ ((aK.K.at a0.fD xd).ab) a1.ab,xe),vd) H
 refine wr 5 8<|gl 2 [0]<|Dv.lit aK.K ([tc.1]:List aK) (css:=[aK.enc tc.1]) Q T yE lO nV BI Q dc dc Q ⟨(aS (aK.K.one _)),T⟩ Q Q Q<|gr H fun gm H=>ap aK.K 4 ([tc.1]:List aK) bF yE (.inr ⟨_,yE⟩) BB gm nofun fun vi=>?_
 refine go 1<|rg 1 0<|gq 1 ?_
 have H:=H.out
 exact jn ((true,!dJ ((aK.K.at a0.fD xd).ab) a1.ab,xe++([tc.1]:List aK)),vi) H
theorem gZ.c (h:gZ.f k a0=some r):Pt prog 36 [sl Event.K a0] (agg (bA.enc r)):=by
 refine pf func36 h fun R0 F H=>?_
 refine wr 1 1<|al Q T JJ nofun fun ba=>.fin<|wr 1 1<|al Q T JJ nofun fun bc=>.fin<|sq H id [2,3] (fun _=>[]) (fun pa=>[(0,aC bc 33 [sl aK.K pa.2.2])]) (fun pa H=>?_) (fun H=>?_)
 ·
  refine wr 2 2<|gl 1 [0]<|sy 1 ?_
  refine .fin ?_
  cases H.out; exact r2 i2 Q (.cons (au Q LG Q c33 (aa 1 Q) Q) .nil)
 refine so<|WP.block<|WP.gh (GF (E':=[(0,sl Event.K a0),(2,dR ba),(3,dR bc),(4,vI 0)]) (l':=[aC bc 33 [sl aK.K ([]:List aK)],aC ba 33 [dH]]++F) (fx Q bQ (fx Q bQ (fx Q bQ (fx Q bQ zS)))) (fW (.cons (CF (.cons cR .nil)) (.cons mr .nil)) fun _=>mr)) (fun _ _=>?_)
 refine ws 2 [0,1] 0 ?_
 refine lq (fun j_ (pc:Int×(List aK))=>gZ.l0 k a0 j_ pc.1 pc.2) (0,([]:List aK)) H [0,2,3] (fun pc=>[(4,vI pc.1)]) (fun pc=>[(0,aC bc 33 [sl aK.K pc.2])]) ?_
 rintro j_ ⟨xc,xd⟩ H
 rcases j_ with _ | ja
 ·
  exact (aU.no H).elim
 try dsimp only at H
 rw [gZ.l0] at H
 refine WP.seq<|wr 4 0<|go 2<|Dv.fj Q T Q qI<|go 1<|cf H ?_ ?_ <;> intro H
 ·
  refine WP.exit ?_
  have H:=H.out
  exact jn (xc,decide (xc<(a0.length:Int)),xd) H
 refine WP.skip<|WP.seq<|WP.block<|wd mX 12 1536<|gl 3 [0]<|gr H fun ga H=>Dv.fR Q T Q Q qI kL mL ga.1 ga.2<|iv Q T Q FX Q<|el H fun ta haa H=>cl Q (cL 90) Q (eB.c haa)<|go 1<|dV Q T Q Q<|dV Q T Q Q<|al Q T JJ pD fun bd=>sx 0 Q T Q Q cA sz33 Q Q Q pD ?_
 refine go 1<|rg 2 2<|gl 1 [0]<|sy 1 ?_
 refine .fin<|rg 3 0<|go 3<|ns 3 [0,1,2] 1 ?_
 exact bk ja (av (xc+1),ta.1.fD) H
theorem gG.c (h:gG.f k a0 a1=some r):Tr prog 8 [sl Event.K a0,vI a1] [] (γ:=OV×OV×OV×OV×OV) (fun _=>True) (fun g=>kZ [agg [eq g.1.1,eq g.2.1.1,eq g.2.2.1.1,eq g.2.2.2.1.1,eq g.2.2.2.2.1],agg (dy.enc r.2.1),vB r.2.2]) (fun g=>[aJ.O g.1 r.1.cI,jA.O g.2.1 r.1.ay,bS.O g.2.2.1 r.1.aO,b7.O g.2.2.2.1 r.1.aR,b8.O g.2.2.2.2 r.1.fZ]):=by
 refine tf func8 h fun R0 F H=>?_
 refine wr 3 3<|al Q T KY nofun fun ba=>al Q T F4 nofun fun bc=>go 1<|wr 6 1<|el H fun ta haa H=>cx 2 [0,1] (cL 30) (oB.c haa) nofun fun ga _=>?_
 refine go 1<|dV Q T Q Q<|dV Q T Q Q<|go 2<|wr 9 8<|go 3<|el H fun tc hac H=>cx 3 [0,1,2] (cL 31) (nC.c hac) nofun fun gb _=>?_
 refine go 1<|dV Q T Q Q<|dV Q T Q Q<|go 2<|wr 8 205<|el H fun te had H=>cx 4 [0,1,2,3] (cL 32) (sC.c had) nofun fun gi _=>?_
 refine go 1<|el H fun tg hae H=>cx 5 [0,1,2,3,4] (cL 33) (nE.c hae) nofun fun gj _=>?_
 refine el H fun tj haf H=>cx 6 [0,1,2,3,4,5] (cL 34) (lP.c haf) nofun fun gk _=>?_
 refine go 1<|gr H fun gm H=>vg (sw 4 Q (isN gm)) fun _ _=>?_
 refine gr H fun gn H=>vg (sw 4 Q (isN gn)) fun _ _=>?_
 refine Dv.kJ (qs:=[eq gi.1,eq ga.1,eq gj.1,eq gk.1,eq gb.1]) (css:=[[eq gi.1],[eq ga.1],[eq gj.1],[eq gk.1],[eq gb.1]]) Q T LR pl30 z30 Q ⟨(cells_one bH),⟨(cells_one bH),⟨(cells_one bH),⟨(cells_one bH),⟨(cells_one bH),T⟩⟩⟩⟩⟩ Q Q<|al Q T KY nofun fun bd=>sy 0 ?_
 refine .fin<|WP.seq<|wr 31 0<|gl 2 [0]<|Dv.Fw aJ.nn Q T Q Q U24 (aa 5 Q)<|gl 3 [0]<|Dv.Fw jA.nn Q (gg Q) Q Q U25 (aa 2 Q)<|gl 4 [0]<|Dv.Fw bS.nn Q (gg Q) Q Q U26 (aa 4 Q)<|gl 4 [0]<|Dv.Fw b7.nn Q (gg Q) Q Q U27 (aa 3 Q)<|gl 4 [0]<|Dv.Fw b8.nn Q (gg Q) Q Q U28 (aa 1 Q)<|gp 6 ?_
 rcases bm H with ⟨cc,H⟩ | ⟨cc,H⟩
 rotate_left
 ·
  refine sh 55 cc ?_
  refine sh 56 cc ?_
  refine sh 57 cc ?_
  refine go 3<|WP.cond Q (fun _=>?_) nofun
  refine wr 5 12<|gl 1 [0]<|Dv.kJ (qs:=[dH,dH,dH,dH,dH,dH,dH,vI 0]) (css:=[]) Q T B4 Jb z43 Q T Q Q<|sy 7 ?_
  refine sy 6 ?_
  refine gq 1 ?_
  obtain rfl:=aU.out H
  exact rt i2 Q (gi,ga,gj,gk,gb) 8 [0,6,7,5,2,4,3,1] 3 (.cons (au Q LR Q c30 (aa 7 Q) Q) (.cons (nW (au Q B4 Q Gg (aa 6 Q) Q) (mV (.cons cR (.cons cR (.cons cR (.cons cR (.cons cR (.cons cR (.cons cR (.cons bQ .nil)))))))))) (.cons (aB Q) .nil)))
 refine sh 55 cc ?_
 refine sh 56 cc ?_
 refine sh 57 cc ?_
 refine go 3<|ce H ?_ ?_ <;> intro H
 ·
  refine wr 5 12<|gl 1 [0]<|Dv.kJ (qs:=[dH,dH,dH,dH,dH,dH,dH,vI 0]) (css:=[]) Q T B4 Jb z43 Q T Q Q<|sy 7 ?_
  refine sy 6 ?_
  refine gq 1 ?_
  obtain rfl:=aU.out H
  exact rt i2 Q (gi,ga,gj,gk,gb) 8 [0,6,7,5,2,4,3,1] 3 (.cons (au Q LR Q c30 (aa 7 Q) Q) (.cons (nW (au Q B4 Q Gg (aa 6 Q) Q) (mV (.cons cR (.cons cR (.cons cR (.cons cR (.cons cR (.cons cR (.cons cR (.cons bQ .nil)))))))))) (.cons (aB Q) .nil)))
 refine WP.skip<|WP.sT H id (fun pa=>[(0,sl Event.K a0),(1,vI a1),(4,dR ba),(5,dR bc),(11,dR bd)]) (fun pa=>[aC bd 30 [eq gi.1,eq ga.1,eq gj.1,eq gk.1,eq gb.1],aC bc 43 [dH,dH,dH,dH,dH,dH,dH,vI 0],aC ba 30 [eq (.pointer none),eq (.pointer none),eq (.pointer none),eq (.pointer none),eq (.pointer none)],b8.O gb (tc.1.getD default),jA.O ga (ta.1.getD default),b7.O gk tj,bS.O gj tg,aJ.O gi pa.2.2]++F) (fun pa H=>?_) (fun H=>?_)
 ·
  refine wd mX 8 96<|gl 2 [0]<|el H fun tm hag H=>cl Q (cL 36) Q (gZ.c hag)<|go 1<|Dv.kJ (qs:=[sl aK.K tm.fD,dH,dH,dH,dH,dH,dH,vI a1]) (css:=[bA.enc tm,[vI a1]]) Q T B4 Jb z43 Q ⟨(aS (bA.K.one _)),⟨(cells_one (ah Q)),T⟩⟩ Q Q<|sx 2 Q T Q Q cA sz30 Q Q Q pD ?_
  refine sv 1 ?_
  refine gq 1 ?_
  obtain rfl:=aU.out H
  exact rt i2 Q (gi,ga,gj,gk,gb) 8 [0,1,2,7,4,6,5,3] 3 (.cons (au Q LR Q c30 (aa 2 Q) Q) (.cons (nW (au Q B4 Q Gg (aa 1 Q) Q) (mV (.cons bQ (.cons cR (.cons cR (.cons cR (.cons cR (.cons cR (.cons cR (.cons bQ .nil)))))))))) (.cons (aB Q) .nil)))
 refine so<|WP.block<|ws 8 [0,6,7,1,2,3,4,5] 0 ?_
 refine lq (fun j_ (pc:Int×aJ)=>gG.l0 k a0 ta tc tg tj j_ pc.1 pc.2) (0,te) H [0,1,4,5,11] (fun pc=>[(12,vI pc.1)]) (fun pc=>[(7,aJ.O gi pc.2)]) ?_
 rintro j_ ⟨xc,xd⟩ H
 rcases j_ with _ | ja
 ·
  exact (aU.no H).elim
 try dsimp only at H
 rw [gG.l0] at H
 refine WP.seq<|wr 4 0<|go 2<|Dv.fj Q T Q qI<|go 1<|cf H ?_ ?_ <;> intro H
 ·
  refine WP.exit ?_
  have H:=H.out
  exact jn (xc,decide (xc<(a0.length:Int)),xd) H
 refine WP.skip<|WP.seq<|WP.block<|wd mX 8 64<|gl 4 [0]<|gr H fun gu H=>Dv.fR Q T Q Q qI kL mL gu.1 gu.2<|iv Q T Q FX Q<|el H fun tn hah H=>cx 8 [7,0,1,2,3,4,5,6] (cL 35) (iW.c hah (p0_:=gi)) pC fun _ _=>?_
 refine go 1<|cf H ?_ ?_ <;> intro H
 ·
  refine WP.skip<|rg 3 0<|go 3<|ns 8 [1,2,3,4,5,6,7,0] 0 ?_
  exact bk ja (av (xc+1),tn.2) H
 refine wr 5 12<|gl 1 [1]<|Dv.kJ (qs:=[dH,dH,dH,dH,dH,dH,dH,vI 0]) (css:=[]) Q T B4 Jb z43 Q T Q Q<|sy 3 ?_
 refine sy 2 ?_
 refine gq 1 ?_
 have H:=H.eR
 obtain rfl:=aU.out H
 exact rt i2 Q (gi,ga,gj,gk,gb) 8 [1,2,3,0,5,7,6,4] 3 (.cons (au Q LR Q c30 (aa 3 Q) Q) (.cons (nW (au Q B4 Q Gg (aa 2 Q) Q) (mV (.cons cR (.cons cR (.cons cR (.cons cR (.cons cR (.cons cR (.cons cR (.cons bQ .nil)))))))))) (.cons (aB Q) .nil)))
theorem br.c (h:br.f a0 a1=some r):Pt prog 10 [vI a0,vI a1] (vI r):=by
 refine pf func10 h fun R0 F H=>?_
 refine so<|WP.seq<|so<|cf H ?_ ?_ <;> intro H
 ·
  refine WP.skip<|wr 4 0<|go 2<|gr H fun ga H=>ot Q Q Q (rh ga)<|gq 1 ?_
  cases H.out; exact ek 0
 refine rg 4 0<|go 4<|wr 4 0<|go 2<|gr H fun gb H=>ot Q Q Q (rh gb)<|gq 1 ?_
 cases H.out; exact ek 0
theorem fc.c (h:fc.f a0=some r):Pt prog 18 [vI a0] (vS r):=by
 refine pf func18 h fun R0 F H=>?_
 refine so<|wr 6 0<|Dv.lit aw ([(⟨#[33,114,58,115,49]⟩:BA),(⟨#[33,113,58,115,50]⟩:BA)]:List BA) (css:=[[vS (⟨#[33,114,58,115,49]⟩:BA)],[vS (⟨#[33,113,58,115,50]⟩:BA)]]) Q T dj U9 c9 z9 Q dc dc Q ⟨(cells_one (ah Q)),⟨(cells_one (ah Q)),T⟩⟩ Q Q Q<|go 1<|el H fun ta haa H=>cl Q (cL 10) Q (br.c haa)<|gr H fun ga H=>Dv.fR Q T Q Q dj U9 c9 ga.1 ga.2<|kI Q T Q oc Q<|gq 1 ?_
 cases H.out; exact ek 0
theorem nh.c (h:nh.f a0=some r):Pt prog 52 [vI a0] (vS r):=by
 refine pf func52 h fun R0 F H=>?_
 refine so<|wr 6 0<|Dv.lit aw ([(⟨#[115,49]⟩:BA),(⟨#[115,50]⟩:BA),(⟨#[115,51]⟩:BA)]:List BA) (css:=[[vS (⟨#[115,49]⟩:BA)],[vS (⟨#[115,50]⟩:BA)],[vS (⟨#[115,51]⟩:BA)]]) Q T dj U9 c9 z9 Q dc dc Q ⟨(cells_one (ah Q)),⟨(cells_one (ah Q)),⟨(cells_one (ah Q)),T⟩⟩⟩ Q Q Q<|go 1<|el H fun ta haa H=>cl Q (cL 10) Q (br.c haa)<|gr H fun ga H=>Dv.fR Q T Q Q dj U9 c9 ga.1 ga.2<|kI Q T Q oc Q<|gq 1 ?_
 cases H.out; exact ek 0
theorem il.c (h:il.f a0=some r):Pt prog 13 [vI a0] (vS r):=by
 refine pf func13 h fun R0 F H=>?_
 refine so<|wr 3 0<|go 1<|el H fun ta haa H=>cl Q (cL 10) Q (br.c haa)<|go 1<|wd mX 10 0<|Dv.lit aw ([(⟨#[64,97,58]⟩:BA),(⟨#[64,98,58]⟩:BA),(⟨#[64,99,58]⟩:BA)]:List BA) (css:=[[vS (⟨#[64,97,58]⟩:BA)],[vS (⟨#[64,98,58]⟩:BA)],[vS (⟨#[64,99,58]⟩:BA)]]) Q T dj U9 c9 z9 Q dc dc Q ⟨(cells_one (ah Q)),⟨(cells_one (ah Q)),⟨(cells_one (ah Q)),T⟩⟩⟩ Q Q Q<|go 1<|ot Q Q Q (oa dc)<|gr H fun ga H=>Dv.fR Q T Q Q dj U9 c9 ga.1 ga.2<|kI Q T Q oc Q<|go 1<|ot Q Q Q (rh dc)<|el H fun tc hac H=>cl Q (cL 52) Q (nh.c hac)<|gr H fun gb H=>ot Q Q Q (iQ gb)<|gq 1 ?_
 cases H.out; exact ek 0
theorem iP.c:∀ (k:Nat) {a0:Int} {r:BA} (h:iP.f k a0=some r),Pt prog 117 [vI a0] (vS r)
  | 0,_,_,h=>by cases h
  | k+1,a0,r,h=>by
    rw [iP.f] at h
    refine pb func117 ntmps117 h fun R0 F H=>?_
    refine so<|wr 3 0<|go 1<|ot Q Q Q (rh dc)<|go 1<|sq H id [0] (fun pa=>[(3,vI pa)]) (fun _=>[]) (fun pa H=>?_) (fun H=>?_)
    rotate_left
    ·
     refine so<|cf H ?_ ?_ <;> intro H
     ·
      refine WP.skip ?_
      have H:=H.out
      exact jn (a0.tmod 10) H
     refine rg 3 0<|gq 3 ?_
     have H:=H.out
     exact jn (av (0-(a0.tmod 10))) H
    refine wr 6 0<|go 2<|Dv.JA Q T Q U3 U5<|Dv.lit (bz .u8) ([IntKind.u8.wrap (av (48+pa))]:List Int) (css:=[[eq (.int .u8 (IntKind.u8.wrap (av (48+pa))))]]) Q T jL U5 c5 z5 Q dc dc Q ⟨(cells_one (ah Q)),T⟩ Q Q Q<|Dv.Lo Q T Q jL U5 U9<|go 1<|WP.seq<|wr 6 0<|gp 3 ?_
    cases cc:decide ((-10)<a0)
    ·
     have H:=H.cf cc
     refine go 3<|WP.cond Q nofun (fun _=>?_)
     refine WP.skip<|wr 6 0<|go 1<|ot Q Q Q (oa dc)<|el H fun ta haa H=>cl Q (cL 117) Q (iP.c k haa)<|go 1<|gr H fun ga H=>ot Q Q Q (iQ ga)<|gq 1 ?_
     cases H.out; exact ek 0
    have H:=H.ct cc
    refine go 3<|cf H ?_ ?_ <;> intro H
    ·
     refine WP.skip<|wr 6 0<|go 1<|ot Q Q Q (oa dc)<|el H fun tc hac H=>cl Q (cL 117) Q (iP.c k hac)<|go 1<|gr H fun gb H=>ot Q Q Q (iQ gb)<|gq 1 ?_
     cases H.out; exact ek 0
    refine WP.seq<|so<|cf H ?_ ?_ <;> intro H
    ·
     refine WP.skip<|sp ?_
     cases H.out; exact ek 0
    refine wr 3 0<|go 1<|gr H fun gi H=>ot Q Q Q (iQ gi)<|gq 1 ?_
    cases H.out; exact ek 0
theorem dp.c (h:dp.f k a0=some r):Pt prog 50 [vI a0] (vS r):=by
 refine pf func50 h fun R0 F H=>?_
 refine so<|wr 5 0<|go 1<|el H fun ta haa H=>cl Q (cL 10) Q (br.c haa)<|el H fun tc hac H=>cl Q (cL 117) Q (iP.c _ hac)<|gr H fun ga H=>ot Q Q Q (iQ ga)<|gq 1 ?_
 cases H.out; exact ek 0
theorem bM.c (h:bM.f k a0 a1=some r):Pt prog 37 [vS a0,sl dA.K a1] (agg (aK.enc r)):=by
 refine pf func37 h fun R0 F H=>?_
 refine wr 1 1<|al Q T oK nofun fun ba=>.fin<|wr 4 12<|go 1<|Dv.kJ (qs:=[vS a0,dH]) (css:=[[vS a0]]) Q T lO GD BI Q ⟨(cells_one (ah Q)),T⟩ Q Q<|al Q T oK nofun fun bc=>sy 0 ?_
 refine .fin<|WP.jh H id (fun pa=>[(4,dR ba),(5,dR bc)]) (fun pa=>[aC bc 113 [vS pa.2.2.1,sl Event.K pa.2.2.2],aC ba 113 [vS eE,dH]]++F) (fun pa H=>?_) (fun H=>?_)
 ·
  refine wr 2 2<|gl 1 [0]<|sy 1 ?_
  refine .fin ?_
  cases H.out; exact r2 i2 Q (.cons (au Q lO Q nV (aa 1 Q) Q) .nil)
 refine so<|WP.block<|WP.gh (GF (E':=[(0,vS a0),(1,sl dA.K a1),(4,dR ba),(5,dR bc),(6,vI 0)]) (l':=[aC bc 113 [vS a0,sl Event.K ([]:List Event)],aC ba 113 [vS eE,dH]]++F) (fx Q bQ (fx Q bQ (fx Q bQ (fx Q bQ (fx Q bQ zS))))) (fW (.cons (CF (.cons bQ (.cons cR .nil))) (.cons mr .nil)) fun _=>mr)) (fun _ _=>?_)
 refine ws 2 [0,1] 0 ?_
 refine lq (fun j_ (pc:Int×BA×(List Event))=>bM.l0 k a0 a1 j_ pc.1 pc.2.1 pc.2.2) (0,a0,([]:List Event)) H [0,1,4,5] (fun pc=>[(6,vI pc.1)]) (fun pc=>[(0,aC bc 113 [vS pc.2.1,sl Event.K pc.2.2])]) ?_
 rintro j_ ⟨xc,xd,xe⟩ H
 rcases j_ with _ | ja
 ·
  exact (aU.no H).elim
 try dsimp only at H
 rw [bM.l0] at H
 refine WP.seq<|wr 8 0<|go 2<|Dv.fj Q T Q LY<|gp 2 ?_
 cases cc:decide (xc<(a1.length:Int))
 ·
  have H:=H.cf cc
  refine go 3<|WP.cond Q nofun (fun _=>?_)
  refine WP.exit ?_
  have H:=H.out
  exact jn (xc,false,xd,xe) H
 have H:=H.ct cc
 refine go 3<|cf H ?_ ?_ <;> intro H
 ·
  refine WP.exit ?_
  have H:=H.out
  exact jn (xc,decide (xc<9),xd,xe) H
 refine WP.skip<|WP.jh H (fun qh:(Int×Int×Bool×Bool×Bool×BA×(List Event)×(List Bool))×OV=>qh.1) (fun qh=>[(0,vS a0),(1,sl dA.K a1),(4,dR ba),(5,dR bc),(6,vI xc)]) (fun qh=>[aC bc 113 [vS qh.1.2.2.2.2.2.1,sl Event.K qh.1.2.2.2.2.2.2.1],aC ba 113 [vS eE,dH],own bJ qh.2.1 qh.1.2.2.2.2.2.2.2]++F) (fun qh H=>?_) (fun H=>?_)
 ·
  obtain ⟨pe,va⟩:=qh
  refine rg 3 0<|go 3<|ns 3 [2,0,1] 1 ?_
  exact bk ja (av (xc+1),pe.2.2.2.2.2.1,pe.2.2.2.2.2.2.1) H
 refine WP.block<|wd mX 18 196608<|go 1<|el H fun ta haa H=>cl Q (cL 50) Q (dp.c haa)<|go 3<|gr H fun ga H=>Dv.fR Q T Q Q LY yz AS ga.1 ga.2<|fr Q T Q HF Q<|kI Q T Q Dj Q<|el H fun tc hac H=>cl Q (cL 13) Q (il.c hac)<|go 2<|gr H fun gb H=>Dv.fR Q T Q Q LY yz AS gb.1 gb.2<|fr Q T Q Ja Q<|kI Q T Q Dj Q<|el H fun te had H=>cl Q (cL 10) Q (br.c had)<|Dv.kJ (qs:=[vS ta,vS a0,dH,vS eE,vS tc,vI te]) (css:=[[vS ta],[vS a0],[vS tc],[vI te]]) Q T kL E5 EP Q ⟨(cells_one (ah Q)),⟨(cells_one (ah Q)),⟨(cells_one (ah Q)),⟨(cells_one (ah Q)),T⟩⟩⟩⟩ Q Q<|al Q T uP pD fun bd=>sv 0 ?_
 refine .fin<|wr 2 1<|gr H fun gi H=>?_
 obtain ⟨ti623,ti623a,ti623b,ti623c,ti623d⟩:=AH
 refine Dv.EI (Kd:=bJ) (false:Bool) Q T Q Q rl ti623a ti623b ti623c ti623d Q dc Q gi nofun (fun vb=>?_)
 refine go 1<|WP.jh H id (fun pg=>[(0,vS a0),(1,sl dA.K a1),(4,dR ba),(5,dR bc),(6,vI xc),(7,dR bd),(8,eq vb.1)]) (fun pg=>[aC bd 110 [vS ta,vS a0,dH,vS eE,vS tc,vI te],aC bc 113 [vS xd,sl Event.K xe],aC ba 113 [vS eE,dH],own bJ vb.1 pg.2.2]++F) (fun pg H=>?_) (fun H=>?_)
 rotate_left
 ·
  refine so<|WP.block<|ws 4 [1,2,3,0] 0 ?_
  refine lq (fun j_ (ph:Int×(List Bool))=>bM.l2 k a1 xc j_ ph.1 ph.2) (0,List.replicate (9:Int).toNat (false:Bool)) H [0,1,4,5,6,7,8] (fun ph=>[(9,vI ph.1)]) (fun ph=>[(3,own bJ vb.1 ph.2)]) ?_
  rintro j_ ⟨xf,xg⟩ H
  rcases j_ with _ | jc
  ·
   exact (aU.no H).elim
  try dsimp only at H
  rw [bM.l2] at H
  refine WP.seq<|wr 16 0<|go 3<|gr H fun gj H=>Dv.fR Q T Q Q LY yz AS gj.1 gj.2<|fr Q T Q C2 Q<|kI Q T Q sc38 Q<|Dv.fj Q T Q rP<|gp 2 ?_
  cases cg:decide (xf<(((dA.K.at a1 xc).ag).length:Int))
  ·
   have H:=H.cf cg
   refine go 7<|WP.cond Q nofun (fun _=>?_)
   refine WP.exit ?_
   have H:=H.out
   exact jn (xf,false,xg) H
  have H:=H.ct cg
  refine gp 4 ?_
  cases ci:decide (xf<3)
  ·
   have H:=H.cf ci
   refine go 3<|WP.cond Q nofun (fun _=>?_)
   refine WP.exit ?_
   have H:=H.out
   exact jn (xf,false,xg) H
  have H:=H.ct ci
  refine go 3<|cf H ?_ ?_ <;> intro H
  ·
   refine WP.exit ?_
   have H:=H.out
   exact jn (xf,decide (0<xc),xg) H
  refine WP.skip<|WP.seq<|WP.block<|rg 13 4096<|go 3<|gr H fun gk H=>Dv.fR Q T Q Q LY yz AS gk.1 gk.2<|fr Q T Q C2 Q<|kI Q T Q sc38 Q<|go 1<|gr H fun gm H=>Dv.fR Q T Q Q rP U3 c3 gm.1 gm.2<|kI Q T Q Dj Q<|go 1<|el H fun tg hae H=>cl Q (cL 10) Q (br.c hae)<|gr H fun gn H=>?_
  have haf:tg.toNat<xg.length:=bq gn
  exact Dv.jQ Q T Q (aa 3 Q) Q rl U4 c4 gn.1 gn.2<|Dv.Jg (j:=tg.toNat) (f:=0) (jj:=3) true Q T Q Q (cells_one (ah Q)) U4 c4 Q Q haf (Nat.le_of_ble_eq_true Q) Q nofun<|.fin<|rg 3 0<|go 3<|bk jc (av (xf+1),xg.set tg.toNat true) H
 refine WP.jh H (fun qi:(Int×Bool×(List BA))×OV=>qi.1) (fun qi=>[(0,vS a0),(1,sl dA.K a1),(4,dR ba),(5,dR bc),(6,vI xc),(7,dR bd)]) (fun qi=>[aC bd 110 [vS ta,vS a0,eq qi.2.1,vS eE,vS tc,vI te],aC bc 113 [vS xd,sl Event.K xe],aC ba 113 [vS eE,dH],own bJ vb.1 pg.2.2,own aw qi.2.1 qi.1.2.2]++F) (fun qi H=>?_) (fun H=>?_)
 rotate_left
 ·
  refine so<|WP.block<|wg (dw aw none) fun _ _=>?_
  refine ws 5 [1,2,3,4,0] 0 ?_
  refine lq (fun j_ (pi:Int×(List BA)×OV)=>bM.l1 k xc pg j_ pi.1 pi.2.1) (0,([]:List BA),jS) H [0,1,4,5,6,7,8] (fun pi=>[(10,vI pi.1)]) (fun pi=>[(0,aC bd 110 [vS ta,vS a0,eq pi.2.2.1,vS eE,vS tc,vI te]),(4,own aw pi.2.2.1 pi.2.1)]) ?_
  rintro j_ ⟨xi,xj,vd⟩ H
  rcases j_ with _ | jd
  ·
   exact (aU.no H).elim
  try dsimp only at H
  rw [bM.l1] at H
  refine WP.seq<|so<|cf H ?_ ?_ <;> intro H
  ·
   refine WP.exit ?_
   have H:=H.out
   exact jn ((xi,decide (xi<xc),xj),vd) H
  refine WP.skip<|WP.seq<|WP.block<|wr 4 0<|go 2<|gr H fun gu H=>?_
  have hag:xi.toNat<pg.2.2.length:=bq gu
  refine Dv.jQ Q T Q (aa 3 Q) Q rl U4 c4 gu.1 gu.2<|Dv.na (j:=xi.toNat) (f:=0) (p:=vB (pg.2.2.getD xi.toNat default)) Q T Q (aa 3 Q) hag U4 Q Q<|.fin<|cf H ?_ ?_ <;> intro H
  ·
   exact WP.skip<|rg 3 0<|go 3<|bk jd (av (xi+1),xj,vd) H
  refine dg mX 8 160<|gl 3 [0]<|el H fun tj hah H=>cl Q (cL 50) Q (dp.c hah)<|Dv.lit aw ([tj]:List BA) (css:=[[vS tj]]) Q T dj U9 c9 z9 Q dc dc Q ⟨(cells_one (ah Q)),T⟩ Q Q Q<|gr H fun gv H=>ap aw 4 ([tj]:List BA) bF dj (.inr ⟨_,dj⟩) rM gv pB fun ve=>?_
  refine go 1<|sx 0 Q T Q Q (cells_one bH) IY Q Q Q pB ?_
  exact .fin<|rg 3 0<|go 3<|bk jd (av (xi+1),xj++([tj]:List BA),ve) H
 obtain ⟨pj,vh⟩:=qi
 refine WP.seq<|wr 7 0<|kX 4 [0] ?_
 cases cj:(te==0)
 ·
  have H:=H.cf cj
  refine go 3<|WP.cond Q nofun (fun _=>?_)
  refine WP.skip<|wr 9 192<|gl 2 [1,0]<|Dv.gh (ou (E':=[(0,vS a0),(1,sl dA.K a1),(4,dR ba),(5,dR bc),(6,vI xc),(7,dR bd),(95,vB false),(129,agg [vS xd,sl Event.K xe]),(130,agg [vS ta,vS a0,sl aw pj.2.2,vS eE,vS tc,vI te])]) (l':=[aC bd 110 [vS ta,vS a0,sl aw pj.2.2,vS eE,vS tc,vI te],aC bc 113 [vS xd,sl Event.K xe],aC ba 113 [vS eE,dH],own bJ vb.1 pg.2.2]++F) 4 Q (ar Q az (ar Q az (ar Q az (ar Q az (ar Q az (ar Q az (ar Q az (ar Q az (ar Q (s8 (.cons az (.cons az (.cons kR (.cons az (.cons az (.cons az .nil))))))) jM))))))))) (fW (.cons (pG (.cons az (.cons az (.cons kR (.cons az (.cons az (.cons az .nil))))))) (.cons bU (.cons bU (.cons bU .nil)))) fun _=>bU)) (fun _ _=>?_)
  refine el H fun tm hai H=>cl Q (cL 91) Q (dS.c hai)<|go 1<|dV Q T Q Q<|dV Q T Q Q<|al Q T oK nofun fun be=>sy 0 ?_
  refine go 1<|rg 2 2<|gl 1 [0]<|sy 2 ?_
  refine .fin ?_
  have H:=H.out
  refine ns 5 [0,1,2,3,4] 2 ?_
  exact jn ((pg.1,pj.1,pg.2.1,pj.2.1,false,tm.1.ab,tm.1.fL,pg.2.2),vb) H
 have H:=H.ct cj
 refine go 3<|cf H ?_ ?_ <;> intro H
 ·
  refine WP.skip<|wr 9 192<|gl 2 [1,0]<|Dv.gh (ou (E':=[(0,vS a0),(1,sl dA.K a1),(4,dR ba),(5,dR bc),(6,vI xc),(7,dR bd),(95,vB (decide (0<xc))),(129,agg [vS xd,sl Event.K xe]),(130,agg [vS ta,vS a0,sl aw pj.2.2,vS eE,vS tc,vI te])]) (l':=[aC bd 110 [vS ta,vS a0,sl aw pj.2.2,vS eE,vS tc,vI te],aC bc 113 [vS xd,sl Event.K xe],aC ba 113 [vS eE,dH],own bJ vb.1 pg.2.2]++F) 4 Q (ar Q az (ar Q az (ar Q az (ar Q az (ar Q az (ar Q az (ar Q az (ar Q az (ar Q (s8 (.cons az (.cons az (.cons kR (.cons az (.cons az (.cons az .nil))))))) jM))))))))) (fW (.cons (pG (.cons az (.cons az (.cons kR (.cons az (.cons az (.cons az .nil))))))) (.cons bU (.cons bU (.cons bU .nil)))) fun _=>bU)) (fun _ _=>?_)
  refine el H fun tn haj H=>cl Q (cL 91) Q (dS.c haj)<|go 1<|dV Q T Q Q<|dV Q T Q Q<|al Q T oK nofun fun bg=>sy 0 ?_
  refine go 1<|rg 2 2<|gl 1 [0]<|sy 2 ?_
  refine .fin ?_
  have H:=H.out
  refine ns 5 [0,1,2,3,4] 2 ?_
  exact jn ((pg.1,pj.1,pg.2.1,pj.2.1,decide (0<xc),tn.1.ab,tn.1.fL,pg.2.2),vb) H
 refine wr 9 0<|go 2<|gr H fun gw H=>Dv.fR Q T Q Q LY yz AS gw.1 gw.2<|fr Q T Q H3 Q<|kI Q T Q Dj Q<|go 2<|el H fun tp hak H=>cl Q (cL 10) Q (br.c hak)<|go 1<|wr 21 0<|gp 4 ?_
 cases ck:decide (tp<xc)
 ·
  have H:=H.cf ck
  refine go 17<|WP.cond Q nofun (fun _=>?_)
  refine WP.skip<|wr 9 192<|gl 2 [1,0]<|Dv.gh (ou (E':=[(0,vS a0),(1,sl dA.K a1),(4,dR ba),(5,dR bc),(6,vI xc),(7,dR bd),(11,vI tp),(95,vB (decide (0<xc))),(124,vB false),(129,agg [vS xd,sl Event.K xe]),(130,agg [vS ta,vS a0,sl aw pj.2.2,vS eE,vS tc,vI te])]) (l':=[aC bd 110 [vS ta,vS a0,sl aw pj.2.2,vS eE,vS tc,vI te],aC bc 113 [vS xd,sl Event.K xe],aC ba 113 [vS eE,dH],own bJ vb.1 pg.2.2]++F) 4 Q (ar Q az (ar Q az (ar Q az (ar Q az (ar Q az (ar Q az (ar Q az (ar Q az (ar Q az (ar Q az (ar Q (s8 (.cons az (.cons az (.cons kR (.cons az (.cons az (.cons az .nil))))))) jM))))))))))) (fW (.cons (pG (.cons az (.cons az (.cons kR (.cons az (.cons az (.cons az .nil))))))) (.cons bU (.cons bU (.cons bU .nil)))) fun _=>bU)) (fun _ _=>?_)
  refine el H fun tq ham H=>cl Q (cL 91) Q (dS.c ham)<|go 1<|dV Q T Q Q<|dV Q T Q Q<|al Q T oK nofun fun bh=>sy 0 ?_
  refine go 1<|rg 2 2<|gl 1 [0]<|sy 2 ?_
  refine .fin ?_
  have H:=H.out
  refine ns 5 [0,1,2,3,4] 2 ?_
  exact jn ((pg.1,pj.1,pg.2.1,pj.2.1,decide (0<xc),tq.1.ab,tq.1.fL,pg.2.2),vb) H
 have H:=H.ct ck
 refine gl 3 [1]<|gr H fun gy H=>Dv.fR Q (gg Q) Q Q qI kL mL gy.1 gy.2<|fr Q (gg Q) Q zN Q<|kI Q (gg Q) Q Dj Q<|gp 3 ?_
 cases cn:(((Event.K.at xe tp).bR)==0)
 ·
  have H:=H.cf cn
  refine go 8<|WP.cond Q nofun (fun _=>?_)
  refine WP.skip<|wr 9 192<|gl 2 [1,0]<|Dv.gh (ou (E':=[(0,vS a0),(1,sl dA.K a1),(4,dR ba),(5,dR bc),(6,vI xc),(7,dR bd),(11,vI tp),(95,vB (decide (0<xc))),(124,vB false),(129,agg [vS xd,sl Event.K xe]),(130,agg [vS ta,vS a0,sl aw pj.2.2,vS eE,vS tc,vI te])]) (l':=[aC bd 110 [vS ta,vS a0,sl aw pj.2.2,vS eE,vS tc,vI te],aC bc 113 [vS xd,sl Event.K xe],aC ba 113 [vS eE,dH],own bJ vb.1 pg.2.2]++F) 4 Q (ar Q az (ar Q az (ar Q az (ar Q az (ar Q az (ar Q az (ar Q az (ar Q az (ar Q az (ar Q az (ar Q (s8 (.cons az (.cons az (.cons kR (.cons az (.cons az (.cons az .nil))))))) jM))))))))))) (fW (.cons (pG (.cons az (.cons az (.cons kR (.cons az (.cons az (.cons az .nil))))))) (.cons bU (.cons bU (.cons bU .nil)))) fun _=>bU)) (fun _ _=>?_)
  refine el H fun tu han H=>cl Q (cL 91) Q (dS.c han)<|go 1<|dV Q T Q Q<|dV Q T Q Q<|al Q T oK nofun fun bi=>sy 0 ?_
  refine go 1<|rg 2 2<|gl 1 [0]<|sy 2 ?_
  refine .fin ?_
  have H:=H.out
  refine ns 5 [0,1,2,3,4] 2 ?_
  exact jn ((pg.1,pj.1,pg.2.1,pj.2.1,decide (0<xc),tu.1.ab,tu.1.fL,pg.2.2),vb) H
 have H:=H.ct cn
 refine gl 3 [1]<|gr H fun gz H=>Dv.fR Q (gg Q) Q Q qI kL mL gz.1 gz.2<|fr Q (gg Q) Q yY Q<|kI Q (gg Q) Q oc Q<|go 2<|cf H ?_ ?_ <;> intro H
 ·
  refine WP.skip<|wr 9 192<|gl 2 [1,0]<|Dv.gh (ou (E':=[(0,vS a0),(1,sl dA.K a1),(4,dR ba),(5,dR bc),(6,vI xc),(7,dR bd),(11,vI tp),(95,vB (decide (0<xc))),(124,vB (decide (((Event.K.at xe tp).ae)=eE))),(129,agg [vS xd,sl Event.K xe]),(130,agg [vS ta,vS a0,sl aw pj.2.2,vS eE,vS tc,vI te])]) (l':=[aC bd 110 [vS ta,vS a0,sl aw pj.2.2,vS eE,vS tc,vI te],aC bc 113 [vS xd,sl Event.K xe],aC ba 113 [vS eE,dH],own bJ vb.1 pg.2.2]++F) 4 Q (ar Q az (ar Q az (ar Q az (ar Q az (ar Q az (ar Q az (ar Q az (ar Q az (ar Q az (ar Q az (ar Q (s8 (.cons az (.cons az (.cons kR (.cons az (.cons az (.cons az .nil))))))) jM))))))))))) (fW (.cons (pG (.cons az (.cons az (.cons kR (.cons az (.cons az (.cons az .nil))))))) (.cons bU (.cons bU (.cons bU .nil)))) fun _=>bU)) (fun _ _=>?_)
  refine el H fun tw hao H=>cl Q (cL 91) Q (dS.c hao)<|go 1<|dV Q T Q Q<|dV Q T Q Q<|al Q T oK nofun fun bj=>sy 0 ?_
  refine go 1<|rg 2 2<|gl 1 [0]<|sy 2 ?_
  refine .fin ?_
  have H:=H.out
  refine ns 5 [0,1,2,3,4] 2 ?_
  exact jn ((pg.1,pj.1,pg.2.1,pj.2.1,decide (0<xc),tw.1.ab,tw.1.fL,pg.2.2),vb) H
 refine rg 4 8<|go 1<|el H fun tx hap H=>cl Q (cL 50) Q (dp.c hap)<|go 1<|sy 0 ?_
 refine .fin<|wr 9 192<|gl 2 [1,0]<|Dv.gh (ou (E':=[(0,vS a0),(1,sl dA.K a1),(4,dR ba),(5,dR bc),(6,vI xc),(7,dR bd),(11,vI tp),(95,vB (decide (0<xc))),(124,vB (decide (((Event.K.at xe tp).ae)=eE))),(129,agg [vS xd,sl Event.K xe]),(130,agg [vS ta,vS a0,sl aw pj.2.2,vS tx,vS tc,vI te])]) (l':=[aC bd 110 [vS ta,vS a0,sl aw pj.2.2,vS tx,vS tc,vI te],aC bc 113 [vS xd,sl Event.K xe],aC ba 113 [vS eE,dH],own bJ vb.1 pg.2.2]++F) 4 Q (ar Q az (ar Q az (ar Q az (ar Q az (ar Q az (ar Q az (ar Q az (ar Q az (ar Q az (ar Q az (ar Q (s8 (.cons az (.cons az (.cons kR (.cons az (.cons az (.cons az .nil))))))) jM))))))))))) (fW (.cons (pG (.cons az (.cons az (.cons kR (.cons az (.cons az (.cons az .nil))))))) (.cons bU (.cons bU (.cons bU .nil)))) fun _=>bU)) (fun _ _=>?_)
 refine el H fun tz haq H=>cl Q (cL 91) Q (dS.c haq)<|go 1<|dV Q T Q Q<|dV Q T Q Q<|al Q T oK nofun fun bl=>sy 0 ?_
 refine go 1<|rg 2 2<|gl 1 [0]<|sy 2 ?_
 refine .fin ?_
 have H:=H.out
 refine ns 5 [0,1,2,3,4] 2 ?_
 exact jn ((pg.1,pj.1,pg.2.1,pj.2.1,decide (0<xc),tz.1.ab,tz.1.fL,pg.2.2),vb) H
theorem oM.c (h:oM.f k a0 a1=some r):Tr prog 9 [sl dA.K a0,sl dA.K a1] [] (γ:=OV) (fun _=>True) (fun g=>eq g.1) (fun g=>[own Event.K g.1 r]):=by
 refine tf func9 h fun R0 F H=>?_
 refine so<|so<|wr 7 32<|go 1<|el H fun ta haa H=>cl Q (cL 18) Q (fc.c haa)<|go 1<|el H fun tc hac H=>cl Q (cL 37) Q (bM.c hac)<|Dv.fld Q T Q lO Q qI Q Q<|vg (dw Event.K none) fun _ _=>?_
 refine gr H fun ga H=>ap Event.K 0 tc.fL bF qI (.inr ⟨_,qI⟩) wB ga nofun fun va=>?_
 refine go 1<|wr 7 32<|go 1<|el H fun te had H=>cl Q (cL 18) Q (fc.c had)<|go 1<|el H fun tg hae H=>cl Q (cL 37) Q (bM.c hae)<|Dv.fld Q T Q lO Q qI Q Q<|gr H fun gb H=>ap Event.K 0 tg.fL bF qI (.inr ⟨_,qI⟩) wB gb nofun fun vb=>?_
 refine gq 1 ?_
 cases H.out; exact et vb 1 [0] 0
theorem eh.c (h:eh.f k a0 a1=some r):Pt prog 23 [sl MK.K a0,agg (bB.enc a1)] (vI r):=by
 refine pf func23 h fun R0 F H=>?_
 refine wr 2 1<|Dv.box Q T Q cA nofun fun ba=>go 1<|sr H id [] (fun _=>[]) (fun _=>[]) (fun pa H=>?_) (fun H=>?_)
 ·
  refine sp ?_
  cases H.out; exact ek 1
 refine so<|WP.block<|ws 1 [0] 0 ?_
 refine lq (fun j_ (pc:Int)=>eh.l0 k a0 a1 j_ pc) 0 H [0,3] (fun pc=>[(5,vI pc)]) (fun _=>[]) ?_
 rintro j_ xc H
 rcases j_ with _ | ja
 ·
  exact (aU.no H).elim
 try dsimp only at H
 rw [eh.l0] at H
 refine WP.seq<|wr 4 0<|go 2<|Dv.fj Q T Q mc<|go 1<|cf H ?_ ?_ <;> intro H
 ·
  refine WP.exit ?_
  have H:=H.out
  exact jn (xc,decide (xc<(a0.length:Int))) H
 refine WP.skip<|WP.seq<|WP.block<|wd mX 7 0<|go 2<|gr H fun ga H=>Dv.fR Q T Q Q mc pV ru ga.1 ga.2<|fr Q T Q oq Q<|iv Q T Q xE Q<|gl 1 [0]<|Dv.eqs [.string (((MK.K.at a0 xc).fK).ab),.string (((MK.K.at a0 xc).fK).aj),.string (((MK.K.at a0 xc).fK).ae),.bool (((MK.K.at a0 xc).fK).aq)] [.string a1.ab,.string a1.aj,.string a1.ae,.bool a1.aq] Q T Q Q Q Q eg79 (fun _=>mI 2 dc (fun _=>Ko ((MK.K.at a0 xc).fK) a1))<|.fin<|cf H ?_ ?_ <;> intro H
 ·
  exact WP.skip<|rg 3 0<|go 3<|bk ja (av (xc+1)) H
 refine sp ?_
 have H:=H.eR
 cases H.out; exact ek 1
theorem fH.c (h:fH.f a0 a1=some r):Pt prog 24 [agg (Pos.enc a0),agg (Pos.enc a1)] (vB r):=by
 refine pf func24 h fun R0 F H=>?_
 refine wr 3 3<|Dv.box Q T Q cA nofun fun ba=>Dv.box Q T Q cA nofun fun bc=>go 1<|wr 20 0<|kX 6 [1,0] ?_
 cases cc:decide (a0.bx<a1.bx)
 rotate_left
 ·
  have H:=H.ct cc
  refine gq 14 ?_
  cases H.out; exact ek 2
 have H:=H.cf cc
 refine kX 6 [1,0] ?_
 cases cg:(a0.bx==a1.bx)
 ·
  have H:=H.cf cg
  refine gq 8 ?_
  cases H.out; exact ek 2
 have H:=H.ct cg
 refine Es 8 [1,0] ?_
 cases H.out; exact ek 2
theorem mj.c (h:mj.f a0 a1=some r):Pt prog 75 [agg (bB.enc a0),agg (bB.enc a1)] (vB r):=by
 refine pf func75 h fun R0 F H=>?_
 refine wr 3 3<|Dv.box Q T Q cA nofun fun ba=>Dv.box Q T Q cA nofun fun bc=>go 1<|WP.seq<|sN [1,0]<|ce H ?_ ?_ <;> intro H
 ·
  refine spj [1,0] ?_
  cases H.out; exact ek 2
 refine WP.skip<|WP.seq<|sN [1,0]<|ce H ?_ ?_ <;> intro H
 ·
  refine spj [1,0] ?_
  cases H.out; exact ek 2
 refine WP.skip<|WP.seq<|sN [1,0]<|ce H ?_ ?_ <;> intro H
 ·
  refine spj [1,0] ?_
  cases H.out; exact ek 2
 refine WP.skip<|wr 8 0<|kX 4 [1] ?_
 cases cc:!a0.aq
 ·
  have H:=H.cf cc
  refine gq 4 ?_
  cases H.out; exact ek 2
 have H:=H.ct cc
 refine Es 4 [0] ?_
 cases H.out; exact ek 2
theorem eZ.c (h:eZ.f k a0 a1 a2=some r):Pt prog 25 [sl MK.K a0,agg (bB.enc a1),agg (Pos.enc a2)] (kZ [sl MK.K r.1,vB r.2]):=by
 refine pf func25 h fun R0 F H=>?_
 refine wr 4 3<|Dv.box Q T Q cA nofun fun ba=>Dv.box Q T Q cA nofun fun bc=>go 2<|wr 4 0<|gl 2 [1]<|el H fun ta haa H=>cl Q (cL 23) Q (eh.c haa)<|go 1<|so<|WP.seq<|so<|ce H ?_ ?_ <;> intro H
 ·
  refine wd mX 8 0<|go 2<|gr H fun ga H=>Dv.fR Q T Q Q mc pV ru ga.1 ga.2<|fr Q T Q nN Q<|iv Q T Q uQ Q<|gl 1 [0]<|el H fun tc hac H=>cl Q (cL 24) Q (fH.c hac)<|go 1<|WP.seq<|so<|ce H ?_ ?_ <;> intro H
  ·
   refine sp ?_
   cases H.out; exact ek 2
  refine WP.skip<|wr 4 4<|go 2<|vg (dw MK.K none) fun _ _=>?_
  refine gr H fun gb H=>ap MK.K 0 a0 bF mc (.inr ⟨_,mc⟩) wj gb nofun fun va=>?_
  refine go 1<|wr 6 32<|gl 3 [1]<|gr H fun gi H=>?_
  have had:ta.toNat<(([]:List MK)++a0).length:=bq gi
  refine Dv.jQ Q T Q (aa 0 Q) Q mc pV ru gi.1 gi.2<|fw Q T Q nN<|Dv.Jg (j:=ta.toNat) (f:=4) (jj:=0) (⟨((([]:List MK)++a0).getD ta.toNat default).fK,a2⟩:MK) Q T Q Q (aS (Pos.K.one _)) wI Ak Q Q had (Nat.le_of_ble_eq_true Q) Q nofun<|.fin<|so<|fz 0 [6,7] [] ?_
  cases H.out; exact ek 2
 refine WP.skip<|so<|sq H id [0,4,5,9] (fun pa=>[(11,vI pa.1)]) (fun _=>[]) (fun pa H=>?_) (fun H=>?_)
 rotate_left
 ·
  refine WP.block<|ws 2 [0,1] 0 ?_
  refine lq (fun j_ (pc:Int)=>eZ.l0 k a0 a1 j_ pc) 0 H [0,4,5,9] (fun pc=>[(11,vI pc)]) (fun _=>[]) ?_
  rintro j_ xc H
  rcases j_ with _ | ja
  ·
   exact (aU.no H).elim
  try dsimp only at H
  rw [eZ.l0] at H
  refine WP.seq<|wd mX 13 0<|go 2<|Dv.fj Q T Q mc<|gp 2 ?_
  cases cc:decide (xc<(a0.length:Int))
  ·
   have H:=H.cf cc
   refine go 8<|WP.cond Q nofun (fun _=>?_)
   refine WP.exit ?_
   have H:=H.out
   exact jn (xc,false) H
  have H:=H.ct cc
  refine go 2<|gr H fun gj H=>Dv.fR Q (gg Q) Q Q mc pV ru gj.1 gj.2<|fr Q (gg Q) Q oq Q<|iv Q (gg Q) Q xE Q<|gl 1 [1]<|el H fun te hae H=>Dv.call Q (gg Q) (cL 75) Q (mj.c hae)<|go 1<|cf H ?_ ?_ <;> intro H
  ·
   refine WP.exit ?_
   have H:=H.out
   exact jn (xc,te) H
  exact WP.skip<|WP.block<|rg 3 0<|go 3<|bk ja (av (xc+1)) H
 refine wr 6 16<|go 3<|gr H fun gk H=>Dv.sls Q T Q mc pV ru dK (eY Q gk.1) gk.2.1 gk.2.2<|vg (dw MK.K none) fun _ _=>?_
 refine gr H fun gm H=>ap MK.K 0 ((a0.take pa.1.toNat).drop 0) bF mc (.inr ⟨_,mc⟩) wj gm nofun fun vb=>?_
 refine go 1<|wr 7 32<|gl 3 [2,1]<|Dv.kJ (qs:=[vS a1.ab,vS a1.aj,vS a1.ae,vB a1.aq,vI a2.bx,vS a2.bV]) (css:=[bB.enc a1,Pos.enc a2]) Q T pV pl83 LX Q ⟨(aS (bB.K.one _)),⟨(aS (Pos.K.one _)),T⟩⟩ Q Q<|Dv.lit MK.K ([(⟨a1,a2⟩:MK)]:List MK) (css:=[[vS a1.ab,vS a1.aj,vS a1.ae,vB a1.aq,vI a2.bx,vS a2.bV]]) Q T mc pV ru LX Q dc dc Q ⟨(aS (ai (ah Q) (ai (ah Q) (ai (ah Q) (ai (ah Q) (ai (ah Q) (ai (ah Q) bO))))))),T⟩ Q Q Q<|gr H fun gn H=>ap MK.K 0 ([(⟨a1,a2⟩:MK)]:List MK) bF mc (.inr ⟨_,mc⟩) wj gn nofun fun vd=>?_
 refine go 1<|wr 7 16<|go 3<|gr H fun gu H=>Dv.sls Q T Q mc pV ru (eY Q gu.1) dK gu.2.1 gu.2.2<|gr H fun gv H=>ap MK.K 0 ((a0.take a0.length).drop pa.1.toNat) bF mc (.inr ⟨_,mc⟩) wj gv nofun fun ve=>?_
 refine go 2<|fz 0 [6,7] [] ?_
 cases H.out; exact ek 2
theorem p9.c (h:p9.f a0=some r):Pt prog 40 [agg (ak.enc a0)] (agg (bB.enc r)):=by
 refine pf func40 h fun R0 F H=>?_
 refine wr 2 3<|Dv.box Q T Q cA nofun fun ba=>al Q T zc79 nofun fun bc=>.fin<|wr 10 512<|gl 8 [1,1,1,1]<|Dv.kJ (qs:=[vS a0.ab,vS a0.aj,vS a0.ae,vB a0.aq]) (css:=[[vS a0.ab],[vS a0.aj],[vS a0.ae],[vB a0.aq]]) Q T LH pl79 z79 Q ⟨(cells_one (ah Q)),⟨(cells_one (ah Q)),⟨(cells_one (ah Q)),⟨(cells_one (ah Q)),T⟩⟩⟩⟩ Q Q<|sy 0 ?_
 refine .fin ?_
 cases H.out; exact r2 i2 Q (.cons (au Q LH Q Ke (aa 0 Q) Q) .nil)
theorem mu.c (h:mu.f k a0=some r):Pt prog 151 [vS a0] (vB r):=by
 refine pf func151 h fun R0 F H=>?_
 refine so<|wr 3 0<|go 1<|el H fun ta haa H=>cl Q (cL 150) Q (bW.c haa)<|go 1<|wr 10 0<|gp 3 ?_
 cases cc:decide (a0=eE)
 rotate_left
 ·
  have H:=H.ct cc
  refine gq 7 ?_
  cases H.out; exact ek 0
 have H:=H.cf cc
 refine gp 4 ?_
 cases cg:decide (a0=(⟨#[109,97,105,110]⟩:BA))
 rotate_left
 ·
  have H:=H.ct cg
  refine gq 3 ?_
  cases H.out; exact ek 0
 have H:=H.cf cg
 refine gq 3 ?_
 cases H.out; exact ek 0
theorem gI.c (h:gI.f k a0=some r):Pt prog 92 [agg (ak.enc a0)] (vB r):=by
 refine pf func92 h fun R0 F H=>?_
 refine wr 2 1<|Dv.box Q T Q cA nofun fun ba=>go 1<|wr 4 0<|gl 2 [0]<|el H fun ta haa H=>cl Q (cL 149) Q (iA.c haa)<|go 1<|wr 4 0<|gl 2 [0]<|el H fun tc hac H=>cl Q (cL 149) Q (iA.c hac)<|go 1<|wr 4 0<|gl 2 [0]<|el H fun te had H=>cl Q (cL 150) Q (bW.c had)<|go 1<|wr 4 0<|gl 2 [0]<|el H fun tg hae H=>cl Q (cL 151) Q (mu.c hae)<|go 1<|WP.seq<|wr 22 0<|gp 3 ?_
 cases cc:!ta
 rotate_left
 ·
  have H:=H.ct cc
  refine go 19<|WP.cond Q (fun _=>?_) nofun
  refine sp ?_
  cases H.out; exact ek 1
 have H:=H.cf cc
 refine kX 5 [0] ?_
 cases cg:decide (a0.aV<0)
 rotate_left
 ·
  have H:=H.ct cg
  refine go 14<|WP.cond Q (fun _=>?_) nofun
  refine sp ?_
  cases H.out; exact ek 1
 have H:=H.cf cg
 refine kX 5 [0] ?_
 cases ci:decide (1099511627776<a0.aV)
 rotate_left
 ·
  have H:=H.ct ci
  refine go 9<|WP.cond Q (fun _=>?_) nofun
  refine sp ?_
  cases H.out; exact ek 1
 have H:=H.cf ci
 refine kX 5 [0] ?_
 cases cj:decide (a0.bf<0)
 rotate_left
 ·
  have H:=H.ct cj
  refine go 4<|WP.cond Q (fun _=>?_) nofun
  refine sp ?_
  cases H.out; exact ek 1
 have H:=H.cf cj
 refine gl 4 [0]<|ce H ?_ ?_ <;> intro H
 ·
  refine sp ?_
  cases H.out; exact ek 1
 refine WP.skip<|WP.seq<|sN [0]<|WP.block<|so<|ce H ?_ ?_ <;> intro H
 ·
  refine wr 23 0<|gp 2 ?_
  cases ck:tc
  ·
   have H:=H.cf ck
   refine gq 21 ?_
   cases H.out; exact ek 1
  have H:=H.ct ck
  refine gp 3 ?_
  cases cn:te
  ·
   have H:=H.cf cn
   refine gq 18 ?_
   cases H.out; exact ek 1
  have H:=H.ct cn
  refine gp 3 ?_
  cases co:tg
  ·
   have H:=H.cf co
   refine gq 15 ?_
   cases H.out; exact ek 1
  have H:=H.ct co
  refine kX 5 [0] ?_
  cases cp:!a0.kb
  ·
   have H:=H.cf cp
   refine gq 10 ?_
   cases H.out; exact ek 1
  have H:=H.ct cp
  refine kX 5 [0] ?_
  cases cq:(a0.bZ==0)
  ·
   have H:=H.cf cq
   refine gq 5 ?_
   cases H.out; exact ek 1
  have H:=H.ct cq
  refine Es 5 [0] ?_
  cases H.out; exact ek 1
 refine so<|cf H ?_ ?_ <;> intro H
 ·
  refine so<|cf H ?_ ?_ <;> intro H
  ·
   refine WP.skip<|sp ?_
   cases H.out; exact ek 1
  refine wr 39 0<|kX 4 [0] ?_
  cases cr:decide (a0.ab=eE)
  ·
   have H:=H.cf cr
   refine gq 35 ?_
   cases H.out; exact ek 1
  have H:=H.ct cr
  refine kX 5 [0] ?_
  cases cu:decide (a0.bI=eE)
  ·
   have H:=H.cf cu
   refine gq 30 ?_
   cases H.out; exact ek 1
  have H:=H.ct cu
  refine kX 5 [0] ?_
  cases cw:decide (a0.ae=eE)
  ·
   have H:=H.cf cw
   refine gq 25 ?_
   cases H.out; exact ek 1
  have H:=H.ct cw
  refine kX 5 [0] ?_
  cases cy:!a0.kb
  ·
   have H:=H.cf cy
   refine gq 20 ?_
   cases H.out; exact ek 1
  have H:=H.ct cy
  refine kX 5 [0] ?_
  cases cz:(a0.bZ==0)
  ·
   have H:=H.cf cz
   refine gq 15 ?_
   cases H.out; exact ek 1
  have H:=H.ct cz
  refine kX 5 [0] ?_
  cases caa:!a0.aq
  ·
   have H:=H.cf caa
   refine gq 10 ?_
   cases H.out; exact ek 1
  have H:=H.ct caa
  refine kX 5 [0] ?_
  cases cab:decide (0≤a0.aX)
  ·
   have H:=H.cf cab
   refine gq 5 ?_
   cases H.out; exact ek 1
  have H:=H.ct cab
  refine Es 5 [0] ?_
  cases H.out; exact ek 1
 refine wr 23 0<|kX 3 [0] ?_
 cases cac:a0.kb
 ·
  have H:=H.cf cac
  refine kX 14 [0] ?_
  cases cad:!a0.kb
  ·
   have H:=H.cf cad
   refine go 6<|wr 25 0<|gp 2 ?_
   cases cae:tc
   ·
    have H:=H.cf cae
    refine gq 23 ?_
    cases H.out; exact ek 1
   have H:=H.ct cae
   refine gq 23 ?_
   cases H.out; exact ek 1
  have H:=H.ct cad
  refine gl 6 [0]<|wr 25 0<|gp 2 ?_
  cases caf:tc
  ·
   have H:=H.cf caf
   refine gq 23 ?_
   cases H.out; exact ek 1
  have H:=H.ct caf
  refine gp 3 ?_
  cases cag:(a0.bZ==0)
  ·
   have H:=H.cf cag
   refine gq 20 ?_
   cases H.out; exact ek 1
  have H:=H.ct cag
  refine kX 5 [0] ?_
  cases cah:decide (a0.bI=eE)
  ·
   have H:=H.cf cah
   refine gq 15 ?_
   cases H.out; exact ek 1
  have H:=H.ct cah
  refine kX 5 [0] ?_
  cases cai:decide (a0.ae=eE)
  ·
   have H:=H.cf cai
   refine gq 10 ?_
   cases H.out; exact ek 1
  have H:=H.ct cai
  refine kX 5 [0] ?_
  cases caj:(a0.aX==0)
  ·
   have H:=H.cf caj
   refine gq 5 ?_
   cases H.out; exact ek 1
  have H:=H.ct caj
  refine Es 5 [0] ?_
  cases H.out; exact ek 1
 have H:=H.ct cac
 refine kX 5 [0] ?_
 cases cak:decide (1≤a0.bZ)
 ·
  have H:=H.cf cak
  refine kX 9 [0] ?_
  cases cal:!a0.kb
  ·
   have H:=H.cf cal
   refine go 6<|wr 25 0<|gp 2 ?_
   cases cam:tc
   ·
    have H:=H.cf cam
    refine gq 23 ?_
    cases H.out; exact ek 1
   have H:=H.ct cam
   refine gq 23 ?_
   cases H.out; exact ek 1
  have H:=H.ct cal
  refine gl 6 [0]<|wr 25 0<|gp 2 ?_
  cases can:tc
  ·
   have H:=H.cf can
   refine gq 23 ?_
   cases H.out; exact ek 1
  have H:=H.ct can
  refine gp 3 ?_
  cases cao:(a0.bZ==0)
  ·
   have H:=H.cf cao
   refine gq 20 ?_
   cases H.out; exact ek 1
  have H:=H.ct cao
  refine kX 5 [0] ?_
  cases caq:decide (a0.bI=eE)
  ·
   have H:=H.cf caq
   refine gq 15 ?_
   cases H.out; exact ek 1
  have H:=H.ct caq
  refine kX 5 [0] ?_
  cases car:decide (a0.ae=eE)
  ·
   have H:=H.cf car
   refine gq 10 ?_
   cases H.out; exact ek 1
  have H:=H.ct car
  refine kX 5 [0] ?_
  cases cas:(a0.aX==0)
  ·
   have H:=H.cf cas
   refine gq 5 ?_
   cases H.out; exact ek 1
  have H:=H.ct cas
  refine Es 5 [0] ?_
  cases H.out; exact ek 1
 have H:=H.ct cak
 refine kX 5 [0] ?_
 cases cat:decide (a0.bZ≤60)
 rotate_left
 ·
  have H:=H.ct cat
  refine go 10<|wr 25 0<|gp 2 ?_
  cases cau:tc
  ·
   have H:=H.cf cau
   refine gq 23 ?_
   cases H.out; exact ek 1
  have H:=H.ct cau
  refine kX 8 [0] ?_
  cases cav:decide (a0.bI=eE)
  ·
   have H:=H.cf cav
   refine gq 15 ?_
   cases H.out; exact ek 1
  have H:=H.ct cav
  refine kX 5 [0] ?_
  cases caw:decide (a0.ae=eE)
  ·
   have H:=H.cf caw
   refine gq 10 ?_
   cases H.out; exact ek 1
  have H:=H.ct caw
  refine kX 5 [0] ?_
  cases cax:(a0.aX==0)
  ·
   have H:=H.cf cax
   refine gq 5 ?_
   cases H.out; exact ek 1
  have H:=H.ct cax
  refine Es 5 [0] ?_
  cases H.out; exact ek 1
 have H:=H.cf cat
 refine kX 4 [0] ?_
 cases cay:!a0.kb
 ·
  have H:=H.cf cay
  refine go 6<|wr 25 0<|gp 2 ?_
  cases caz:tc
  ·
   have H:=H.cf caz
   refine gq 23 ?_
   cases H.out; exact ek 1
  have H:=H.ct caz
  refine gq 23 ?_
  cases H.out; exact ek 1
 have H:=H.ct cay
 refine gl 6 [0]<|wr 25 0<|gp 2 ?_
 cases cba:tc
 ·
  have H:=H.cf cba
  refine gq 23 ?_
  cases H.out; exact ek 1
 have H:=H.ct cba
 refine gp 3 ?_
 cases cbb:(a0.bZ==0)
 ·
  have H:=H.cf cbb
  refine gq 20 ?_
  cases H.out; exact ek 1
 have H:=H.ct cbb
 refine kX 5 [0] ?_
 cases cbc:decide (a0.bI=eE)
 ·
  have H:=H.cf cbc
  refine gq 15 ?_
  cases H.out; exact ek 1
 have H:=H.ct cbc
 refine kX 5 [0] ?_
 cases cbd:decide (a0.ae=eE)
 ·
  have H:=H.cf cbd
  refine gq 10 ?_
  cases H.out; exact ek 1
 have H:=H.ct cbd
 refine kX 5 [0] ?_
 cases cbe:(a0.aX==0)
 ·
  have H:=H.cf cbe
  refine gq 5 ?_
  cases H.out; exact ek 1
 have H:=H.ct cbe
 refine Es 5 [0] ?_
 cases H.out; exact ek 1
theorem oH.c (h:oH.f k a0 a1 a2 a3=some r):Pt prog 93 [agg (bA.enc a0),vS a1,vS a2,vS a3] (vI r):=by
 refine pf func93 h fun R0 F H=>?_
 refine wr 2 1<|Dv.box Q T Q cA nofun fun ba=>go 1<|wr 5 24<|gl 2 [0]<|el H fun ta haa H=>cl Q (cL 77) Q (iz.c haa)<|al Q T oK nofun fun bc=>sy 0 ?_
 refine .fin<|wr 4 0<|gl 2 [0]<|el H fun tc hac H=>cl Q (cL 148) Q (eG.c hac)<|go 1<|WP.seq<|so<|ce H ?_ ?_ <;> intro H
 ·
  refine sp ?_
  cases H.out; exact ek 2
 refine WP.skip<|wr 7 0<|gl 3 [0]<|gr H fun ga H=>Dv.fR Q T Q Q qI kL mL ga.1 ga.2<|fr Q T Q yY Q<|kI Q T Q oc Q<|go 1<|WP.seq<|wr 24 0<|gp 3 ?_
 cases cc:decide (a3=eE)
 rotate_left
 ·
  have H:=H.ct cc
  refine go 21<|WP.cond Q (fun _=>?_) nofun
  refine sp ?_
  cases H.out; exact ek 2
 have H:=H.cf cc
 refine gp 5 ?_
 cases cg:decide (a3=a2)
 rotate_left
 ·
  have H:=H.ct cg
  refine go 16<|WP.cond Q (fun _=>?_) nofun
  refine sp ?_
  cases H.out; exact ek 2
 have H:=H.cf cg
 refine gp 3 ?_
 cases ci:decide (a3=(⟨#[109,97,105,110]⟩:BA))
 ·
  have H:=H.cf ci
  refine gp 8 ?_
  cases cj:!decide (((Event.K.at ta.fL tc).ae)=eE)
  ·
   have H:=H.cf cj
   refine go 5<|WP.cond Q nofun (fun _=>?_)
   refine WP.skip<|sp ?_
   cases H.out; exact ek 2
  have H:=H.ct cj
  refine go 5<|ce H ?_ ?_ <;> intro H
  ·
   refine sp ?_
   cases H.out; exact ek 2
  refine WP.skip<|sp ?_
  cases H.out; exact ek 2
 have H:=H.ct ci
 refine gp 5 ?_
 cases ck:decide (((Event.K.at ta.fL tc).ae)=eE)
 rotate_left
 ·
  have H:=H.ct ck
  refine go 8<|WP.cond Q (fun _=>?_) nofun
  refine sp ?_
  cases H.out; exact ek 2
 have H:=H.cf ck
 refine gp 3 ?_
 cases cn:!decide (((Event.K.at ta.fL tc).ae)=eE)
 ·
  have H:=H.cf cn
  refine go 5<|WP.cond Q nofun (fun _=>?_)
  refine WP.skip<|sp ?_
  cases H.out; exact ek 2
 have H:=H.ct cn
 refine go 5<|ce H ?_ ?_ <;> intro H
 ·
  refine sp ?_
  cases H.out; exact ek 2
 refine WP.skip<|sp ?_
 cases H.out; exact ek 2
theorem kN.c (h:kN.f k a0 a1=some r):Pt prog 94 [agg (n5.enc a0),agg (ak.enc a1)] (kZ [agg (n5.enc r.1),agg (ak.enc r.2.1),vB r.2.2]):=by
 refine pf func94 h fun R0 F H=>?_
 refine wr 5 15<|Dv.box Q T Q cA nofun fun ba=>Dv.box Q T Q cA nofun fun bc=>al Q T Kq nofun fun bd=>al Q T u7 nofun fun be=>go 1<|sr H id [2,3,4,5] (fun _=>[]) (fun _=>[]) (fun pa H=>?_) (fun H=>?_)
 rotate_left
 ·
  refine so<|WP.block<|ws 4 [0,1,2,3] 0 ?_
  refine lq (fun j_ (pc:Int)=>kN.l0 k a0 a1 j_ pc) 0 H [2,3,4,5] (fun pc=>[(7,vI pc)]) (fun _=>[]) ?_
  rintro j_ xc H
  rcases j_ with _ | ja
  ·
   exact (aU.no H).elim
  try dsimp only at H
  rw [kN.l0] at H
  refine WP.seq<|wr 5 0<|gl 3 [3]<|Dv.fj Q T Q eW<|go 1<|cf H ?_ ?_ <;> intro H
  ·
   refine WP.exit ?_
   have H:=H.out
   exact jn (xc,decide (xc<(a0.fL.length:Int))) H
  refine WP.skip<|WP.seq<|WP.block<|wd mX 7 0<|gl 3 [3]<|gr H fun ga H=>Dv.fR Q T Q Q eW gN iy ga.1 ga.2<|iv Q T Q uZ Q<|gl 1 [2]<|Dv.eqs [.int .i64 ((ak.K.at a0.fL xc).aH),.string ((ak.K.at a0.fL xc).ab),.string ((ak.K.at a0.fL xc).aj),.string ((ak.K.at a0.fL xc).bI),.string ((ak.K.at a0.fL xc).ae),.bool ((ak.K.at a0.fL xc).aq),.bool ((ak.K.at a0.fL xc).kb),.int .i64 ((ak.K.at a0.fL xc).bZ),.int .i64 ((ak.K.at a0.fL xc).aX),.int .i64 ((ak.K.at a0.fL xc).aV),.int .i64 ((ak.K.at a0.fL xc).bf)] [.int .i64 a1.aH,.string a1.ab,.string a1.aj,.string a1.bI,.string a1.ae,.bool a1.aq,.bool a1.kb,.int .i64 a1.bZ,.int .i64 a1.aX,.int .i64 a1.aV,.int .i64 a1.bf] Q T Q Q Q Q JN (fun _=>mI 2 dc (fun _=>DJ (ak.K.at a0.fL xc) a1))<|.fin<|cf H ?_ ?_ <;> intro H
  ·
   exact WP.skip<|rg 3 0<|go 3<|bk ja (av (xc+1)) H
  refine wr 5 12<|gl 1 [3]<|Dv.kJ (qs:=[vI 0,vS eE,vS eE,vS eE,vS eE,vB false,vB false,vI 0,vI 0,vI 0,vI 0]) (css:=[]) Q T gN BC vM Q T Q Q<|sy 1 ?_
  refine sy 0 ?_
  refine gq 1 ?_
  have H:=H.eR
  cases H.out; exact r4 i2 Q (.cons (au Q Bv Q JI (aa 1 Q) Q) (.cons (au Q gN Q iy (aa 0 Q) Q) (.cons (aB Q) .nil)))
 refine so<|wr 5 8<|gl 3 [3]<|vg (dw ak.K none) fun _ _=>?_
 refine gr H fun gb H=>ap ak.K 0 a0.fL bF eW (.inr ⟨_,eW⟩) nS gb nofun fun va=>?_
 refine go 1<|wr 5 8<|gl 2 [3]<|Dv.lit ak.K ([a1]:List ak) (css:=[ak.enc a1]) Q T eW gN iy vM Q dc dc Q ⟨(aS (ak.K.one _)),T⟩ Q Q Q<|gr H fun gi H=>ap ak.K 0 ([a1]:List ak) bF eW (.inr ⟨_,eW⟩) nS gi nofun fun vb=>?_
 refine go 1<|WP.seq<|wr 5 0<|go 1<|Dv.kl Q T Q (aa 0 Q) eW<|gl 3 [4]<|cf H ?_ ?_ <;> intro H
 ·
  refine WP.skip<|wr 10 384<|gl 5 [4,4]<|Dv.kJ (qs:=[vI a0.pP,eq vb.1,vI a0.qm]) (css:=[[vI a0.pP],[eq vb.1],[vI a0.qm]]) Q T Bv FT Jk Q ⟨(cells_one (ah Q)),⟨(cells_one bH),⟨(cells_one (ah Q)),T⟩⟩⟩ Q Q<|Dv.kJ (qs:=[vI 0,vS eE,vS eE,vS eE,vS eE,vB false,vB false,vI 0,vI 0,vI 0,vI 0]) (css:=[]) Q T gN BC vM Q T Q Q<|sy 2 ?_
  refine sy 1 ?_
  refine go 1<|fz 0 [4,5,6] [0,1] ?_
  cases H.out; exact r4 i2 Q (.cons (au Q Bv Q JI (aa 1 Q) Q) (.cons (au Q gN Q iy (aa 0 Q) Q) (.cons (aB Q) .nil)))
 refine WP.seq<|fz 0 [2,3,4,5,8,37] [] ?_
 refine dg mX 14 6144<|gl 3 [3]<|gr H fun gj H=>Dv.sls Q T Q eW gN iy (eY Q gj.1) dK gj.2.1 gj.2.2<|gl 3 [3]<|Dv.kJ (qs:=[vI a0.pP,sl ak.K ((((([]:List ak)++a0.fL)++([a1]:List ak)).take (((([]:List ak)++a0.fL)++([a1]:List ak)).length)).drop ((1:Int).toNat)),vI (av (a0.qm+1))]) (css:=[[vI a0.pP],[sl ak.K ((((([]:List ak)++a0.fL)++([a1]:List ak)).take (((([]:List ak)++a0.fL)++([a1]:List ak)).length)).drop ((1:Int).toNat))],[vI (av (a0.qm+1))]]) Q T Bv FT Jk Q ⟨(cells_one (ah Q)),⟨(cells_one dL),⟨(cells_one (ah Q)),T⟩⟩⟩ Q Q<|go 1<|gr H fun gk H=>Dv.fR Q T Q Q eW gN iy gk.1 gk.2<|iv Q T Q uZ Q<|sx 1 Q T Q Q cA sz118 Q Q Q pD ?_
 refine sv 0 ?_
 refine gq 1 ?_
 cases H.out; exact r4 i2 Q (.cons (au Q Bv Q JI (aa 1 Q) Q) (.cons (au Q gN Q iy (aa 0 Q) Q) (.cons (aB Q) .nil)))
end Go.Proofs.YtfknmdelgepbjaaGreatDoor
